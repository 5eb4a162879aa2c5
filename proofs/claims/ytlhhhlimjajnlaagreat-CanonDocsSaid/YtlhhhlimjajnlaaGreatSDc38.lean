/- Parts of the proof of canonDocs_holds, kept and merged by a program of mine (wip/tools/slim.py) out of my texts: P14e P14j -/
import Derived.Test.YtlhhhlimjajnlaaGreatSDc37
import Derived.Test.YtlhhhlimjajnlaaGreatSDc9
import Derived.Test.YtlhhhlimjajnlaaGreatSDc22
section
set_option linter.unusedVariables false
set_option linter.unusedSimpArgs false
namespace Go.Proofs.YtlhhhlimjajnlaaGreat.P14
open Go.RowKit Go.Proofs.YtlhhhlimjajnlaaGreat Go.Proofs.YtlhhhlimjajnlaaGreat.Q Go.Proofs.YtlhhhlimjajnlaaGreatW.PrintWords Go.Proofs.YtlhhhlimjajnlaaGreat.X Go.Proofs.YtlhhhlimjajnlaaGreat.Ck Go.Proofs.YtlhhhlimjajnlaaGreat.P11
theorem evN {α : Type} {g : Nat → Option α} {r : α} (n : Nat) (h : ∀ k, g (k + n) = some r) : Ev g r := ⟨n, fun k hk => by rw [show k = (k - n) + n from by omega]; exact h _⟩
theorem evU {α : Type} {g f : Nat → Option α} {r : α} (n : Nat) (e : Ev f r) (h : ∀ k, g (k + n) = f k) : Ev g r := by
 obtain ⟨K, hK⟩ := e
 exact ⟨K + n, fun k hk => by rw [show k = (k - n) + n from by omega, h]; exact hK _ (by omega)⟩
theorem rdT (D : List Nod) (i : Nat) : rd_T41 D (i : Int) = D.getD i nz := rfl
theorem rdI (D : List Nod) (i : Int) : rd_T41 D i = D.getD i.toNat nz := rfl
theorem wrUp (i : Nat) (h : i ≤ 9000000000000000000) : wrap64 ((i : Int) + 1) = ((i + 1 : Nat) : Int) := by unfold wrap64; omega
theorem wrDown (i : Nat) (h : i ≤ 9000000000000000000) : wrap64 (((i + 1 : Nat) : Int) - 1) = (i : Int) := by unfold wrap64; omega
section
variable {N : List ByteArray} {D : List Nod}
end
section
variable {N : List ByteArray} {D : List Nod}
theorem take_get {i k : Nat} (hk : k < i) (hi : i ≤ D.length) : (D.take i).getD k nz = D.getD k nz := by
 rw [List.getD_eq_getElem?_getD, List.getD_eq_getElem?_getD, List.getElem?_take_of_lt hk]
theorem take_len {i : Nat} (hi : i ≤ D.length) : (D.take i).length = i := by rw [List.length_take]; omega
theorem take_one {i : Nat} (hi : i < D.length) : D.take (i + 1) = D.take i ++ [D.getD i nz] := by
 rw [List.take_add_one, List.getD_eq_getElem?_getD, List.getElem?_eq_getElem hi]; rfl
theorem drop_one {i : Nat} (hi : i < D.length) : D.drop i = D.getD i nz :: D.drop (i + 1) := by
 rw [List.drop_eq_getElem_cons hi, List.getD_eq_getElem?_getD, List.getElem?_eq_getElem hi]; rfl
theorem around_op {i : Nat} {op : List Int} (hi : i ≤ D.length) (h : Rw (D.take i) op) (p : Int) : ∀ (j : Nat) (z : Int), op[j]? = some z → Ev (fun k => R4_around.l0 k p z N D) (decide (p ∈ op.take (j + 1))) := by
 intro j
 induction j with
 | zero =>
  intro z hz
  obtain ⟨z1, z2, z3, z4⟩ := h.at hz
  rw [take_len hi] at z2
  rw [take_get z2 hi, if_pos rfl] at z4
  have ht : op.take (0 + 1) = [z] := by rw [List.take_add_one, hz]; simp
  rw [ht]
  by_cases e : z = p
  ·refine evN 1 fun k => ?_
   show R4_around.l0 (k + 1) p z N D = _
   rw [R4_around.l0, if_pos z1, if_pos e, e]; simp
  ·refine evN 2 fun k => ?_
   show R4_around.l0 (k + 1 + 1) p z N D = _
   rw [R4_around.l0, if_pos z1, if_neg e, if_pos z1, if_pos (by omega), rdI, z4, R4_around.l0, if_neg (by omega)]
   simp; exact fun e' => e e'.symm
 | succ j ih =>
  intro z hz
  obtain ⟨z1, z2, z3, z4⟩ := h.at hz
  rw [take_len hi] at z2
  rw [take_get z2 hi, if_neg (by omega), Nat.add_sub_cancel] at z4
  have hjl := (List.getElem?_eq_some_iff.1 hz).1
  have hg : op[j]? = some op[j] := List.getElem?_eq_getElem (by omega)
  rw [show op.getD j 0 = op[j] from by rw [List.getD_eq_getElem?_getD, hg]; rfl] at z4
  have ht : op.take (j + 1 + 1) = op.take (j + 1) ++ [z] := by rw [List.take_add_one, hz]; rfl
  by_cases e : z = p
  ·refine evN 1 fun k => ?_
   show R4_around.l0 (k + 1) p z N D = _
   rw [R4_around.l0, if_pos z1, if_pos e, ht, e]; simp
  ·have hd : decide (p ∈ op.take (j + 1 + 1)) = decide (p ∈ op.take (j + 1)) := by
    rw [ht, decide_eq_decide, List.mem_append, List.mem_singleton]
    exact ⟨fun h => h.resolve_right fun h => e h.symm, fun h => .inl h⟩
   rw [hd]
   refine evU 1 (ih _ hg) fun k => ?_
   show R4_around.l0 (k + 1) p z N D = _
   rw [R4_around.l0, if_pos z1, if_neg e, if_pos z1, if_pos (by omega), rdI, z4]
theorem depth_op {i : Nat} {op : List Int} (hi : i ≤ D.length) (h : Rw (D.take i) op) : ∀ (j : Nat) (z : Int) (n : Nat), n + j ≤ 1000000 → op[j]? = some z → Ev (fun k => R4_depth.l0 k z n N D) ((n + j : Nat) : Int) := by
 intro j
 induction j with
 | zero =>
  intro z n hn hz
  obtain ⟨z1, z2, z3, z4⟩ := h.at hz
  rw [take_len hi] at z2
  rw [take_get z2 hi, if_pos rfl] at z4
  refine evN 1 fun k => ?_
  show R4_depth.l0 (k + 1) z n N D = _
  rw [R4_depth.l0, if_pos z1, if_pos (by omega), rdI, z4, if_neg (by omega)]; rfl
 | succ j ih =>
  intro z n hn hz
  obtain ⟨z1, z2, z3, z4⟩ := h.at hz
  rw [take_len hi] at z2
  rw [take_get z2 hi, if_neg (by omega), Nat.add_sub_cancel] at z4
  have hjl := (List.getElem?_eq_some_iff.1 hz).1
  have hg : op[j]? = some op[j] := List.getElem?_eq_getElem (by omega)
  rw [show op.getD j 0 = op[j] from by rw [List.getD_eq_getElem?_getD, hg]; rfl] at z4
  obtain ⟨y1, -, -, -⟩ := h.at hg
  have hn1 : n ≤ 9000000000000000000 := by omega
  refine evU 1 (by rw [show n + (j + 1) = n + 1 + j from by omega]; exact ih op[j] (n + 1) (by omega) hg) fun k => ?_
  show R4_depth.l0 (k + 1) z n N D = _
  rw [R4_depth.l0, if_pos z1, if_pos (by omega), rdI, z4, if_pos y1, wrUp n hn1]
theorem depth_ev {i : Nat} {op : List Int} (hi : i < D.length) (h : Rw (D.take i) op) (hl : op.length ≤ 100000) {j : Nat} (hz : op[j]? = some (D.getD i nz).f2) : Ev (fun k => R4_depth.f k N D (i : Int)) ((j + 1 : Nat) : Int) := by
 obtain ⟨z1, z2, z3, z4⟩ := h.at hz
 have hjl := (List.getElem?_eq_some_iff.1 hz).1
 refine evU 1 (by rw [show j + 1 = 1 + j from by omega]; exact depth_op (N := N) (by omega) h j _ 1 (by omega) hz) fun k => ?_
 show R4_depth.l0 (k + 1) (i : Int) 0 N D = _
 rw [R4_depth.l0, if_pos (by omega), if_pos (by omega), rdT, if_pos z1, show wrap64 (0 + 1) = ((1 : Nat) : Int) from by unfold wrap64; omega]
theorem last_op {P : List Nod} {x : Nod} {op : List Int} (h : rows (prK (P ++ [x])) = some op) : ∃ o, op.getLast? = some o ∧ (x.f0 = 1 → o = (P.length : Int)) ∧ (¬ x.f0 = 1 → o = x.f2 ∧ 0 < P.length) := by
 rw [prK_app, show prK [x] = [(x, x.f1)] from rfl] at h
 obtain ⟨o, o', h1, h2, h3⟩ := rows_at (prK P) [] (x, x.f1) op h
 rw [h3] at h
 obtain rfl := Option.some.inj h
 obtain ⟨p1, p2⟩ := rows_path _ _ _ rfl h1
 unfold right at h2
 by_cases hl : prK P = []
 ·rw [if_pos hl] at h2
  have hP : P = [] := prK_nil.1 hl
  subst hP
  by_cases c : x.f0 = 1 ∧ x.f2 = -1
  ·rw [if_pos c] at h2
   obtain rfl := Option.some.inj h2
   exact ⟨0, rfl, fun _ => rfl, fun e => absurd c.1 e⟩
  ·rw [if_neg c] at h2; cases h2
 ·rw [if_neg hl] at h2
  have hpos : 0 < P.length := List.length_pos_iff.2 fun e => hl (prK_nil.2 e)
  by_cases hm : x.f2 ∈ o
  ·rw [if_pos hm] at h2
   simp only at h2
   have hlt := List.idxOf_lt_length_of_mem hm
   have hlast : (o.take (o.idxOf x.f2 + 1)).getLast? = some x.f2 := by
    rw [List.take_add_one, List.getElem?_eq_getElem hlt, List.getElem_idxOf]; simp
   split at h2
   ·rename_i c1
    split at h2
    ·cases h2
    ·obtain rfl := Option.some.inj h2
     refine ⟨_, List.getLast?_concat .., fun _ => by rw [prK_len], fun e => absurd c1 e⟩
   ·rename_i c1
    have : o' = o.take (o.idxOf x.f2 + 1) := by
     split at h2
     ·split at h2
      ·cases h2
      ·exact (Option.some.inj h2).symm
     ·split at h2
      ·cases h2
      ·exact (Option.some.inj h2).symm
    rw [this]
    exact ⟨_, hlast, fun e => absurd e c1, fun _ => ⟨rfl, hpos⟩⟩
  ·rw [if_neg hm] at h2; cases h2
theorem around_ev {i : Nat} {op : List Int} (hb : D.length ≤ 1000000) (hi : i < D.length) (h0 : 0 < i) (h : Rw (D.take i) op) {p : Int} (hp : (D.getD p.toNat nz).f0 = 1) (hp0 : 0 ≤ p) : Ev (fun k => R4_around.f k N D p (wrap64 ((i : Int) - 1))) (decide (p ∈ op)) := by
 obtain ⟨m, rfl⟩ : ∃ m, i = m + 1 := ⟨i - 1, by omega⟩
 have hbig : m ≤ 9000000000000000000 := by omega
 rw [wrDown m hbig]
 obtain ⟨o, l1, l2, l3⟩ := last_op (P := D.take m) (x := D.getD m nz) (op := op) (by rw [← take_one (by omega)]; exact h.r)
 rw [take_len (by omega)] at l2 l3
 have hne : 0 < op.length := by
  cases op with
  | nil => cases l1
  | cons a t => simp
 have hlast : op[op.length - 1]? = some o := by rw [← List.getLast?_eq_getElem?]; exact l1
 have hall : op.take (op.length - 1 + 1) = op := by rw [show op.length - 1 + 1 = op.length from by omega, List.take_length]
 have key := around_op (N := N) (by omega) h p _ o hlast
 rw [hall] at key
 unfold R4_around.f
 by_cases c1 : (D.getD m nz).f0 = 1
 ·rw [← l2 c1]; exact key
 ·obtain ⟨e1, e2⟩ := l3 c1
  refine evU 1 key fun k => ?_
  show R4_around.l0 (k + 1) p (m : Int) N D = _
  rw [R4_around.l0, if_pos (by omega), if_neg (fun e => c1 (by rw [← hp, ← e]; rfl)), if_pos (by omega), if_pos (by omega), rdT, e1]
end
def bef (D : List Nod) (p : Int) : Nat → Int
 | 0 => -1
 | m + 1 => if (m : Int) > p then (if (D.getD m nz).f2 = p then (m : Int) else bef D p m) else -1
theorem wrM (m : Nat) (h : m ≤ 9000000000000000000) : wrap64 ((m : Int) - 1) = (m : Int) - 1 := by unfold wrap64; omega
section
variable {N : List ByteArray} {D : List Nod}
theorem before_l {i : Nat} (hb : D.length ≤ 1000000) (hi : i < D.length) (hp : 0 ≤ (D.getD i nz).f2) : ∀ m : Nat, m ≤ i → Ev (fun k => R4_before.l0 k i ((m : Int) - 1) N D) (bef D (D.getD i nz).f2 m)
 | 0, _ => by
  refine evN 1 fun k => ?_
  show R4_before.l0 (k + 1) (i : Int) (((0 : Nat) : Int) - 1) N D = some (-1)
  rw [R4_before.l0, if_pos (by omega), if_pos (by omega), rdT, if_neg (by omega)]
 | m + 1, h => by
  have ih := before_l hb hi hp m (by omega)
  have em : ((m + 1 : Nat) : Int) - 1 = (m : Int) := by omega
  rw [em]
  unfold bef
  by_cases c : (m : Int) > (D.getD i nz).f2
  ·rw [if_pos c]
   by_cases c2 : (D.getD m nz).f2 = (D.getD i nz).f2
   ·rw [if_pos c2]
    refine evN 1 fun k => ?_
    show R4_before.l0 (k + 1) (i : Int) (m : Int) N D = _
    rw [R4_before.l0, if_pos (by omega), if_pos (by omega), rdT, if_pos c, if_pos (by omega), if_pos (by omega), rdT, if_pos c2]
   ·rw [if_neg c2]
    refine evU 1 ih fun k => ?_
    show R4_before.l0 (k + 1) (i : Int) (m : Int) N D = _
    rw [R4_before.l0, if_pos (by omega), if_pos (by omega), rdT, if_pos c, if_pos (by omega), if_pos (by omega), rdT, if_neg c2, wrM m (by omega)]
  ·rw [if_neg c]
   refine evN 1 fun k => ?_
   show R4_before.l0 (k + 1) (i : Int) (m : Int) N D = _
   rw [R4_before.l0, if_pos (by omega), if_pos (by omega), rdT, if_neg c]
theorem before_ev {i : Nat} (hb : D.length ≤ 1000000) (hi : i < D.length) (hp : 0 ≤ (D.getD i nz).f2) : Ev (fun k => R4_before.f k N D (i : Int)) (bef D (D.getD i nz).f2 i) := by
 unfold R4_before.f
 rw [wrM i (by omega)]
 exact before_l hb hi hp i (Nat.le_refl _)
theorem bef_kids {i : Nat} {op : List Int} (hi : i ≤ D.length) (h : Rw (D.take i) op) {p : Int} (hp : 0 ≤ p) : ∀ m : Nat, m ≤ i → (bef D p m = -1 ∧ kids (prK (D.take m)) p = []) ∨ ∃ b : Nat, b < m ∧ bef D p m = (b : Int) ∧ (kids (prK (D.take m)) p).getLast? = some (D.getD b nz, (D.getD b nz).f1)
 | 0, _ => .inl ⟨rfl, rfl⟩
 | m + 1, hm => by
  have ih := bef_kids hi h hp m (by omega)
  unfold bef
  by_cases c : (m : Int) > p
  ·rw [if_pos c, take_one (by omega), prK_app, show prK [D.getD m nz] = [(D.getD m nz, (D.getD m nz).f1)] from rfl, kids_snoc]
   by_cases c2 : (D.getD m nz).f2 = p
   ·rw [if_pos c2, if_pos c2]
    exact .inr ⟨m, by omega, rfl, List.getLast?_concat ..⟩
   ·rw [if_neg c2, if_neg c2]
    rcases ih with ih | ⟨b, h1, h2⟩
    ·exact .inl ih
    ·exact .inr ⟨b, by omega, h2⟩
  ·rw [if_neg c]
   refine .inl ⟨rfl, ?_⟩
   have hsp : prK (D.take i) = prK (D.take (m + 1)) ++ prK ((D.take i).drop (m + 1)) := by
    rw [← prK_app, show D.take (m + 1) = (D.take i).take (m + 1) from by rw [List.take_take, Nat.min_eq_left hm], List.take_append_drop]
   have hr := h.r
   rw [hsp] at hr
   obtain ⟨o, ho⟩ := rows_take _ _ _ hr
   cases hk : kids (prK (D.take (m + 1))) p with
   | nil => rfl
   | cons d t =>
    obtain ⟨j, h1, h2, -⟩ := kids_behind _ o ho p hp d (by rw [hk]; exact List.mem_cons_self ..)
    have := (List.getElem?_eq_some_iff.1 h1).1
    rw [prK_len, take_len (by omega)] at this
    omega
end
theorem right_in {l : List (Nd × Int)} {op : List Int} {m : Nd} {k : Int} (hl : ¬ l = []) (hm : m.f2 ∈ op) : right l op m k = (if m.f0 = 1 then (if 64 < (op.take (op.idxOf m.f2 + 1)).length then none else some (op.take (op.idxOf m.f2 + 1) ++ [(l.length : Int)]))
 else if m.f0 = 2 then (if more l m.f2 = true ∨ twice l m.f2 k = true then none else some (op.take (op.idxOf m.f2 + 1))) else if textLast l m.f2 = true then none else some (op.take (op.idxOf m.f2 + 1))) := by
 unfold right; rw [if_neg hl, if_pos hm]
theorem right_out {l : List (Nd × Int)} {op : List Int} {m : Nd} {k : Int} (hl : ¬ l = []) (hm : ¬ m.f2 ∈ op) : right l op m k = none := by
 unfold right; rw [if_neg hl, if_neg hm]
theorem attr_last : ∀ (n : Nat) (l : List (Nd × Int)) (op : List Int), l.length = n → rows l = some op → ∀ (p : Int) (c : Nd × Int), (kids l p).getLast? = some c → c.1.f0 = 2 → more l p = false
 | 0, l, op, hn, h, p, c, hc, h2 => by
  have : l = [] := List.eq_nil_of_length_eq_zero hn
  rw [this] at hc; cases hc
 | n + 1, l, op, hn, h, p, c, hc, h2 => by
  rcases List.eq_nil_or_concat l with h' | ⟨pre, d, h'⟩
  ·rw [h'] at hn; exact absurd hn (by simp)
  rw [List.concat_eq_append] at h'
  subst h'
  obtain ⟨o, o', h1, hr, h3⟩ := rows_at pre [] d op h
  have hpre : pre.length = n := by rw [List.length_append, List.length_singleton] at hn; omega
  rw [kids_snoc] at hc
  rw [more_snoc]
  by_cases e : d.1.f2 = p
  ·rw [if_pos e, List.getLast?_concat] at hc
   obtain rfl := Option.some.inj hc
   rw [if_pos e]
   have hm : more pre p = false := by
    by_cases hl : pre = []
    ·rw [hl]; rfl
    ·by_cases hmm : d.1.f2 ∈ o
     ·rw [right_in hl hmm, if_neg (show ¬ d.1.f0 = 1 from by omega), if_pos h2] at hr
      cases hmr : more pre p with
      | false => rfl
      | true => rw [if_pos (.inl (by rw [e]; exact hmr))] at hr; cases hr
     ·rw [right_out hl hmm] at hr; cases hr
   rw [hm]; simp [h2]
  ·rw [if_neg e] at hc
   rw [if_neg e]
   exact attr_last n pre o hpre h1 p c hc h2
section
variable {N : List ByteArray} {D : List Nod}
def dup (D : List Nod) (x : Nod) (k : Nat) : Prop := (D.getD k nz).f0 = 2 ∧ (D.getD k nz).f2 = x.f2 ∧ (D.getD k nz).f1 = x.f1
theorem dup_twice {i : Nat} {op : List Int} (hi : i ≤ D.length) (h : Rw (D.take i) op) {x : Nod} (hp : 0 ≤ x.f2) : twice (prK (D.take i)) x.f2 x.f1 = true ↔ ∃ k, k < i ∧ x.f2 < (k : Int) ∧ dup D x k := by
 unfold twice
 rw [List.any_eq_true]
 constructor
 ·rintro ⟨c, hc, h2⟩
  rw [Bool.and_eq_true, decide_eq_true_eq, decide_eq_true_eq] at h2
  obtain ⟨j, j1, j2, j3⟩ := kids_behind _ op h.r _ hp c hc
  have hj := (List.getElem?_eq_some_iff.1 j1).1
  rw [prK_len, take_len hi] at hj
  rw [prK_get _ _ (by rw [take_len hi]; exact hj), take_get hj hi] at j1
  obtain rfl := Option.some.inj j1
  exact ⟨j, hj, j2, h2.1, j3, h2.2⟩
 ·rintro ⟨k, k1, k2, k3, k4, k5⟩
  refine ⟨(D.getD k nz, (D.getD k nz).f1), ?_, by rw [Bool.and_eq_true, decide_eq_true_eq, decide_eq_true_eq]; exact ⟨k3, k5⟩⟩
  unfold kids
  rw [List.mem_filter]
  refine ⟨?_, by simpa using k4⟩
  have := prK_get (D.take i) k (by rw [take_len hi]; exact k1)
  rw [take_get k1 hi] at this
  exact List.mem_of_getElem? this
def okName (N : List ByteArray) (D : List Nod) (k : Nat) : Bool := (D.any fun x => decide (x.f1 = (k : Int))) && ((!(N.getD k ⟨#[]⟩).data.toList.isEmpty && (nameEndP (N.getD k ⟨#[]⟩).data.toList 0 == ((N.getD k ⟨#[]⟩).size : Int))) && (decide (k = 0) || decide ((N.getD (k - 1) ⟨#[]⟩).data.toList < (N.getD k ⟨#[]⟩).data.toList)))
theorem names_all : namesC N D = (List.range' 0 N.length).all (okName N D) := by
 unfold namesC; rw [List.range_eq_range']; rfl
end
end Go.Proofs.YtlhhhlimjajnlaaGreat.P14
end
section
set_option linter.unusedVariables false
set_option linter.unusedSimpArgs false
namespace Go.Proofs.YtlhhhlimjajnlaaGreat.P14
open Go.RowKit Go.Proofs.YtlhhhlimjajnlaaGreat Go.Proofs.YtlhhhlimjajnlaaGreat.Q Go.Proofs.YtlhhhlimjajnlaaGreatW.PrintWords Go.Proofs.YtlhhhlimjajnlaaGreat.X Go.Proofs.YtlhhhlimjajnlaaGreat.Ck Go.Proofs.YtlhhhlimjajnlaaGreat.P11
def nmR (N : List ByteArray) (D : List Nod) : Int := if namesC N D = true then 0 else 1
def rsV (N : List ByteArray) (D : List Nod) (i : Nat) (op : List Int) : Int := if ((D.drop i).all (okNod N.length) && (run (prK (D.take i)) (prK (D.drop i)) op).isSome) = true then nmR N D else 1
def rnV (N : List ByteArray) (D : List Nod) (i : Nat) : Option (List Int) → Int
 | none => 1
 | some o => rsV N D (i + 1) o
def Lp (N : List ByteArray) (D : List Nod) (res : Int) : Nat → Prop
 | 0 => (okNod N.length (D.getD 0 nz) = false → res = 1) ∧ (okNod N.length (D.getD 0 nz) = true → Rw (D.take 1) [0] ∧ rsV N D 1 [0] = res)
 | i + 1 => ∃ op, Rw (D.take (i + 1)) op ∧ rsV N D (i + 1) op = res
def jb (D : List Nod) (b x0 : Int) : Bool := if b ≥ 0 then (if x0 = 2 then !((D.getD b.toNat nz).f0 == 2) else if x0 = 3 then (D.getD b.toNat nz).f0 == 3 else false) else false
section
variable {N : List ByteArray} {D : List Nod} {res : Int}
theorem rsV_step {i : Nat} {op : List Int} (hi : i < D.length) : rsV N D i op = if okNod N.length (D.getD i nz) = true then rnV N D i (right (prK (D.take i)) op (D.getD i nz) (D.getD i nz).f1) else 1 := by
 unfold rsV
 rw [drop_one hi, List.all_cons]
 by_cases c : okNod N.length (D.getD i nz) = true
 ·rw [if_pos c, c, Bool.true_and, show prK (D.getD i nz :: D.drop (i + 1)) = (D.getD i nz, (D.getD i nz).f1) :: prK (D.drop (i + 1)) from rfl, run]
  simp only
  cases hr : right (prK (D.take i)) op (D.getD i nz) (D.getD i nz).f1 with
  | none => simp [rnV]
  | some o =>
   show _ = rsV N D (i + 1) o
   unfold rsV
   rw [take_one hi, prK_app]; rfl
 ·rw [if_neg c]
  have : okNod N.length (D.getD i nz) = false := by simpa using c
  rw [this]; simp
theorem rw_next {i : Nat} {op o : List Int} (hi : i < D.length) (h : Rw (D.take i) op) (hr : right (prK (D.take i)) op (D.getD i nz) (D.getD i nz).f1 = some o) : Rw (D.take (i + 1)) o := by
 refine ⟨?_⟩
 rw [take_one hi, prK_app, show prK [D.getD i nz] = [(D.getD i nz, (D.getD i nz).f1)] from rfl, rows_snoc _ _ _ h.r]
 exact hr
theorem op_short {i : Nat} {op : List Int} (hb : D.length ≤ 5000) (hi : i ≤ D.length) (h : Rw (D.take i) op) : op.length ≤ 100000 := by
 by_cases hc : op.length ≤ 100000
 ·exact hc
 ·exfalso
  have hge : ∀ n : Nat, n < op.length → ∀ z, op[n]? = some z → (n : Int) ≤ z := by
   intro n
   induction n with
   | zero => intro _ z hz; exact (h.at hz).1
   | succ n ihn =>
    intro hn z hz
    have hg : op[n]? = some op[n] := List.getElem?_eq_getElem (by omega)
    have h1 := ihn (by omega) _ hg
    have h2 := h.path.lt 0 n _ z hg hz
    omega
  have hg : op[100000]? = some op[100000] := List.getElem?_eq_getElem (by omega)
  have h1 := hge 100000 (by omega) _ hg
  have h2 := (h.at hg).2.1
  rw [take_len hi] at h2
  omega
theorem take_ne {i : Nat} (hi : i ≤ D.length) (h0 : 0 < i) : ¬ prK (D.take i) = [] := by
 intro e
 have := congrArg List.length e
 rw [prK_len, take_len hi, List.length_nil] at this
 omega
theorem step_out {i : Nat} {op : List Int} (hi : i < D.length) (h0 : 0 < i) (hr : rsV N D i op = res) (ho : ¬ (D.getD i nz).f2 ∈ op) : res = 1 := by
 rw [← hr, rsV_step hi, right_out (take_ne (by omega) h0) ho]
 split <;> rfl
theorem step_bad {i : Nat} {op : List Int} (hi : i < D.length) (hr : rsV N D i op = res) (hk : okNod N.length (D.getD i nz) = false) : res = 1 := by
 rw [← hr, rsV_step hi, hk]; rfl
theorem step_in {i : Nat} {op : List Int} (hi : i < D.length) (h0 : 0 < i) (h : Rw (D.take i) op) (hr : rsV N D i op = res) (hk : okNod N.length (D.getD i nz) = true) {j : Nat} (hj : op[j]? = some (D.getD i nz).f2) :
 ((D.getD i nz).f0 = 1 → 64 < j + 1 → res = 1) ∧ (jb D (bef D (D.getD i nz).f2 i) (D.getD i nz).f0 = true → res = 1) ∧
 ((D.getD i nz).f0 = 2 → (∃ k, k < i ∧ (D.getD i nz).f2 < (k : Int) ∧ dup D (D.getD i nz) k) → res = 1) ∧
 (¬ ((D.getD i nz).f0 = 1 ∧ 64 < j + 1) → jb D (bef D (D.getD i nz).f2 i) (D.getD i nz).f0 = false → ¬ ((D.getD i nz).f0 = 2 ∧ ∃ k, k < i ∧ (D.getD i nz).f2 < (k : Int) ∧ dup D (D.getD i nz) k) → Lp N D res (i + 1)) := by
 have hm : (D.getD i nz).f2 ∈ op := List.mem_of_getElem? hj
 obtain ⟨p1, p2, p3, p4⟩ := h.at hj
 rw [take_len (by omega)] at p2
 have hjl := (List.getElem?_eq_some_iff.1 hj).1
 have hbk := fun _ : Unit => bef_kids (by omega) h p1 i (Nat.le_refl _)
 have hidx : op.idxOf (D.getD i nz).f2 = j := h.path.idx j _ hj
 have hlen : (op.take (j + 1)).length = j + 1 := by rw [List.length_take]; omega
 have htw := fun _ : Unit => dup_twice (x := D.getD i nz) (by omega) h p1
 have hal := attr_last _ _ _ rfl h.r (D.getD i nz).f2
 have hkind : (D.getD i nz).f0 = 1 ∨ (D.getD i nz).f0 = 2 ∨ (D.getD i nz).f0 = 3 := by
  unfold okNod at hk
  rw [Bool.and_eq_true] at hk
  exact named_kinds hk.1
 have hnx : ∀ o, right (prK (D.take i)) op (D.getD i nz) (D.getD i nz).f1 = some o → rnV N D i (some o) = res → Lp N D res (i + 1) := fun o ho e => ⟨o, rw_next hi h ho, e⟩
 rw [rsV_step hi, if_pos hk] at hr
 rw [right_in (take_ne (by omega) h0) hm, hidx] at hr hnx
 clear hm hidx hj p4 hk
 generalize hB : bef D (D.getD i nz).f2 i = b at *
 have hmore : jb D b 2 = true → more (prK (D.take i)) (D.getD i nz).f2 = true := by
  intro e
  unfold jb at e
  rcases hbk () with ⟨e0, hkid⟩ | ⟨q, hq, e0, hlast⟩
  ·rw [e0, if_neg (by omega)] at e; cases e
  ·rw [e0, if_pos (by omega), if_pos rfl, Int.toNat_natCast] at e
   unfold more
   rw [List.any_eq_true]
   exact ⟨_, List.mem_of_getLast? hlast, by simpa using e⟩
 have hmore' : jb D b 2 = false → more (prK (D.take i)) (D.getD i nz).f2 = false := by
  intro e
  unfold jb at e
  rcases hbk () with ⟨e0, hkid⟩ | ⟨q, hq, e0, hlast⟩
  ·unfold more; rw [hkid]; rfl
  ·rw [e0, if_pos (by omega), if_pos rfl, Int.toNat_natCast] at e
   exact hal _ hlast (by simpa using e)
 have htext : textLast (prK (D.take i)) (D.getD i nz).f2 = jb D b 3 := by
  unfold textLast jb
  rcases hbk () with ⟨e0, hkid⟩ | ⟨q, hq, e0, hlast⟩
  ·rw [e0, hkid, if_neg (by omega)]; rfl
  ·rw [e0, hlast, if_pos (by omega), if_neg (by decide), if_pos rfl, Int.toNat_natCast]
   show decide ((D.getD q nz).f0 = 3) = ((D.getD q nz).f0 == 3)
   by_cases c : (D.getD q nz).f0 = 3
   ·rw [decide_eq_true c, c]; rfl
   ·rw [decide_eq_false c]; simpa using c
 clear hbk hal
 generalize D.getD i nz = x at *
 rcases hkind with k | k | k
 ·rw [if_pos k, hlen] at hr hnx
  have ej : jb D b x.f0 = false := by unfold jb; rw [if_neg (show ¬ x.f0 = 2 from by omega), if_neg (show ¬ x.f0 = 3 from by omega)]; split <;> rfl
  refine ⟨fun _ c => ?_, fun e => ?_, fun e => by omega, fun c _ _ => ?_⟩
  ·rw [if_pos c] at hr; exact hr.symm
  ·rw [ej] at e; cases e
  ·have c' : ¬ 64 < j + 1 := fun e => c ⟨k, e⟩
   rw [if_neg c'] at hr hnx
   exact hnx _ rfl hr
 ·rw [if_neg (by omega), if_pos k] at hr hnx
  rw [k]
  refine ⟨fun e => by omega, fun e => ?_, fun _ e => ?_, fun _ e1 e2 => ?_⟩
  ·rw [if_pos (.inl (hmore e))] at hr; exact hr.symm
  ·rw [if_pos (.inr ((htw ()).2 e))] at hr; exact hr.symm
  ·rw [if_neg (fun e => e.elim (by rw [hmore' e1]; decide) fun e => e2 ⟨rfl, (htw ()).1 e⟩)] at hr hnx
   exact hnx _ rfl hr
 ·rw [if_neg (by omega), if_neg (by omega), htext] at hr hnx
  rw [k]
  refine ⟨fun e => by omega, fun e => ?_, fun e => by omega, fun _ e1 _ => ?_⟩
  ·rw [if_pos e] at hr; exact hr.symm
  ·rw [if_neg (by rw [e1]; decide)] at hr hnx
   exact hnx _ rfl hr
theorem threeB (a b c : Bool) (x : Int) : (if (!(a && b && c)) = true then (1 : Int) else x) = if a = true then (if (b && c) = true then x else 1) else 1 := by cases a <;> cases b <;> cases c <;> rfl
theorem check_begin (c1 : 0 < D.length) (c2 : D.length ≤ 5000) (c3 : N.length ≤ 1000) : (¬ ((D.getD 0 nz).f0 = 1 ∧ (D.getD 0 nz).f2 = -1) → checkV N D = 1) ∧ ((D.getD 0 nz).f0 = 1 ∧ (D.getD 0 nz).f2 = -1 → Lp N D (checkV N D) 0) := by
 have hD0 : D = D.getD 0 nz :: D.drop 1 := by have := drop_one (D := D) (i := 0) c1; rw [List.drop_zero] at this; exact this
 have ht1 : D.take 1 = [D.getD 0 nz] := by have := take_one (D := D) (i := 0) c1; simpa using this
 have hroot : right ([] : List (Nd × Int)) [] (D.getD 0 nz) (D.getD 0 nz).f1 = if (D.getD 0 nz).f0 = 1 ∧ (D.getD 0 nz).f2 = -1 then some [0] else none := by unfold right; rw [if_pos rfl]
 have hrows : (rows (prK D)).isSome = (match right [] [] (D.getD 0 nz) (D.getD 0 nz).f1 with | none => false | some o => (run (prK (D.take 1)) (prK (D.drop 1)) o).isSome) := by
  have e : rows (prK D) = (run [] (prK (D.getD 0 nz :: D.drop 1)) []).map Prod.snd := by rw [← hD0]; rfl
  rw [e, show prK (D.getD 0 nz :: D.drop 1) = (D.getD 0 nz, (D.getD 0 nz).f1) :: prK (D.drop 1) from rfl, run]
  simp only
  cases hr : right [] [] (D.getD 0 nz) (D.getD 0 nz).f1 with
  | none => rfl
  | some o =>
   rw [ht1]
   show (Option.map Prod.snd (run [(D.getD 0 nz, (D.getD 0 nz).f1)] (prK (D.drop 1)) o)).isSome = (run [(D.getD 0 nz, (D.getD 0 nz).f1)] (prK (D.drop 1)) o).isSome
   cases run [(D.getD 0 nz, (D.getD 0 nz).f1)] (prK (D.drop 1)) o <;> rfl
 have hall : D.all (okNod N.length) = (okNod N.length (D.getD 0 nz) && (D.drop 1).all (okNod N.length)) := by rw [← List.all_cons, ← hD0]
 have e : (nodesC N.length D 0 (zeroC D.length)).isNone = !(nodesC N.length D 0 (zeroC D.length)).isSome := by cases nodesC N.length D 0 (zeroC D.length) <;> rfl
 have hval : checkV N D = if (!(okNod N.length (D.getD 0 nz) && (D.drop 1).all (okNod N.length) && (rows (prK D)).isSome)) = true then (1 : Int) else nmR N D := by
  unfold checkV nmR
  rw [if_neg (by omega), e, nodes_rows, hall]
 rw [hroot] at hrows
 refine ⟨fun c => ?_, fun c => ?_⟩
 ·rw [if_neg c] at hrows
  rw [hval, hrows]; simp
 ·rw [if_pos c] at hrows hroot
  rw [hrows, threeB] at hval
  refine ⟨fun hk => ?_, fun hk => ⟨⟨?_⟩, ?_⟩⟩
  ·rw [hval, hk]; rfl
  ·rw [ht1]
   show (Option.map Prod.snd (run [] [(D.getD 0 nz, (D.getD 0 nz).f1)] [])) = _
   rw [run]
   simp only [hroot]; rfl
  ·rw [hval, hk, if_pos rfl]; rfl
theorem check_names {i : Nat} (h : Lp N D res i) (h0 : 0 < i) (hi : i = D.length) : (if (List.range' 0 N.length).all (okName N D) = true then (0 : Int) else 1) = res := by
 obtain ⟨j, rfl⟩ : ∃ j, i = j + 1 := ⟨i - 1, by omega⟩
 obtain ⟨op, -, hr⟩ := h
 rw [← hr, ← names_all]
 unfold rsV
 rw [List.drop_of_length_le (by omega)]; rfl
end
end Go.Proofs.YtlhhhlimjajnlaaGreat.P14
end
