/- Parts of the proof of canonTrees_holds, kept and merged by a program of mine (wip/tools/slim.py) out of my texts: P14e -/
import Derived.Test.YtlhhhlimjajnlaaGreatSPt46
import Derived.Test.YtlhhhlimjajnlaaGreatSPt38
import Derived.Test.YtlhhhlimjajnlaaGreatSPt27
section
set_option linter.unusedVariables false
set_option linter.unusedSimpArgs false
namespace Go.Proofs.YtlhhhlimjajnlaaGreat.P14
open Go.RowKit Go.Proofs.YtlhhhlimjajnlaaGreat Go.Proofs.YtlhhhlimjajnlaaGreat.Q Go.Proofs.YtlhhhlimjajnlaaGreatW.PrintWords Go.Proofs.YtlhhhlimjajnlaaGreat.X Go.Proofs.YtlhhhlimjajnlaaGreat.Ck Go.Proofs.YtlhhhlimjajnlaaGreat.P11
theorem evN {α : Type} {g : Nat → Option α} {r : α} (n : Nat) (h : ∀ k, g (k + n) = some r) : Ev g r := ⟨n, fun k hk => by rw [show k = (k - n) + n from by omega]; exact h _⟩
theorem evU {α : Type} {g f : Nat → Option α} {r : α} (n : Nat) (e : Ev f r) (h : ∀ k, g (k + n) = f k) : Ev g r := by
 obtain ⟨K, hK⟩ := e
 exact ⟨K + n, fun k hk => by rw [show k = (k - n) + n from by omega, h]; exact hK _ (by omega)⟩
theorem evV {α β : Type} {F g : Nat → Option α} {f : Nat → Option β} {a : β} {r : α} (n : Nat) (hf : Ev f a) (hg : Ev g r) (h : ∀ k, f k = some a → F (k + n) = g k) : Ev F r := by
 obtain ⟨K, hK⟩ := hf
 obtain ⟨L, hL⟩ := hg
 exact ⟨K + L + n, fun k hk => by rw [show k = (k - n) + n from by omega, h _ (hK _ (by omega))]; exact hL _ (by omega)⟩
theorem evW {α β : Type} {F : Nat → Option α} {f : Nat → Option β} {a : β} {r : α} (n : Nat) (hf : Ev f a) (h : ∀ k, f k = some a → F (k + n) = some r) : Ev F r := by
 obtain ⟨K, hK⟩ := hf
 exact ⟨K + n, fun k hk => by rw [show k = (k - n) + n from by omega, h _ (hK _ (by omega))]⟩
theorem rdT (D : List Nod) (i : Nat) : rd_T41 D (i : Int) = D.getD i nz := rfl
theorem rdI (D : List Nod) (i : Int) : rd_T41 D i = D.getD i.toNat nz := rfl
theorem wrUp (i : Nat) (h : i ≤ 9000000000000000000) : wrap64 ((i : Int) + 1) = ((i + 1 : Nat) : Int) := by unfold wrap64; omega
theorem wrDown (i : Nat) (h : i ≤ 9000000000000000000) : wrap64 (((i + 1 : Nat) : Int) - 1) = (i : Int) := by unfold wrap64; omega
section
variable {N : List ByteArray} {D : List Nod}
theorem node_ev (hD : ∀ x, x ∈ D → x.f3.size ≤ 4294967296) {i : Nat} (hi : i < D.length) : Ev (fun k => R4_node.f k N D (i : Int)) (okNod N.length (D.getD i nz)) := by
 have hm : D.getD i nz ∈ D := by rw [List.getD_eq_getElem?_getD, List.getElem?_eq_getElem hi]; exact List.getElem_mem hi
 have hv := ref_valid_f (D.getD i nz).f3 (hD _ hm)
 refine evN ((D.getD i nz).f3.size + 51) fun k => ?_
 have hv := hv k
 rw [show (D.getD i nz).f3.size + 50 + k = k + ((D.getD i nz).f3.size + 50) from by omega] at hv
 show R4_node.f (k + ((D.getD i nz).f3.size + 50) + 1) N D (i : Int) = _
 unfold R4_node.f
 rw [if_pos (by omega), if_pos (by omega), rdT]
 generalize D.getD i nz = x at *
 unfold okNod namedP
 have key : ∀ nm : Bool, (nm = (decide (0 ≤ x.f1) && decide (x.f1 < (N.length : Int)))) → R4_node.j0 (k + (x.f3.size + 50) + 1) nm x.f0 x.f1 x.f2 x.f3 = some ((if x.f0 = 3 then decide (x.f1 = -1) && !(x.f3.data.toList == []) else (decide (0 ≤ x.f1) && decide (x.f1 < (N.length : Int))) && (decide (x.f0 = 2) || (decide (x.f0 = 1) && (x.f3.data.toList == [])))) && validL x.f3.data.toList) := by
  intro nm hnm
  rw [R4_node.j0, hv, Option.bind_some, ← hnm, Lib.toList_data]
  clear hv hnm
  have hV : x.f3.data.toList = [] → validL x.f3.data.toList = true := fun e => by rw [e]; rfl
  generalize validL x.f3.data.toList = V at hV ⊢
  generalize x.f3.data.toList = L at hV ⊢
  by_cases k1 : x.f0 = 1
  ·rw [if_pos k1, if_neg (show ¬ x.f0 = 3 from by omega)]
   have e2 : decide (x.f0 = 2) = false := by rw [k1]; rfl
   have e1 : decide (x.f0 = 1) = true := by rw [k1]; rfl
   rw [e1, e2]
   cases nm with
   | false => simp
   | true =>
    rw [if_pos rfl]
    cases L with
    | nil => rw [hV rfl]; rfl
    | cons a t => rfl
  ·rw [if_neg k1]
   by_cases k2 : x.f0 = 2
   ·rw [if_pos k2, if_neg (show ¬ x.f0 = 3 from by omega)]
    have e2 : decide (x.f0 = 2) = true := by rw [k2]; rfl
    rw [e2]
    cases nm with
    | false => simp
    | true => simp
   ·rw [if_neg k2]
    by_cases k3 : x.f0 = 3
    ·rw [if_pos k3, if_pos k3]
     by_cases k4 : x.f1 = -1
     ·rw [if_pos k4, show decide (x.f1 = -1) = true from decide_eq_true k4]
      cases L with
      | nil => rfl
      | cons a t => rw [if_neg (by simp)]; rfl
     ·rw [if_neg k4, show decide (x.f1 = -1) = false from decide_eq_false k4]; rfl
    ·rw [if_neg k3, if_neg k3, show decide (x.f0 = 2) = false from decide_eq_false k2, show decide (x.f0 = 1) = false from decide_eq_false k1]; simp
 by_cases h1 : x.f1 ≥ 0
 ·rw [if_pos h1]
  have : decide (0 ≤ x.f1) = true := decide_eq_true h1
  exact key _ (by rw [this]; rfl)
 ·rw [if_neg h1]
  have : decide (0 ≤ x.f1) = false := decide_eq_false (by omega)
  exact key _ (by rw [this]; rfl)
end
section
variable {N : List ByteArray} {D : List Nod}
theorem take_get {i k : Nat} (hk : k < i) (hi : i ≤ D.length) : (D.take i).getD k nz = D.getD k nz := by
 rw [List.getD_eq_getElem?_getD, List.getD_eq_getElem?_getD, List.getElem?_take_of_lt hk]
theorem take_len {i : Nat} (hi : i ≤ D.length) : (D.take i).length = i := by rw [List.length_take]; omega
theorem take_one {i : Nat} (hi : i < D.length) : D.take (i + 1) = D.take i ++ [D.getD i nz] := by
 rw [List.take_add_one, List.getD_eq_getElem?_getD, List.getElem?_eq_getElem hi]; rfl
theorem drop_one {i : Nat} (hi : i < D.length) : D.drop i = D.getD i nz :: D.drop (i + 1) := by
 rw [List.drop_eq_getElem_cons hi, List.getD_eq_getElem?_getD, List.getElem?_eq_getElem hi]; rfl
theorem around_op {i : Nat} {op : List Int} (hi : i ≤ D.length) (h : Rw (D.take i) op) (p : Int) : ∀ (j : Nat) (z : Int), op[j]? = some z → Ev (fun k => R4_around.l0 k p z N D) (decide (p ∈ op.take (j + 1))) := by
 intro j
 induction j with
 | zero =>
  intro z hz
  obtain ⟨z1, z2, z3, z4⟩ := h.at hz
  rw [take_len hi] at z2
  rw [take_get z2 hi, if_pos rfl] at z4
  have ht : op.take (0 + 1) = [z] := by rw [List.take_add_one, hz]; simp
  rw [ht]
  by_cases e : z = p
  ·refine evN 1 fun k => ?_
   show R4_around.l0 (k + 1) p z N D = _
   rw [R4_around.l0, if_pos z1, if_pos e, e]; simp
  ·refine evN 2 fun k => ?_
   show R4_around.l0 (k + 1 + 1) p z N D = _
   rw [R4_around.l0, if_pos z1, if_neg e, if_pos z1, if_pos (by omega), rdI, z4, R4_around.l0, if_neg (by omega)]
   simp; exact fun e' => e e'.symm
 | succ j ih =>
  intro z hz
  obtain ⟨z1, z2, z3, z4⟩ := h.at hz
  rw [take_len hi] at z2
  rw [take_get z2 hi, if_neg (by omega), Nat.add_sub_cancel] at z4
  have hjl := (List.getElem?_eq_some_iff.1 hz).1
  have hg : op[j]? = some op[j] := List.getElem?_eq_getElem (by omega)
  rw [show op.getD j 0 = op[j] from by rw [List.getD_eq_getElem?_getD, hg]; rfl] at z4
  have ht : op.take (j + 1 + 1) = op.take (j + 1) ++ [z] := by rw [List.take_add_one, hz]; rfl
  by_cases e : z = p
  ·refine evN 1 fun k => ?_
   show R4_around.l0 (k + 1) p z N D = _
   rw [R4_around.l0, if_pos z1, if_pos e, ht, e]; simp
  ·have hd : decide (p ∈ op.take (j + 1 + 1)) = decide (p ∈ op.take (j + 1)) := by
    rw [ht, decide_eq_decide, List.mem_append, List.mem_singleton]
    exact ⟨fun h => h.resolve_right fun h => e h.symm, fun h => .inl h⟩
   rw [hd]
   refine evU 1 (ih _ hg) fun k => ?_
   show R4_around.l0 (k + 1) p z N D = _
   rw [R4_around.l0, if_pos z1, if_neg e, if_pos z1, if_pos (by omega), rdI, z4]
theorem depth_op {i : Nat} {op : List Int} (hi : i ≤ D.length) (h : Rw (D.take i) op) : ∀ (j : Nat) (z : Int) (n : Nat), n + j ≤ 1000000 → op[j]? = some z → Ev (fun k => R4_depth.l0 k z n N D) ((n + j : Nat) : Int) := by
 intro j
 induction j with
 | zero =>
  intro z n hn hz
  obtain ⟨z1, z2, z3, z4⟩ := h.at hz
  rw [take_len hi] at z2
  rw [take_get z2 hi, if_pos rfl] at z4
  refine evN 1 fun k => ?_
  show R4_depth.l0 (k + 1) z n N D = _
  rw [R4_depth.l0, if_pos z1, if_pos (by omega), rdI, z4, if_neg (by omega)]; rfl
 | succ j ih =>
  intro z n hn hz
  obtain ⟨z1, z2, z3, z4⟩ := h.at hz
  rw [take_len hi] at z2
  rw [take_get z2 hi, if_neg (by omega), Nat.add_sub_cancel] at z4
  have hjl := (List.getElem?_eq_some_iff.1 hz).1
  have hg : op[j]? = some op[j] := List.getElem?_eq_getElem (by omega)
  rw [show op.getD j 0 = op[j] from by rw [List.getD_eq_getElem?_getD, hg]; rfl] at z4
  obtain ⟨y1, -, -, -⟩ := h.at hg
  have hn1 : n ≤ 9000000000000000000 := by omega
  refine evU 1 (by rw [show n + (j + 1) = n + 1 + j from by omega]; exact ih op[j] (n + 1) (by omega) hg) fun k => ?_
  show R4_depth.l0 (k + 1) z n N D = _
  rw [R4_depth.l0, if_pos z1, if_pos (by omega), rdI, z4, if_pos y1, wrUp n hn1]
theorem depth_ev {i : Nat} {op : List Int} (hi : i < D.length) (h : Rw (D.take i) op) (hl : op.length ≤ 100000) {j : Nat} (hz : op[j]? = some (D.getD i nz).f2) : Ev (fun k => R4_depth.f k N D (i : Int)) ((j + 1 : Nat) : Int) := by
 obtain ⟨z1, z2, z3, z4⟩ := h.at hz
 have hjl := (List.getElem?_eq_some_iff.1 hz).1
 refine evU 1 (by rw [show j + 1 = 1 + j from by omega]; exact depth_op (N := N) (by omega) h j _ 1 (by omega) hz) fun k => ?_
 show R4_depth.l0 (k + 1) (i : Int) 0 N D = _
 rw [R4_depth.l0, if_pos (by omega), if_pos (by omega), rdT, if_pos z1, show wrap64 (0 + 1) = ((1 : Nat) : Int) from by unfold wrap64; omega]
theorem last_op {P : List Nod} {x : Nod} {op : List Int} (h : rows (prK (P ++ [x])) = some op) : ∃ o, op.getLast? = some o ∧ (x.f0 = 1 → o = (P.length : Int)) ∧ (¬ x.f0 = 1 → o = x.f2 ∧ 0 < P.length) := by
 rw [prK_app, show prK [x] = [(x, x.f1)] from rfl] at h
 obtain ⟨o, o', h1, h2, h3⟩ := rows_at (prK P) [] (x, x.f1) op h
 rw [h3] at h
 obtain rfl := Option.some.inj h
 obtain ⟨p1, p2⟩ := rows_path _ _ _ rfl h1
 unfold right at h2
 by_cases hl : prK P = []
 ·rw [if_pos hl] at h2
  have hP : P = [] := prK_nil.1 hl
  subst hP
  by_cases c : x.f0 = 1 ∧ x.f2 = -1
  ·rw [if_pos c] at h2
   obtain rfl := Option.some.inj h2
   exact ⟨0, rfl, fun _ => rfl, fun e => absurd c.1 e⟩
  ·rw [if_neg c] at h2; cases h2
 ·rw [if_neg hl] at h2
  have hpos : 0 < P.length := List.length_pos_iff.2 fun e => hl (prK_nil.2 e)
  by_cases hm : x.f2 ∈ o
  ·rw [if_pos hm] at h2
   simp only at h2
   have hlt := List.idxOf_lt_length_of_mem hm
   have hlast : (o.take (o.idxOf x.f2 + 1)).getLast? = some x.f2 := by
    rw [List.take_add_one, List.getElem?_eq_getElem hlt, List.getElem_idxOf]; simp
   split at h2
   ·rename_i c1
    split at h2
    ·cases h2
    ·obtain rfl := Option.some.inj h2
     refine ⟨_, List.getLast?_concat .., fun _ => by rw [prK_len], fun e => absurd c1 e⟩
   ·rename_i c1
    have : o' = o.take (o.idxOf x.f2 + 1) := by
     split at h2
     ·split at h2
      ·cases h2
      ·exact (Option.some.inj h2).symm
     ·split at h2
      ·cases h2
      ·exact (Option.some.inj h2).symm
    rw [this]
    exact ⟨_, hlast, fun e => absurd e c1, fun _ => ⟨rfl, hpos⟩⟩
  ·rw [if_neg hm] at h2; cases h2
theorem around_ev {i : Nat} {op : List Int} (hb : D.length ≤ 1000000) (hi : i < D.length) (h0 : 0 < i) (h : Rw (D.take i) op) {p : Int} (hp : (D.getD p.toNat nz).f0 = 1) (hp0 : 0 ≤ p) : Ev (fun k => R4_around.f k N D p (wrap64 ((i : Int) - 1))) (decide (p ∈ op)) := by
 obtain ⟨m, rfl⟩ : ∃ m, i = m + 1 := ⟨i - 1, by omega⟩
 have hbig : m ≤ 9000000000000000000 := by omega
 rw [wrDown m hbig]
 obtain ⟨o, l1, l2, l3⟩ := last_op (P := D.take m) (x := D.getD m nz) (op := op) (by rw [← take_one (by omega)]; exact h.r)
 rw [take_len (by omega)] at l2 l3
 have hne : 0 < op.length := by
  cases op with
  | nil => cases l1
  | cons a t => simp
 have hlast : op[op.length - 1]? = some o := by rw [← List.getLast?_eq_getElem?]; exact l1
 have hall : op.take (op.length - 1 + 1) = op := by rw [show op.length - 1 + 1 = op.length from by omega, List.take_length]
 have key := around_op (N := N) (by omega) h p _ o hlast
 rw [hall] at key
 unfold R4_around.f
 by_cases c1 : (D.getD m nz).f0 = 1
 ·rw [← l2 c1]; exact key
 ·obtain ⟨e1, e2⟩ := l3 c1
  refine evU 1 key fun k => ?_
  show R4_around.l0 (k + 1) p (m : Int) N D = _
  rw [R4_around.l0, if_pos (by omega), if_neg (fun e => c1 (by rw [← hp, ← e]; rfl)), if_pos (by omega), if_pos (by omega), rdT, e1]
end
def bef (D : List Nod) (p : Int) : Nat → Int
 | 0 => -1
 | m + 1 => if (m : Int) > p then (if (D.getD m nz).f2 = p then (m : Int) else bef D p m) else -1
theorem wrM (m : Nat) (h : m ≤ 9000000000000000000) : wrap64 ((m : Int) - 1) = (m : Int) - 1 := by unfold wrap64; omega
section
variable {N : List ByteArray} {D : List Nod}
theorem before_l {i : Nat} (hb : D.length ≤ 1000000) (hi : i < D.length) (hp : 0 ≤ (D.getD i nz).f2) : ∀ m : Nat, m ≤ i → Ev (fun k => R4_before.l0 k i ((m : Int) - 1) N D) (bef D (D.getD i nz).f2 m)
 | 0, _ => by
  refine evN 1 fun k => ?_
  show R4_before.l0 (k + 1) (i : Int) (((0 : Nat) : Int) - 1) N D = some (-1)
  rw [R4_before.l0, if_pos (by omega), if_pos (by omega), rdT, if_neg (by omega)]
 | m + 1, h => by
  have ih := before_l hb hi hp m (by omega)
  have em : ((m + 1 : Nat) : Int) - 1 = (m : Int) := by omega
  rw [em]
  unfold bef
  by_cases c : (m : Int) > (D.getD i nz).f2
  ·rw [if_pos c]
   by_cases c2 : (D.getD m nz).f2 = (D.getD i nz).f2
   ·rw [if_pos c2]
    refine evN 1 fun k => ?_
    show R4_before.l0 (k + 1) (i : Int) (m : Int) N D = _
    rw [R4_before.l0, if_pos (by omega), if_pos (by omega), rdT, if_pos c, if_pos (by omega), if_pos (by omega), rdT, if_pos c2]
   ·rw [if_neg c2]
    refine evU 1 ih fun k => ?_
    show R4_before.l0 (k + 1) (i : Int) (m : Int) N D = _
    rw [R4_before.l0, if_pos (by omega), if_pos (by omega), rdT, if_pos c, if_pos (by omega), if_pos (by omega), rdT, if_neg c2, wrM m (by omega)]
  ·rw [if_neg c]
   refine evN 1 fun k => ?_
   show R4_before.l0 (k + 1) (i : Int) (m : Int) N D = _
   rw [R4_before.l0, if_pos (by omega), if_pos (by omega), rdT, if_neg c]
theorem before_ev {i : Nat} (hb : D.length ≤ 1000000) (hi : i < D.length) (hp : 0 ≤ (D.getD i nz).f2) : Ev (fun k => R4_before.f k N D (i : Int)) (bef D (D.getD i nz).f2 i) := by
 unfold R4_before.f
 rw [wrM i (by omega)]
 exact before_l hb hi hp i (Nat.le_refl _)
theorem bef_kids {i : Nat} {op : List Int} (hi : i ≤ D.length) (h : Rw (D.take i) op) {p : Int} (hp : 0 ≤ p) : ∀ m : Nat, m ≤ i → (bef D p m = -1 ∧ kids (prK (D.take m)) p = []) ∨ ∃ b : Nat, b < m ∧ bef D p m = (b : Int) ∧ (kids (prK (D.take m)) p).getLast? = some (D.getD b nz, (D.getD b nz).f1)
 | 0, _ => .inl ⟨rfl, rfl⟩
 | m + 1, hm => by
  have ih := bef_kids hi h hp m (by omega)
  unfold bef
  by_cases c : (m : Int) > p
  ·rw [if_pos c, take_one (by omega), prK_app, show prK [D.getD m nz] = [(D.getD m nz, (D.getD m nz).f1)] from rfl, kids_snoc]
   by_cases c2 : (D.getD m nz).f2 = p
   ·rw [if_pos c2, if_pos c2]
    exact .inr ⟨m, by omega, rfl, List.getLast?_concat ..⟩
   ·rw [if_neg c2, if_neg c2]
    rcases ih with ih | ⟨b, h1, h2⟩
    ·exact .inl ih
    ·exact .inr ⟨b, by omega, h2⟩
  ·rw [if_neg c]
   refine .inl ⟨rfl, ?_⟩
   have hsp : prK (D.take i) = prK (D.take (m + 1)) ++ prK ((D.take i).drop (m + 1)) := by
    rw [← prK_app, show D.take (m + 1) = (D.take i).take (m + 1) from by rw [List.take_take, Nat.min_eq_left hm], List.take_append_drop]
   have hr := h.r
   rw [hsp] at hr
   obtain ⟨o, ho⟩ := rows_take _ _ _ hr
   cases hk : kids (prK (D.take (m + 1))) p with
   | nil => rfl
   | cons d t =>
    obtain ⟨j, h1, h2, -⟩ := kids_behind _ o ho p hp d (by rw [hk]; exact List.mem_cons_self ..)
    have := (List.getElem?_eq_some_iff.1 h1).1
    rw [prK_len, take_len (by omega)] at this
    omega
end
theorem right_in {l : List (Nd × Int)} {op : List Int} {m : Nd} {k : Int} (hl : ¬ l = []) (hm : m.f2 ∈ op) : right l op m k = (if m.f0 = 1 then (if 64 < (op.take (op.idxOf m.f2 + 1)).length then none else some (op.take (op.idxOf m.f2 + 1) ++ [(l.length : Int)]))
 else if m.f0 = 2 then (if more l m.f2 = true ∨ twice l m.f2 k = true then none else some (op.take (op.idxOf m.f2 + 1))) else if textLast l m.f2 = true then none else some (op.take (op.idxOf m.f2 + 1))) := by
 unfold right; rw [if_neg hl, if_pos hm]
theorem right_out {l : List (Nd × Int)} {op : List Int} {m : Nd} {k : Int} (hl : ¬ l = []) (hm : ¬ m.f2 ∈ op) : right l op m k = none := by
 unfold right; rw [if_neg hl, if_neg hm]
theorem attr_last : ∀ (n : Nat) (l : List (Nd × Int)) (op : List Int), l.length = n → rows l = some op → ∀ (p : Int) (c : Nd × Int), (kids l p).getLast? = some c → c.1.f0 = 2 → more l p = false
 | 0, l, op, hn, h, p, c, hc, h2 => by
  have : l = [] := List.eq_nil_of_length_eq_zero hn
  rw [this] at hc; cases hc
 | n + 1, l, op, hn, h, p, c, hc, h2 => by
  rcases List.eq_nil_or_concat l with h' | ⟨pre, d, h'⟩
  ·rw [h'] at hn; exact absurd hn (by simp)
  rw [List.concat_eq_append] at h'
  subst h'
  obtain ⟨o, o', h1, hr, h3⟩ := rows_at pre [] d op h
  have hpre : pre.length = n := by rw [List.length_append, List.length_singleton] at hn; omega
  rw [kids_snoc] at hc
  rw [more_snoc]
  by_cases e : d.1.f2 = p
  ·rw [if_pos e, List.getLast?_concat] at hc
   obtain rfl := Option.some.inj hc
   rw [if_pos e]
   have hm : more pre p = false := by
    by_cases hl : pre = []
    ·rw [hl]; rfl
    ·by_cases hmm : d.1.f2 ∈ o
     ·rw [right_in hl hmm, if_neg (show ¬ d.1.f0 = 1 from by omega), if_pos h2] at hr
      cases hmr : more pre p with
      | false => rfl
      | true => rw [if_pos (.inl (by rw [e]; exact hmr))] at hr; cases hr
     ·rw [right_out hl hmm] at hr; cases hr
   rw [hm]; simp [h2]
  ·rw [if_neg e] at hc
   rw [if_neg e]
   exact attr_last n pre o hpre h1 p c hc h2
section
variable {N : List ByteArray} {D : List Nod}
def dup (D : List Nod) (x : Nod) (k : Nat) : Prop := (D.getD k nz).f0 = 2 ∧ (D.getD k nz).f2 = x.f2 ∧ (D.getD k nz).f1 = x.f1
theorem l1_no {i : Nat} {x : Nod} {r : Int} (hb : D.length ≤ 1000000) (hi : i < D.length) (hr : Ev (fun k => R4_Check.l0 k ((i + 1 : Nat) : Int) N D) r) (hno : ∀ k : Nat, x.f2 < (k : Int) → k < i → ¬ (x.f0 = 2 ∧ dup D x k)) : ∀ (d m : Nat), x.f2 < (m : Int) → i ≤ m + d → m ≤ i → Ev (fun k => R4_Check.l1 k i m N D x.f0 x.f1 x.f2 x.f3) r
 | 0, m, hm, hd, hmi => by
  refine evU 1 hr fun k => ?_
  show R4_Check.l1 (k + 1) (i : Int) (m : Int) N D _ _ _ _ = _
  rw [R4_Check.l1, if_neg (by omega), wrUp i (by omega)]
 | d + 1, m, hm, hd, hmi => by
  by_cases c : m < i
  ·have ih := l1_no hb hi hr hno d (m + 1) (by omega) (by omega) (by omega)
   refine evU 1 ih fun k => ?_
   show R4_Check.l1 (k + 1) (i : Int) (m : Int) N D _ _ _ _ = _
   rw [R4_Check.l1, if_pos (by omega), wrUp m (by omega)]
   have hn := hno m hm c
   unfold dup at hn
   by_cases c0 : x.f0 = 2
   ·rw [if_pos c0, if_pos (by omega), if_pos (by omega), rdT]
    by_cases c1 : (D.getD m nz).f0 = 2
    ·rw [if_pos c1]
     by_cases c2 : (D.getD m nz).f2 = x.f2
     ·rw [if_pos c2, if_neg (fun c3 => hn ⟨c0, c1, c2, c3⟩)]
     ·rw [if_neg c2]
    ·rw [if_neg c1]
   ·rw [if_neg c0]
  ·refine evU 1 hr fun k => ?_
   show R4_Check.l1 (k + 1) (i : Int) (m : Int) N D _ _ _ _ = _
   rw [R4_Check.l1, if_neg (by omega), wrUp i (by omega)]
theorem l1_yes {i : Nat} {x : Nod} (hb : D.length ≤ 1000000) (hi : i < D.length) (h0 : x.f0 = 2) {q : Nat} (hq : q < i) (hd : dup D x q) : ∀ (d m : Nat), m + d = q → Ev (fun k => R4_Check.l1 k i m N D x.f0 x.f1 x.f2 x.f3) 1
 | 0, m, hm => by
  obtain rfl : m = q := by omega
  refine evN 1 fun k => ?_
  show R4_Check.l1 (k + 1) (i : Int) (m : Int) N D _ _ _ _ = _
  rw [R4_Check.l1, if_pos (by omega), if_pos h0, if_pos (by omega), if_pos (by omega), rdT, if_pos hd.1, if_pos hd.2.1, if_pos hd.2.2]
 | d + 1, m, hm => by
  have ih := l1_yes hb hi h0 hq hd d (m + 1) (by omega)
  by_cases c : dup D x m
  ·refine evN 1 fun k => ?_
   show R4_Check.l1 (k + 1) (i : Int) (m : Int) N D _ _ _ _ = _
   rw [R4_Check.l1, if_pos (by omega), if_pos h0, if_pos (by omega), if_pos (by omega), rdT, if_pos c.1, if_pos c.2.1, if_pos c.2.2]
  ·refine evU 1 ih fun k => ?_
   show R4_Check.l1 (k + 1) (i : Int) (m : Int) N D _ _ _ _ = _
   rw [R4_Check.l1, if_pos (by omega), if_pos h0, if_pos (by omega), if_pos (by omega), rdT, wrUp m (by omega)]
   unfold dup at c
   by_cases c1 : (D.getD m nz).f0 = 2
   ·rw [if_pos c1]
    by_cases c2 : (D.getD m nz).f2 = x.f2
    ·rw [if_pos c2, if_neg (fun c3 => c ⟨c1, c2, c3⟩)]
    ·rw [if_neg c2]
   ·rw [if_neg c1]
theorem dup_twice {i : Nat} {op : List Int} (hi : i ≤ D.length) (h : Rw (D.take i) op) {x : Nod} (hp : 0 ≤ x.f2) : twice (prK (D.take i)) x.f2 x.f1 = true ↔ ∃ k, k < i ∧ x.f2 < (k : Int) ∧ dup D x k := by
 unfold twice
 rw [List.any_eq_true]
 constructor
 ·rintro ⟨c, hc, h2⟩
  rw [Bool.and_eq_true, decide_eq_true_eq, decide_eq_true_eq] at h2
  obtain ⟨j, j1, j2, j3⟩ := kids_behind _ op h.r _ hp c hc
  have hj := (List.getElem?_eq_some_iff.1 j1).1
  rw [prK_len, take_len hi] at hj
  rw [prK_get _ _ (by rw [take_len hi]; exact hj), take_get hj hi] at j1
  obtain rfl := Option.some.inj j1
  exact ⟨j, hj, j2, h2.1, j3, h2.2⟩
 ·rintro ⟨k, k1, k2, k3, k4, k5⟩
  refine ⟨(D.getD k nz, (D.getD k nz).f1), ?_, by rw [Bool.and_eq_true, decide_eq_true_eq, decide_eq_true_eq]; exact ⟨k3, k5⟩⟩
  unfold kids
  rw [List.mem_filter]
  refine ⟨?_, by simpa using k4⟩
  have := prK_get (D.take i) k (by rw [take_len hi]; exact k1)
  rw [take_get k1 hi] at this
  exact List.mem_of_getElem? this
def okName (N : List ByteArray) (D : List Nod) (k : Nat) : Bool := (D.any fun x => decide (x.f1 = (k : Int))) && ((!(N.getD k ⟨#[]⟩).data.toList.isEmpty && (nameEndP (N.getD k ⟨#[]⟩).data.toList 0 == ((N.getD k ⟨#[]⟩).size : Int))) && (decide (k = 0) || decide ((N.getD (k - 1) ⟨#[]⟩).data.toList < (N.getD k ⟨#[]⟩).data.toList)))
theorem rdN (N : List ByteArray) (i : Nat) : rdOf ByteArray.empty N (i : Int) = N.getD i ⟨#[]⟩ := rfl
theorem names_end {a : Nat} {u : Bool} {r : Int} (hN : N.length ≤ 1000000) (hs : ∀ x, x ∈ N → x.size ≤ 4294967296) (hb : D.length ≤ 1000000) (ha : a < N.length) (hr : Ev (fun k => R4_Check.l2 k ((a + 1 : Nat) : Int) N D) r) :
 Ev (fun k => R4_Check.l3 k a u (D.length : Int) N D) (if (u && ((!(N.getD a ⟨#[]⟩).data.toList.isEmpty && (nameEndP (N.getD a ⟨#[]⟩).data.toList 0 == ((N.getD a ⟨#[]⟩).size : Int))) && (decide (a = 0) || decide ((N.getD (a - 1) ⟨#[]⟩).data.toList < (N.getD a ⟨#[]⟩).data.toList)))) = true then r else 1) := by
 have hm : N.getD a ⟨#[]⟩ ∈ N := by rw [List.getD_eq_getElem?_getD, List.getElem?_eq_getElem ha]; exact List.getElem_mem ha
 have hn := fun k => ref_name_f (N.getD a ⟨#[]⟩) 0 (hs _ hm) k
 have hne : Ev (fun k => R1_NameEnd.f k (N.getD a ⟨#[]⟩) 0) (nameEndP (N.getD a ⟨#[]⟩).data.toList 0) := evN (2 * (N.getD a ⟨#[]⟩).size + 2) fun k => by
  show R1_NameEnd.f (k + (2 * (N.getD a ⟨#[]⟩).size + 2)) _ _ = _
  rw [show k + (2 * (N.getD a ⟨#[]⟩).size + 2) = 2 * (N.getD a ⟨#[]⟩).size + 2 + k from by omega]; exact hn k
 have hsz : ((N.getD a ⟨#[]⟩).size : Int) > 0 ↔ (N.getD a ⟨#[]⟩).data.toList.isEmpty = false := by
  rw [Lib.size_eq]
  cases (N.getD a ⟨#[]⟩).data.toList <;> simp
 have hl : (D.length : Int) = ((D.length : Nat) : Int) := rfl
 by_cases c1 : ((N.getD a ⟨#[]⟩).size : Int) > 0
 ·rw [hsz.1 c1]
  refine evV 1 hne (g := fun k => if (u && ((!false && (nameEndP (N.getD a ⟨#[]⟩).data.toList 0 == ((N.getD a ⟨#[]⟩).size : Int))) && (decide (a = 0) || decide ((N.getD (a - 1) ⟨#[]⟩).data.toList < (N.getD a ⟨#[]⟩).data.toList)))) = true then R4_Check.l2 k ((a + 1 : Nat) : Int) N D else some 1) ?_ fun k hk => ?_
  ·split
   ·exact hr
   ·exact ⟨0, fun _ _ => rfl⟩
  ·show R4_Check.l3 (k + 1) (a : Int) u (D.length : Int) N D = _
   rw [R4_Check.l3, if_neg (by omega), if_pos (by omega), if_pos (by omega), rdN, if_pos c1, hk, Option.bind_some]
   cases u with
   | false => simp
   | true =>
    rw [if_pos rfl]
    by_cases c2 : nameEndP (N.getD a ⟨#[]⟩).data.toList 0 = ((N.getD a ⟨#[]⟩).size : Int)
    ·rw [if_pos c2, show (nameEndP (N.getD a ⟨#[]⟩).data.toList 0 == ((N.getD a ⟨#[]⟩).size : Int)) = true from by rw [c2]; simp, wrUp a (by omega)]
     by_cases c3 : a = 0
     ·subst c3
      rw [if_neg (by omega)]; simp
     ·obtain ⟨b, rfl⟩ : ∃ b, a = b + 1 := ⟨a - 1, by omega⟩
      rw [if_pos (by omega), wrDown b (by omega), if_pos (by omega), if_pos (by omega), rdN, Lib.toList_data, Lib.toList_data]
      have hlt : Op.bytesLess (N.getD b ⟨#[]⟩).data.toList (N.getD (b + 1) ⟨#[]⟩).data.toList = decide ((N.getD b ⟨#[]⟩).data.toList < (N.getD (b + 1) ⟨#[]⟩).data.toList) := by rw [Go.Proofs.bytesLess_eq]
      rw [hlt, Nat.add_sub_cancel]
      by_cases c4 : (N.getD b ⟨#[]⟩).data.toList < (N.getD (b + 1) ⟨#[]⟩).data.toList
      ·simp [c4]
      ·simp [c4]
    ·rw [if_neg c2, show (nameEndP (N.getD a ⟨#[]⟩).data.toList 0 == ((N.getD a ⟨#[]⟩).size : Int)) = false from by simpa using c2]; simp
 ·have : (N.getD a ⟨#[]⟩).data.toList.isEmpty = true := by
   cases he : (N.getD a ⟨#[]⟩).data.toList.isEmpty with
   | true => rfl
   | false => exact absurd (hsz.2 he) c1
  rw [this]
  refine evN 1 fun k => ?_
  show R4_Check.l3 (k + 1) (a : Int) u (D.length : Int) N D = _
  rw [R4_Check.l3, if_neg (by omega), if_pos (by omega), if_pos (by omega), rdN, if_neg c1]
  cases u <;> simp
theorem names_used {a : Nat} {r : Int} (hN : N.length ≤ 1000000) (hs : ∀ x, x ∈ N → x.size ≤ 4294967296) (hb : D.length ≤ 1000000) (ha : a < N.length) (hr : Ev (fun k => R4_Check.l2 k ((a + 1 : Nat) : Int) N D) r) : ∀ (d m : Nat) (u : Bool), m + d = D.length →
 Ev (fun k => R4_Check.l3 k a u (m : Int) N D) (if ((u || (D.drop m).any fun x => decide (x.f1 = (a : Int))) && ((!(N.getD a ⟨#[]⟩).data.toList.isEmpty && (nameEndP (N.getD a ⟨#[]⟩).data.toList 0 == ((N.getD a ⟨#[]⟩).size : Int))) && (decide (a = 0) || decide ((N.getD (a - 1) ⟨#[]⟩).data.toList < (N.getD a ⟨#[]⟩).data.toList)))) = true then r else 1)
 | 0, m, u, hm => by
  obtain rfl : m = D.length := by omega
  rw [List.drop_of_length_le (Nat.le_refl _), List.any_nil, Bool.or_false]
  exact names_end hN hs hb ha hr
 | d + 1, m, u, hm => by
  have hml : m < D.length := by omega
  have ih := names_used hN hs hb ha hr d (m + 1) (u || decide ((D.getD m nz).f1 = (a : Int))) (by omega)
  rw [drop_one hml, List.any_cons, ← Bool.or_assoc]
  refine evU 1 ih fun k => ?_
  show R4_Check.l3 (k + 1) (a : Int) u (m : Int) N D = _
  rw [R4_Check.l3, if_pos (by omega), wrUp m (by omega)]
  cases u with
  | true => rw [if_pos rfl]; rfl
  | false => rw [if_neg (by decide), if_pos (by omega), rdT]; rfl
theorem names_ev (hN : N.length ≤ 1000000) (hs : ∀ x, x ∈ N → x.size ≤ 4294967296) (hb : D.length ≤ 1000000) : ∀ (d a : Nat), a + d = N.length → Ev (fun k => R4_Check.l2 k (a : Int) N D) (if (List.range' a d).all (okName N D) = true then 0 else 1)
 | 0, a, ha => by
  refine evN 1 fun k => ?_
  show R4_Check.l2 (k + 1) (a : Int) N D = _
  rw [R4_Check.l2, if_neg (by omega)]; rfl
 | d + 1, a, ha => by
  have ih := names_ev hN hs hb d (a + 1) (by omega)
  have h := names_used hN hs hb (a := a) (by omega) ih D.length 0 false (by omega)
  rw [List.drop_zero, Bool.false_or] at h
  rw [List.range'_succ, List.all_cons]
  have e : (if (okName N D a && (List.range' (a + 1) d).all (okName N D)) = true then (0 : Int) else 1) = if okName N D a = true then (if (List.range' (a + 1) d).all (okName N D) = true then 0 else 1) else 1 := by
   cases okName N D a with
   | false => rfl
   | true => rw [Bool.true_and, if_pos rfl]
  rw [e]
  refine evU 1 h fun k => ?_
  show R4_Check.l2 (k + 1) (a : Int) N D = _
  rw [R4_Check.l2, if_pos (by omega)]; rfl
theorem names_all : namesC N D = (List.range' 0 N.length).all (okName N D) := by
 unfold namesC; rw [List.range_eq_range']; rfl
end
end Go.Proofs.YtlhhhlimjajnlaaGreat.P14
end
