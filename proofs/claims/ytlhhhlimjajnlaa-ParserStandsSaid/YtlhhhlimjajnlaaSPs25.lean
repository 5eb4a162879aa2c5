/- Parts of the proof of parserStands_holds, kept and merged by a program of mine (wip/tools/slim.py) out of my texts: PureParserStands -/
import Derived.Test.YtlhhhlimjajnlaaSPs23
import Derived.Test.YtlhhhlimjajnlaaSPs22
import Derived.Test.YtlhhhlimjajnlaaSPs24
import Derived.Test.YtlhhhlimjajnlaaSPs17
section
set_option linter.unusedVariables false
set_option linter.unusedSimpArgs false
namespace Go.Proofs.Ytlhhhlimjajnlaa.Pure
open Go.RowKit Go.Proofs.Ytlhhhlimjajnlaa Go.Proofs.Ytlhhhlimjajnlaa.Q Go.Proofs.YtlhhhlimjajnlaaW.PrintWords Go.Proofs.Ytlhhhlimjajnlaa.X Go.Proofs.Ytlhhhlimjajnlaa.P11 Go.Proofs.Ytlhhhlimjajnlaa.P12 Go.Proofs.Ytlhhhlimjajnlaa.P13 Go.Proofs.Ytlhhhlimjajnlaa.Ck
theorem swr (n : Int) (h0 : -9223372036854775808 ≤ n) (h1 : n ≤ 9223372036854775807) : wrap64 n = n := by unfold wrap64; omega
theorem up_i (i : Nat) (h : i ≤ 9000000000000000000) : wrap64 ((i : Int) + 1) = ((i + 1 : Nat) : Int) := by rw [swr _ (by omega) (by omega)]; omega
abbrev sz : Nod := ⟨0, 0, 0, ⟨#[]⟩⟩
theorem rdS (l : List Nod) (i : Int) : rd_T33 l i = l.getD i.toNat sz := rfl
theorem kids_last {κ : Type} (l : List (Nd × κ)) (p : Int) (i : Nat) (c : Nd × κ) (hc : l[i]? = some c) (hp : c.1.f2 = p) (hb : ∀ j d, i < j → l[j]? = some d → ¬ d.1.f2 = p) : (kids l p).getLast? = some c ∧ c ∈ kids l p := by
  obtain ⟨hi, rfl⟩ := List.getElem?_eq_some_iff.1 hc
  have hsp : l = l.take i ++ [l[i]] ++ l.drop (i + 1) := by rw [List.append_assoc]; show l = l.take i ++ l[i] :: l.drop (i + 1); rw [List.getElem_cons_drop, List.take_append_drop]
  have hk : kids l p = kids (l.take i) p ++ [l[i]] := by
    unfold kids
    conv => lhs; rw [hsp]
    rw [List.filter_append, List.filter_append, List.filter_cons_of_pos (by simpa using hp), show (l.drop (i + 1)).filter (fun c => decide (c.1.f2 = p)) = [] from by
      rw [List.filter_eq_nil_iff]
      intro d hd
      obtain ⟨q, hq⟩ := List.mem_iff_getElem?.1 hd
      rw [List.getElem?_drop] at hq
      simpa using hb _ d (by omega) hq]
    simp
  rw [hk]
  exact ⟨List.getLast?_concat, by simp⟩
structure At (N : List Nod) (nn : Nat) (i : Nat) : Prop where
  root : i = 0 → (N.getD i sz).f0 = 1 ∧ (N.getD i sz).f2 = -1
  par : 0 < i → 0 ≤ (N.getD i sz).f2 ∧ (N.getD i sz).f2 < (i : Int) ∧ (N.getD (N.getD i sz).f2.toNat sz).f0 = 1
  kin : ((N.getD i sz).f0 = 1 ∧ (N.getD i sz).f3.toList = []) ∨ (N.getD i sz).f0 = 2 ∨ ((N.getD i sz).f0 = 3 ∧ (N.getD i sz).f1 = -1 ∧ ¬ (N.getD i sz).f3.toList = [])
  num : ¬ (N.getD i sz).f0 = 3 → 0 ≤ (N.getD i sz).f1 ∧ (N.getD i sz).f1 < (nn : Int)
  last : ∀ k : Nat, k < i → (N.getD k sz).f2 = (N.getD i sz).f2 → (∀ q : Nat, k < q → q < i → ¬ (N.getD q sz).f2 = (N.getD i sz).f2) → ((N.getD i sz).f0 = 2 → (N.getD k sz).f0 = 2) ∧ ((N.getD i sz).f0 = 3 → ¬ (N.getD k sz).f0 = 3)
theorem nodes_at (p : PS) (e : List Int) (h : Fit p e) (i : Nat) (hi : i < p.n.length) : At (treeN p) ((sortedP (namesOf p)).map bytesL).length i := by
  have hN : ∀ j, j < p.n.length → ((treeN p).getD j sz).f0 = (p.n.getD j P13.nz).f0 ∧ ((treeN p).getD j sz).f2 = (p.n.getD j P13.nz).f2 ∧ ((treeN p).getD j sz).f3 = (p.n.getD j P13.nz).f3 := by
    intro j hj
    have := treeN_at p h.len j hj
    show ((treeN p).getD j P13.nz).f0 = _ ∧ ((treeN p).getD j P13.nz).f2 = _ ∧ ((treeN p).getD j P13.nz).f3 = _
    rw [this, num_f0, num_f2, num_f3]; exact ⟨rfl, rfl, rfl⟩
  have hP : ∀ j, j < p.n.length → ∃ k, (prs p)[j]? = some (p.n.getD j P13.nz, k) := by
    intro j hj
    have hl : j < (prs p).length := by rw [prs_len h.len]; exact hj
    obtain ⟨g1, s, g2, g3⟩ := prs_at j _ (List.getElem?_eq_getElem hl)
    refine ⟨(prs p)[j].2, ?_⟩
    rw [List.getElem?_eq_getElem hl, List.getD_eq_getElem?_getD, g1]; rfl
  obtain ⟨k, hk⟩ := hP i hi
  obtain ⟨o, o', r1, r2, r3, r4⟩ := rows_low _ _ h.row i _ hk
  obtain ⟨n0, n2, n3⟩ := hN i hi
  have hmem : p.n.getD i P13.nz ∈ p.n := by rw [List.getD_eq_getElem?_getD, List.getElem?_eq_getElem hi]; exact List.getElem_mem _
  have hkin := h.kin _ hmem
  constructor
  · intro h0; rw [n0, n2]; exact r3 h0
  · intro h0
    obtain ⟨q1, q2, q3, d, q4, q5⟩ := r4 h0
    rw [n2]
    refine ⟨q1, q2, ?_⟩
    have hlt : (p.n.getD i P13.nz).f2.toNat < p.n.length := by have : (p.n.getD i P13.nz).f2 < (i : Int) := q2; omega
    rw [(hN _ hlt).1]
    obtain ⟨k2, hk2⟩ := hP _ hlt
    rw [hk2] at q4
    rw [← Option.some.inj q4] at q5; exact q5
  · rw [n0, n3, Lib.toList_data]
    rcases hkin with hh | hh | ⟨h1, h2, h3⟩
    · exact Or.inl hh
    · exact Or.inr (Or.inl hh)
    · refine Or.inr (Or.inr ⟨h1, ?_, h3⟩)
      show ((treeN p).getD i P13.nz).f1 = -1
      rw [treeN_at p h.len i hi]; unfold numbered; rw [if_pos h1]; exact h2
  · intro h3
    rw [n0] at h3
    obtain ⟨m1, m2, -⟩ := num_name p h.len i hi h3
    exact ⟨m1, m2⟩
  · intro k' hk' he hb
    rw [(hN k' (by omega)).2.1, n2] at he
    have h0 : 0 < i := by omega
    obtain ⟨q1, q2, q3, -⟩ := r4 h0
    obtain ⟨key, hkey⟩ := hP k' (by omega)
    have hin : ((prs p).take i)[k']? = some (p.n.getD k' P13.nz, key) := by rw [List.getElem?_take_of_lt hk']; exact hkey
    obtain ⟨g1, g2⟩ := kids_last ((prs p).take i) (p.n.getD i P13.nz).f2 k' _ hin he (by
      intro j d hj hd
      have hji : j < i := by
        have := (List.getElem?_eq_some_iff.1 hd).1
        rw [List.length_take] at this; omega
      rw [List.getElem?_take_of_lt hji] at hd
      obtain ⟨k3, hk3⟩ := hP j (by omega)
      rw [hk3] at hd
      rw [← Option.some.inj hd]
      have := hb j hj hji
      rw [(hN j (by omega)).2.1, n2] at this; exact this)
    have hne : ¬ (prs p).take i = [] := by
      intro e
      have := congrArg List.length e
      rw [List.length_take, prs_len h.len, List.length_nil] at this; omega
    rw [n0, (hN k' (by omega)).1]
    unfold right at r2
    rw [if_neg hne, if_pos q3] at r2
    simp only at r2
    constructor
    · intro h2
      rw [if_neg (by omega), if_pos h2] at r2
      by_cases hm : more ((prs p).take i) (p.n.getD i P13.nz).f2 = true
      · rw [if_pos (Or.inl hm)] at r2; cases r2
      · have hmf : more ((prs p).take i) (p.n.getD i P13.nz).f2 = false := by
          cases h : more ((prs p).take i) (p.n.getD i P13.nz).f2 with
          | true => exact absurd h hm
          | false => rfl
        unfold more at hmf
        have := List.any_eq_false.1 hmf _ g2
        simpa using this
    · intro h3 hk3
      rw [if_neg (by omega), if_neg (by omega)] at r2
      have : textLast ((prs p).take i) (p.n.getD i P13.nz).f2 = true := by
        unfold textLast
        rw [g1]; simpa using hk3
      rw [if_pos this] at r2; cases r2
theorem stands_l1 (x6 : List Bool) (names : List ByteArray) (N : List Nod) (i : Nat) (hi : i < N.length) (hN : N.length ≤ 5000) (hA : At N names.length i) (d : Nat) : ∀ (j K : Nat) (last : Int), i - j = d → j ≤ i → d + 1 ≤ K → (N.getD i sz).f2 + 1 ≤ (j : Int) → (i = 0 → last = -1) →
    ((last = -1 ∧ ∀ q : Nat, (N.getD i sz).f2 + 1 ≤ (q : Int) → q < j → ¬ (N.getD q sz).f2 = (N.getD i sz).f2) ∨ (0 ≤ last ∧ last < (j : Int) ∧ (N.getD last.toNat sz).f2 = (N.getD i sz).f2 ∧ ∀ q : Nat, last < (q : Int) → q < j → ¬ (N.getD q sz).f2 = (N.getD i sz).f2)) →
    topiarylaw13_ParserStands.l1 K true x6 i last j names N (N.getD i sz).f0 (N.getD i sz).f1 (N.getD i sz).f2 (N.getD i sz).f3 = topiarylaw13_ParserStands.l0 (K - d - 1) true x6 ((i + 1 : Nat) : Int) names N := by
  induction d with
  | zero =>
    intro j K last hd hj hK hp h0 hl
    obtain ⟨K, rfl⟩ : ∃ m, K = m + 1 := ⟨K - 1, by omega⟩
    have hji : j = i := by omega
    subst hji
    have hB : j ≤ 9000000000000000000 := by omega
    rw [topiarylaw13_ParserStands.l1, if_neg (by omega), up_i j hB, show K + 1 - 0 - 1 = K from by omega]
    rcases hl with ⟨rfl, -⟩ | ⟨l0, l1, l2, l3⟩
    · rw [if_neg (by decide)]
    · rw [if_pos (show last ≥ 0 from l0)]
      have hlast := hA.last last.toNat (by omega) l2 (fun q hq hq2 => l3 q (by omega) hq2)
      have q1 : (0 : Int) ≤ last := l0
      have q2 : last < (N.length : Int) := by omega
      have q3 : last ≥ 0 := l0
      by_cases c2 : (N.getD j sz).f0 = 2
      · have q4 : ¬ (N.getD j sz).f0 = 3 := by rw [c2]; decide
        rw [if_pos c2, if_pos q1, if_pos q2, rdS N last, if_pos (hlast.1 c2), if_neg q4]
      · rw [if_neg c2]
        by_cases c3 : (N.getD j sz).f0 = 3
        · rw [if_pos c3, if_pos q1, if_pos q2, rdS N last, if_neg (hlast.2 c3)]
        · rw [if_neg c3]
  | succ d ih =>
    intro j K last hd hj hK hp h0 hl
    obtain ⟨K, rfl⟩ : ∃ m, K = m + 1 := ⟨K - 1, by omega⟩
    have hB : j ≤ 9000000000000000000 := by omega
    have hf := hA.par (by omega)
    rw [topiarylaw13_ParserStands.l1, if_pos (by omega), if_pos (by omega), if_pos (by omega), up_i j hB]
    rw [rdS N (j : Int), Int.toNat_natCast]
    rw [show K + 1 - (d + 1) - 1 = K - d - 1 from by omega]
    by_cases c : (N.getD j sz).f2 = (N.getD i sz).f2
    · rw [if_pos c, if_pos (by omega)]
      refine ih (j + 1) K j (by omega) (by omega) (by omega) (by omega) (fun h => by omega) (Or.inr ⟨by omega, by omega, by rw [Int.toNat_natCast]; exact c, fun q h1 h2 => by omega⟩)
    · rw [if_neg c]
      refine ih (j + 1) K last (by omega) (by omega) (by omega) (by omega) h0 ?_
      rcases hl with ⟨l0, l1⟩ | ⟨l0, l1, l2, l3⟩
      · refine Or.inl ⟨l0, fun q h1 h2 => ?_⟩
        by_cases hq : q = j
        · rw [hq]; exact c
        · exact l1 q h1 (by omega)
      · refine Or.inr ⟨l0, by omega, l2, fun q h1 h2 => ?_⟩
        by_cases hq : q = j
        · rw [hq]; exact c
        · exact l3 q h1 (by omega)
def Met (x6 : List Bool) (N : List Nod) (i : Nat) : Prop := ∀ j : Nat, j < i → ¬ (N.getD j sz).f0 = 3 → x6.getD (N.getD j sz).f1.toNat false = true
theorem met_set {x6 : List Bool} {N : List Nod} {i : Nat} (h : Met x6 N i) (hlt : (N.getD i sz).f1.toNat < x6.length) : Met (x6.set (N.getD i sz).f1.toNat true) N (i + 1) := by
  intro j hj h3
  rw [List.getD_eq_getElem?_getD, List.getElem?_set]
  by_cases c : (N.getD i sz).f1.toNat = (N.getD j sz).f1.toNat
  · rw [if_pos c, if_pos hlt]; rfl
  · rw [if_neg c, ← List.getD_eq_getElem?_getD]
    refine h j ?_ h3
    rcases Nat.lt_or_ge j i with h' | h'
    · exact h'
    · have : j = i := by omega
      rw [this] at c; exact absurd rfl c
structure Nms2 (names : List ByteArray) (N : List Nod) : Prop where
  small : ∀ s, s ∈ names → s.size ≤ 200
  name : ∀ s, s ∈ names → nameEndP s.data.toList 0 = (s.size : Int)
  used : ∀ k : Nat, k < names.length → ∃ j : Nat, j < N.length ∧ ¬ (N.getD j sz).f0 = 3 ∧ (N.getD j sz).f1 = (k : Int)
  rise : ∀ k : Nat, 0 < k → k < names.length → Op.bytesLess (names.getD (k - 1) ByteArray.empty).toList (names.getD k ByteArray.empty).toList = true
theorem stands_l2 (x6 : List Bool) (names : List ByteArray) (N : List Nod) (hN : 0 < N.length) (hn : names.length ≤ 1000) (h6 : x6.length = names.length) (hS : Nms2 names N) (hM : Met x6 N N.length) (d : Nat) : ∀ (k K : Nat), names.length - k = d → k ≤ names.length → d + 404 ≤ K →
    topiarylaw13_ParserStands.l2 K true x6 k names N = some true := by
  induction d with
  | zero =>
    intro k K hd hk hK
    obtain ⟨K, rfl⟩ : ∃ m, K = m + 1 := ⟨K - 1, by omega⟩
    rw [topiarylaw13_ParserStands.l2, if_neg (by omega), if_pos rfl]
    simp; omega
  | succ d ih =>
    intro k K hd hk hK
    obtain ⟨K, rfl⟩ : ∃ m, K = m + 1 := ⟨K - 1, by omega⟩
    have hlt : k < names.length := by omega
    have hmem : names.getD k ByteArray.empty ∈ names := by rw [List.getD_eq_getElem?_getD, List.getElem?_eq_getElem hlt]; exact List.getElem_mem _
    have hs := hS.small _ hmem
    have hne := P11n.ref_name_f (names.getD k ByteArray.empty) 0 (by omega) (K - (2 * (names.getD k ByteArray.empty).size + 2))
    rw [show 2 * (names.getD k ByteArray.empty).size + 2 + (K - (2 * (names.getD k ByteArray.empty).size + 2)) = K from by omega, hS.name _ hmem] at hne
    obtain ⟨j, j1, j2, j3⟩ := hS.used k hlt
    have hu := hM j j1 j2
    rw [j3, Int.toNat_natCast] at hu
    have hB : k ≤ 9000000000000000000 := by omega
    rw [topiarylaw13_ParserStands.l2, if_pos (by omega), if_pos (by omega), if_pos (by omega)]
    unfold rdOf
    rw [Int.toNat_natCast, hne, Option.bind_some, hu, if_pos rfl, if_pos rfl, up_i k hB, ih (k + 1) K (by omega) (by omega) (by omega)]
    by_cases h0 : 0 < k
    · rw [if_pos (by omega), swr _ (by omega) (by omega), if_pos (by omega), if_pos (by omega), show ((k : Int) - 1).toNat = k - 1 from by omega, if_pos (hS.rise k h0 hlt)]
    · rw [if_neg (by omega)]
theorem stands_l0 (names : List ByteArray) (N : List Nod) (hN : 0 < N.length) (hl : N.length ≤ 5000) (hn : names.length ≤ 1000) (hA : ∀ i, i < N.length → At N names.length i) (hS : Nms2 names N) (d : Nat) : ∀ (i K : Nat) (x6 : List Bool), N.length - i = d → i ≤ N.length → d * (N.length + 6) + 2000 ≤ K → x6.length = names.length → Met x6 N i →
    topiarylaw13_ParserStands.l0 K true x6 i names N = some true := by
  induction d with
  | zero =>
    intro i K x6 hd hi hK h6 hM
    obtain ⟨K, rfl⟩ : ∃ m, K = m + 1 := ⟨K - 1, by omega⟩
    have : i = N.length := by omega
    subst this
    rw [topiarylaw13_ParserStands.l0, if_neg (by omega)]
    exact stands_l2 x6 names N hN hn h6 hS hM names.length 0 K (by omega) (by omega) (by omega)
  | succ d ih =>
    intro i K x6 hd hi hK h6 hM
    have hmul : (d + 1) * (N.length + 6) = d * (N.length + 6) + (N.length + 6) := Nat.succ_mul _ _
    obtain ⟨K, rfl⟩ : ∃ m, K = m + 4 := ⟨K - 4, by omega⟩
    have hlt : i < N.length := by omega
    have a := hA i hlt
    rw [topiarylaw13_ParserStands.l0, if_pos (by omega), if_pos (by omega)]
    rw [rdS N (i : Int), Int.toNat_natCast]
    have e0 : (decide ((N.getD i sz).f2 < 0) != ((i : Int) == 0)) = false := by
      rcases Nat.eq_zero_or_pos i with h0 | h0
      · subst h0; rw [(a.root rfl).2]; rfl
      · have := a.par h0
        rw [show decide ((N.getD i sz).f2 < 0) = false from decide_eq_false (by omega), show ((i : Int) == 0) = false from beq_eq_false_iff_ne.mpr (by omega)]; rfl
    rw [e0, if_neg (by decide), if_neg (by
      rcases Nat.eq_zero_or_pos i with h0 | h0
      · subst h0; rw [(a.root rfl).2]; decide
      · have := a.par h0; omega), if_neg (by rcases a.kin with h | h | h <;> omega), show decide ((N.getD i sz).f0 > 3) = false from decide_eq_false (by rcases a.kin with h | h | h <;> omega)]
    have hj3 : ∀ x6', x6'.length = names.length → Met x6' N (i + 1) → topiarylaw13_ParserStands.j3 (K + 1) true x6' i names N (N.getD i sz).f0 (N.getD i sz).f1 (N.getD i sz).f2 (N.getD i sz).f3 = some true := by
      intro x6' hx hM'
      have hf : -1 ≤ (N.getD i sz).f2 ∧ (N.getD i sz).f2 < (i : Int) := by
        rcases Nat.eq_zero_or_pos i with h0 | h0
        · subst h0; rw [(a.root rfl).2]; decide
        · have := a.par h0; omega
      rw [topiarylaw13_ParserStands.j3, swr _ (by omega) (by omega), show (N.getD i sz).f2 + 1 = (((N.getD i sz).f2 + 1).toNat : Int) from by omega,
        stands_l1 x6' names N i hlt hl a (i - ((N.getD i sz).f2 + 1).toNat) ((N.getD i sz).f2 + 1).toNat K (-1) rfl (by omega) (by omega) (by omega) (fun _ => rfl) (Or.inl ⟨rfl, fun q h1 h2 => by omega⟩)]
      exact ih (i + 1) _ x6' (by omega) (by omega) (by omega) hx hM'
    have hM1 : (N.getD i sz).f0 = 3 → Met x6 N (i + 1) := by
      intro h3 j hj hj3
      refine hM j ?_ hj3
      rcases Nat.lt_or_ge j i with h' | h'
      · exact h'
      · have : j = i := by omega
        rw [this] at hj3; exact absurd h3 hj3
    have hj2 : topiarylaw13_ParserStands.j2 (K + 2) true x6 i false names N (N.getD i sz).f0 (N.getD i sz).f1 (N.getD i sz).f2 (N.getD i sz).f3 = some true := by
      rw [topiarylaw13_ParserStands.j2, if_neg (by decide)]
      rcases a.kin with ⟨h, h'⟩ | h | ⟨h, h', h''⟩
      · have hn := a.num (by omega)
        rw [if_neg (by omega), if_neg (by omega), if_neg (by omega), if_pos h, if_pos h', if_pos (by omega), if_pos (by omega)]
        exact hj3 _ (by rw [List.length_set]; exact h6) (met_set hM (by omega))
      · have hn := a.num (by omega)
        rw [if_neg (by omega), if_neg (by omega), if_neg (by omega), if_neg (by omega), if_pos (by omega), if_pos (by omega)]
        exact hj3 _ (by rw [List.length_set]; exact h6) (met_set hM (by omega))
      · rw [if_pos h, if_pos h', if_neg h'']
        exact hj3 _ h6 (hM1 h)
    rw [topiarylaw13_ParserStands.j1, if_neg (by decide)]
    rcases Nat.eq_zero_or_pos i with h0 | h0
    · subst h0
      rw [if_pos (by rfl), if_pos (a.root rfl).1, if_neg (by decide)]; exact hj2
    · have hp := a.par h0
      rw [if_neg (by omega), if_pos (by omega), if_pos (by omega), if_pos (by omega)]
      rw [rdS N (N.getD i sz).f2, hp.2.2, bne_self_eq_false]; exact hj2
theorem names_ok (p : PS) (e : List Int) (h : Fit p e) (hs : Sht 200 p.s) (hm : Nmd p) : Nms2 ((sortedP (namesOf p)).map bytesL) (treeN p) := by
  have hmem : ∀ x, x ∈ sortedP (namesOf p) → ∃ c, c ∈ p.n.zip p.s ∧ ¬ c.1.f0 = 3 ∧ c.2.data.toList = x := by
    intro x hx
    have := (P13.mem_sorted _ _).1 hx
    unfold namesOf at this
    obtain ⟨c, hc, he⟩ := List.mem_filterMap.1 this
    split at he
    · cases he
    · rename_i h3; exact ⟨c, hc, h3, Option.some.inj he⟩
  have hb : ∀ s, s ∈ (sortedP (namesOf p)).map bytesL → ∃ c, c ∈ p.n.zip p.s ∧ ¬ c.1.f0 = 3 ∧ c.2 = s := by
    intro s hs
    obtain ⟨x, hx, rfl⟩ := List.mem_map.1 hs
    obtain ⟨c, h1, h2, h3⟩ := hmem x hx
    exact ⟨c, h1, h2, by rw [← h3, bytesL_data]⟩
  constructor
  · intro s hs'
    obtain ⟨c, h1, h2, rfl⟩ := hb s hs'
    exact hs _ (List.of_mem_zip h1).2
  · intro s hs'
    obtain ⟨c, h1, h2, rfl⟩ := hb s hs'
    obtain ⟨g1, g2⟩ := hm c h1 h2
    unfold nameEndP
    rw [if_pos ⟨Int.le_refl _, by omega⟩]
    show (0 : Int) + (nameLen c.2.data.toList : Int) = _
    rw [g2, Lib.size_eq]; omega
  · intro k hk
    rw [List.length_map] at hk
    obtain ⟨c, h1, h2, h3⟩ := hmem _ (List.getElem_mem hk)
    obtain ⟨j, hj⟩ := List.mem_iff_getElem?.1 h1
    rw [List.getElem?_zip_eq_some] at hj
    have hjl := (List.getElem?_eq_some_iff.1 hj.1).1
    have hjn : p.n.getD j P13.nz = c.1 := by rw [List.getD_eq_getElem?_getD, hj.1]; rfl
    have hjs : p.s.getD j ⟨#[]⟩ = c.2 := by rw [List.getD_eq_getElem?_getD, hj.2]; rfl
    refine ⟨j, by rw [treeN_len p h.len]; exact hjl, ?_, ?_⟩
    · show ¬ ((treeN p).getD j P13.nz).f0 = 3
      rw [treeN_at p h.len j hjl, num_f0, hjn]; exact h2
    · show ((treeN p).getD j P13.nz).f1 = _
      rw [treeN_at p h.len j hjl, hjn, hjs]
      unfold numbered
      rw [if_neg h2, h3]
      show (((sortedP (namesOf p)).idxOf (sortedP (namesOf p))[k] : Nat) : Int) = k
      have hk2 := List.idxOf_lt_length_of_mem (List.getElem_mem hk)
      have := (List.getElem_inj (h₀ := hk2) (h₁ := hk) (sorted_nodup (namesOf p))).1 (List.getElem_idxOf hk2)
      rw [this]
  · intro k h0 hk
    rw [List.length_map] at hk
    have e1 : ((sortedP (namesOf p)).map bytesL).getD (k - 1) ByteArray.empty = bytesL (sortedP (namesOf p))[k - 1] := by
      rw [List.getD_eq_getElem?_getD, List.getElem?_map, List.getElem?_eq_getElem (by omega)]; rfl
    have e2 : ((sortedP (namesOf p)).map bytesL).getD k ByteArray.empty = bytesL (sortedP (namesOf p))[k] := by
      rw [List.getD_eq_getElem?_getD, List.getElem?_map, List.getElem?_eq_getElem hk]; rfl
    rw [e1, e2, Lib.toList_data, Lib.toList_data, Go.Proofs.bytesLess_eq]
    have := sorted_lt (namesOf p) (k - 1) _ _ (List.getElem?_eq_getElem (by omega)) (by rw [show k - 1 + 1 = k from by omega]; exact List.getElem?_eq_getElem hk)
    have e3 : ∀ l : List UInt8, (bytesL l).data.toList = l := fun l => by unfold bytesL; simp
    rw [e3, e3]; simpa using this
theorem ParserStands : topiarylaw13_ParserStands.Pure := by
  intro a0 _
  obtain ⟨s, hs, hsz, _⟩ := short13 a0 200
  rw [show ((200 : Nat) : Int) = 200 from rfl] at hs
  by_cases ho : (parseV s).2 = 0
  rotate_left
  · refine ⟨0, ?_⟩
    unfold topiarylaw13_ParserStands.f
    rw [awake13, Option.bind_some, hs, Option.bind_some, parser_Parse.f, if_pos (by omega), Option.bind_some, if_neg ho, if_pos rfl]
    have : (parseV s).1 = ([], []) := by
      unfold parseV at ho ⊢
      split
      · rename_i hl
        rw [if_pos hl] at ho
        unfold treeP at ho ⊢
        split
        · rfl
        · rename_i c1
          rw [if_neg c1] at ho
          split
          · rfl
          · rename_i c2; rw [if_neg c2] at ho; exact absurd rfl ho
      · rfl
    rw [this]
    have hz : wrap64 (((0 : Nat) : Int) + ((0 : Nat) : Int)) = 0 := by rw [swr _ (by omega) (by omega)]; rfl
    show some (wrap64 (((0 : Nat) : Int) + ((0 : Nat) : Int)) == 0) = some true
    rw [hz]; rfl
  obtain ⟨p, e, hf, hpo, hp0, hpl, hpn, hpv, hpp⟩ := parse_fit s ho
  have hsh : Sht 200 p.s := by
    rw [hpp]
    refine sht_flush (sht_run _ _ (fun s hs => by cases hs) fun t ht => ?_)
    exact Nat.le_trans (lexV_nms s t ht) hsz
  have hnm : Nmd p := by rw [hpp]; exact parse_names s
  refine ⟨(treeN p).length * ((treeN p).length + 6) + 2000, ?_⟩
  unfold topiarylaw13_ParserStands.f
  rw [awake13, Option.bind_some, hs, Option.bind_some, parser_Parse.f, if_pos (by omega), Option.bind_some, hpv, if_pos rfl]
  simp only
  have hnl : ((sortedP (namesOf p)).map bytesL).length ≤ 1000 := by rw [List.length_map]; exact hpn
  rw [if_pos (by omega), Int.toNat_natCast, if_pos (by omega)]
  have hN := treeN_len p hf.len
  exact stands_l0 _ (treeN p) (by omega) (by omega) hnl (fun i hi => nodes_at p e hf i (by omega)) (names_ok p e hf hsh hnm) (treeN p).length 0 _ _ (by omega) (by omega) (by omega) (by rw [List.length_replicate]) (fun j hj => by omega)
end Go.Proofs.Ytlhhhlimjajnlaa.Pure
end
