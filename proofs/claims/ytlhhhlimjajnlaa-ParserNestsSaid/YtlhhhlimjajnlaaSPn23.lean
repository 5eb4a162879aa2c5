/- Parts of the proof of parserNests_holds, kept and merged by a program of mine (wip/tools/slim.py) out of my texts: PureParserNests -/
import Derived.Test.YtlhhhlimjajnlaaSPn22
import Derived.Test.YtlhhhlimjajnlaaSPn21
import Derived.Test.YtlhhhlimjajnlaaSPn16
section
set_option linter.unusedVariables false
set_option linter.unusedSimpArgs false
namespace Go.Proofs.Ytlhhhlimjajnlaa.Pure
open Go.RowKit Go.Proofs.Ytlhhhlimjajnlaa Go.Proofs.Ytlhhhlimjajnlaa.Q Go.Proofs.YtlhhhlimjajnlaaW.PrintWords Go.Proofs.Ytlhhhlimjajnlaa.X Go.Proofs.Ytlhhhlimjajnlaa.P11 Go.Proofs.Ytlhhhlimjajnlaa.P12 Go.Proofs.Ytlhhhlimjajnlaa.P13
theorem nwr (n : Int) (h0 : -9223372036854775808 ≤ n) (h1 : n ≤ 9223372036854775807) : wrap64 n = n := by unfold wrap64; omega
theorem rdN (l : List Nod) (i : Nat) : rd_T33 l (i : Int) = l.getD i nz := by unfold rd_T33; rw [Int.toNat_natCast]; rfl
theorem nests_l0 (a : Nat) (pre : List Nod) (preS : List ByteArray) (p q : PS) (h : Out a pre preS p q) (hl : p.n.length ≤ 300) (hlow : Low p) (d : Nat) : ∀ (i k : Nat), p.n.length - i ≤ d → 3 * d + 1 ≤ k →
    topiarylaw13_ParserNests.l0 k true a i ((sortedP (namesOf p)).map bytesL) (treeN p) ((sortedP (namesOf q)).map bytesL) (treeN q) = some true := by
  have hpl := treeN_len p h.2.1
  have hql := treeN_len q h.2.2.1
  have hpt := treeN_at p h.2.1
  have hqt := treeN_at q h.2.2.1
  have hpm := num_name p h.2.1
  have hqm := num_name q h.2.2.1
  have ha : a ≤ 2 := by rcases h.1 with ⟨rfl, -⟩ | ⟨rfl, -⟩ <;> omega
  generalize treeN p = N at *
  generalize treeN q = M at *
  generalize ((sortedP (namesOf p)).map bytesL) = A at *
  generalize ((sortedP (namesOf q)).map bytesL) = B at *
  induction d with
  | zero =>
    intro i k hd hk
    obtain ⟨k, rfl⟩ : ∃ j, k = j + 1 := ⟨k - 1, by omega⟩
    rw [topiarylaw13_ParserNests.l0, if_neg (by omega)]
  | succ d ih =>
    intro i k hd hk
    obtain ⟨k, rfl⟩ : ∃ j, k = j + 3 := ⟨k - 3, by omega⟩
    by_cases hi : i < p.n.length
    rotate_left
    · rw [topiarylaw13_ParserNests.l0, if_neg (by omega)]
    obtain ⟨a1, a2, a3⟩ := h.at_n i hi
    have ihh := ih (i + 1) k (by omega) (by omega)
    have g1 : (i : Int) < (N.length : Int) := by omega
    have g2 : (0 : Int) ≤ (i : Int) := by omega
    have g3 : ((i + a : Nat) : Int) < (M.length : Int) := by omega
    have g4 : (0 : Int) ≤ ((i + a : Nat) : Int) := by omega
    have gz : i = 0 → ¬ (i : Int) > 0 := fun h => by omega
    have gp : ¬ i = 0 → (i : Int) > 0 := fun h => by omega
    have gw : ∀ x : Int, -1 ≤ x → x < 300 → wrap64 (x + a) = x + a := fun x h1 h2 => nwr _ (by omega) (by omega)
    have gn : ((p.n.length : Nat) : Int) ≤ 300 := by omega
    have e1 : wrap64 ((i : Int) + a) = ((i + a : Nat) : Int) := by rw [nwr _ (by omega) (by omega)]; omega
    have e2 : wrap64 ((i : Int) + 1) = ((i + 1 : Nat) : Int) := by rw [nwr _ (by omega) (by omega)]; omega
    rw [topiarylaw13_ParserNests.l0, if_pos g1, if_pos g2, e1, if_pos g4, if_pos g3]
    simp only [rdN]
    have p1 := hpt i hi
    have p2 := hqt (i + a) a2
    have n0 : (M.getD (i + a) nz).f0 = (N.getD i nz).f0 := by
      rw [p1, p2, num_f0, num_f0, a1]; split <;> rfl
    have n3 : (M.getD (i + a) nz).f3 = (N.getD i nz).f3 := by
      rw [p1, p2, num_f3, num_f3, a1]; split <;> rfl
    have n2 : (M.getD (i + a) nz).f2 = if i = 0 then 0 else (N.getD i nz).f2 + a := by
      rw [p1, p2, num_f2, num_f2, a1]
      split <;> rfl
    have hb : -1 ≤ (N.getD i nz).f2 ∧ (N.getD i nz).f2 < 300 := by
      rw [p1, num_f2]
      have := hlow (p.n.getD i nz) (by rw [List.getD_eq_getElem?_getD, List.getElem?_eq_getElem hi]; exact List.getElem_mem _)
      exact ⟨this.1, Int.lt_of_lt_of_le this.2 gn⟩
    have hrest : ∀ y : Int, y = (M.getD (i + a) nz).f2 → topiarylaw13_ParserNests.j4 (k + 2) true a i y A N B M (N.getD i nz).f0 (N.getD i nz).f1 (N.getD i nz).f2 (N.getD i nz).f3 (M.getD (i + a) nz).f0 (M.getD (i + a) nz).f1 (M.getD (i + a) nz).f2 (M.getD (i + a) nz).f3 = some true := by
      intro y hy
      rw [topiarylaw13_ParserNests.j4, n0, if_pos rfl, n3, if_pos rfl, hy, bne_self_eq_false, topiarylaw13_ParserNests.j5, if_neg (by decide), e2, ihh]
      by_cases h3 : (N.getD i nz).f0 = 3
      · rw [if_pos h3]
      rw [if_neg h3]
      have h3p : ¬ (p.n.getD i nz).f0 = 3 := by rw [p1, num_f0] at h3; exact h3
      have h3q : ¬ (q.n.getD (i + a) nz).f0 = 3 := by rw [← n0, p2, num_f0] at h3; exact h3
      obtain ⟨m1, m2, m3⟩ := hpm i hi h3p
      obtain ⟨m4, m5, m6⟩ := hqm (i + a) a2 h3q
      rw [if_pos m1, if_pos m2, if_pos m4, if_pos m5, m3, m6, a3, if_pos rfl]
    by_cases i0 : i = 0
    · rw [if_neg (gz i0)]
      exact hrest 0 (by rw [n2, if_pos i0])
    · rw [if_pos (gp i0)]
      exact hrest _ (by rw [n2, if_neg i0, gw _ hb.1 hb.2])
theorem ParserNests : topiarylaw13_ParserNests.Pure := by
  intro a0 _
  obtain ⟨s, hs, hsz, _⟩ := short13 a0 150
  rw [show ((150 : Nat) : Int) = 150 from rfl] at hs
  refine ⟨1004, ?_⟩
  unfold topiarylaw13_ParserNests.f
  rw [awake13, Option.bind_some, hs, Option.bind_some, parser_Parse.f, if_pos (by omega), Option.bind_some]
  by_cases ho : (parseV s).2 = 0
  rotate_left
  · rw [if_neg ho]
  rw [if_pos ho, if_pos (by omega), if_pos (by rw [app_size, show (⟨#[60, 122, 122, 62]⟩ : ByteArray).size = 4 from rfl]; omega)]
  rw [show (⟨#[60, 122, 122, 62]⟩ : ByteArray) ++ s ++ ⟨#[60, 47, 122, 122, 62]⟩ = zzD s from rfl]
  have hzs : (zzD s).size ≤ 4294967280 := by
    unfold zzD; rw [app_size, app_size, show zzO.size = 4 from rfl, show zzC.size = 5 from rfl]; omega
  rw [parser_Parse.f, if_pos hzs, Option.bind_some]
  obtain ⟨a, pre, preS, p, q, h, e1, e2, hl, hlow⟩ := nests_out s hsz ho
  rw [e1, e2]
  simp only
  rw [if_pos trivial]
  have hpl := treeN_len p h.2.1
  have hql := treeN_len q h.2.2.1
  have hp0 : 0 < p.n.length := by obtain ⟨r, rest, tail, e1, e2, e3⟩ := h.2.2.2.1; rw [e1]; simp
  obtain ⟨b1, b2, b3⟩ := h.at_n 0 hp0
  have ha : a = 1 ∨ a = 2 := by rcases h.1 with ⟨rfl, -⟩ | ⟨rfl, -⟩ <;> omega
  have hql2 : p.n.length + a ≤ q.n.length := by
    have := (h.at_n (p.n.length - 1) (by omega)).2.1; omega
  have hd : decide (((treeN q).length : Int) < wrap64 (((treeN p).length : Int) + 1)) = false := by
    rw [nwr _ (by omega) (by omega)]; simp; omega
  rw [hd, topiarylaw13_ParserNests.j0, if_neg (by decide), if_pos (by omega)]
  have hmain : ∀ x : Int, x = a → topiarylaw13_ParserNests.j1 1003 true x ((sortedP (namesOf p)).map bytesL) (treeN p) ((sortedP (namesOf q)).map bytesL) (treeN q) = some true := by
    rintro x rfl
    have h00 : (q.n.getD 0 nz) = rootN ∧ q.s.getD 0 ⟨#[]⟩ = zzB := by
      obtain ⟨g1, g2, g3, ⟨r, rest, tail, e1, e2, e3⟩, ts, e4⟩ := h
      rw [e3, e4]
      rcases g1 with ⟨-, rfl, rfl⟩ | ⟨-, ⟨x, rfl⟩, rfl⟩ <;> exact ⟨rfl, rfl⟩
    obtain ⟨m1, m2, m3⟩ := num_name q h.2.2.1 0 (by omega) (by rw [h00.1]; decide)
    have hr0 := rdN (treeN q) 0
    rw [show ((0 : Nat) : Int) = 0 from rfl] at hr0
    rw [topiarylaw13_ParserNests.j1, nwr _ (by omega) (by omega), if_neg (by omega), if_pos (by omega), hr0, if_pos m1, if_pos m2, m3, h00.2,
      show (zzB.toList != ([122, 122] : List UInt8)) = false from by kernel_rfl, topiarylaw13_ParserNests.j2, if_neg (by decide)]
    exact nests_l0 a pre preS p q h hl hlow 300 0 1001 (by omega) (by omega)
  have hr1 := rdN (treeN q) 1
  rw [show ((1 : Nat) : Int) = 1 from rfl] at hr1
  have hf : (rd_T33 (treeN q) 1).f0 = if a = 2 then 3 else 1 := by
    rw [hr1, treeN_at q h.2.2.1 1 (by omega), num_f0]
    obtain ⟨g1, g2, g3, ⟨r, rest, tail, e1, e2, e3⟩, ts, e4⟩ := h
    rw [e3]
    rcases g1 with ⟨rfl, rfl, rfl⟩ | ⟨rfl, ⟨x, rfl⟩, rfl⟩
    · exact e2
    · rfl
  rcases ha with rfl | rfl
  · rw [hf, if_neg (show ¬ ((if (1 : Nat) = 2 then (3 : Int) else 1) = 3) from by decide)]; exact hmain 1 rfl
  · rw [hf, if_pos (show (if (2 : Nat) = 2 then (3 : Int) else 1) = 3 from by decide)]; exact hmain 2 rfl
end Go.Proofs.Ytlhhhlimjajnlaa.Pure
end
