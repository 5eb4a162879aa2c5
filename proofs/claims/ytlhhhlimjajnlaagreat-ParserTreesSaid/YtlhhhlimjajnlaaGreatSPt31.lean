/- Parts of the proof of parserTrees_holds, kept and merged by a program of mine (wip/tools/slim.py) out of my texts: R13d R13e R13f -/
import Derived.Test.YtlhhhlimjajnlaaGreatSPt29
import Derived.Test.YtlhhhlimjajnlaaGreatSPt30
section
set_option linter.unusedVariables false
set_option linter.unusedSimpArgs false
namespace Go.Proofs.YtlhhhlimjajnlaaGreat.R13
open Go.RowKit Go.Proofs.YtlhhhlimjajnlaaGreat Go.Proofs.YtlhhhlimjajnlaaGreat.Q Go.Proofs.YtlhhhlimjajnlaaGreat.P11 Go.Proofs.YtlhhhlimjajnlaaGreat.P12 Go.Proofs.YtlhhhlimjajnlaaGreatW.PrintWords Go.Proofs.YtlhhhlimjajnlaaGreat.X Go.Proofs.YtlhhhlimjajnlaaGreat.P13 Go.Proofs.YtlhhhlimjajnlaaGreat.Ck
theorem deps_small {p : PS} (h : Dp p) (hl : p.n.length ≤ 1000000) : ∀ i, i < p.n.length → 0 ≤ (deps p.n).getD i 0 ∧ (deps p.n).getD i 0 ≤ (i : Int) := by
 intro i
 induction i using Nat.strongRecOn with
 | ind i ih =>
  intro hi
  rw [deps_at p.n i hi]
  have hlow := h.low i (p.n.getD i Ck.nz) (by rw [List.getD_eq_getElem?_getD, List.getElem?_eq_getElem hi]; rfl)
  unfold dep1
  by_cases c : 0 ≤ (p.n.getD i Ck.nz).f2
  ·rw [if_pos c]
   have hj : (p.n.getD i Ck.nz).f2.toNat < i := by omega
   have := ih _ hj (by omega)
   rw [List.getD_eq_getElem?_getD, List.getElem?_take_of_lt hj, ← List.getD_eq_getElem?_getD]
   omega
  ·rw [if_neg c]; omega
theorem mem_namesOf {p : PS} (h : p.s.length = p.n.length) (x : List UInt8) : x ∈ namesOf p ↔ ∃ j, j < p.n.length ∧ ¬ (p.n.getD j Ck.nz).f0 = 3 ∧ (p.s.getD j nob).data.toList = x := by
 constructor
 ·intro hx
  unfold namesOf at hx
  obtain ⟨c, hc, he⟩ := List.mem_filterMap.1 hx
  split at he
  ·cases he
  ·rename_i h3
   obtain ⟨j, hj⟩ := List.mem_iff_getElem?.1 hc
   rw [List.getElem?_zip_eq_some] at hj
   refine ⟨j, (List.getElem?_eq_some_iff.1 hj.1).1, ?_, ?_⟩
   ·rw [List.getD_eq_getElem?_getD, hj.1]; exact h3
   ·rw [List.getD_eq_getElem?_getD, hj.2]; exact Option.some.inj he
 ·rintro ⟨j, h1, h2, rfl⟩
  exact mem_names p h j h1 h2
def limR (p : PS) : List ByteArray × List Nd × Int :=
 if p.dp = true ∨ 1000 < (sortedP (namesOf p)).length then ([], [], 18) else ((sortedP (namesOf p)).map bytesL, treeN p, 0)
def NmsUp (p : PS) (i : Nat) (A : List ByteArray) : Prop := Inc A ∧ A.length ≤ i ∧ ∀ x, x ∈ A ↔ ∃ j, j < i ∧ ¬ (p.n.getD j Ck.nz).f0 = 3 ∧ p.s.getD j nob = x
theorem names_all {p : PS} (h : p.s.length = p.n.length) (A : List ByteArray) (hA : NmsUp p p.n.length A) : A = (sortedP (namesOf p)).map bytesL := by
 refine inc_eq hA.1 (inc_sorted _) fun x => ?_
 rw [hA.2.2, List.mem_map]
 constructor
 ·rintro ⟨j, h1, h2, rfl⟩
  exact ⟨_, (P13.mem_sorted _ _).2 ((mem_namesOf h _).2 ⟨j, h1, h2, rfl⟩), bytesL_data _⟩
 ·rintro ⟨y, hy, rfl⟩
  obtain ⟨j, h1, h2, h3⟩ := (mem_namesOf h y).1 ((P13.mem_sorted _ _).1 hy)
  exact ⟨j, h1, h2, by rw [← h3, bytesL_data]⟩
theorem lim_l1 {p : PS} (h : Dp p) (hl : p.n.length ≤ 5000) (d : Nat) : ∀ i, p.n.length - i = d → i ≤ p.n.length →
 Ev (fun k => R3_limited.l1 k (zipN p) i ((sortedP (namesOf p)).map bytesL) ((treeN p).take i)) ((sortedP (namesOf p)).map bytesL, treeN p, 0) := by
 have hz := zipN_len h.len
 have hT := treeN_len p h.len
 have hnl := names_len p
 induction d with
 | zero =>
  intro i hd hi
  have g1 : ¬ (i : Int) < ((zipN p).length : Int) := by omega
  refine ev_now 1 fun k => ?_
  show R3_limited.l1 (k + 1) (zipN p) i _ _ = _
  rw [R3_limited.l1, if_neg g1, List.take_of_length_le (by omega)]
 | succ d ih =>
  intro i hd hi
  have hil : i < p.n.length := by omega
  have g1 : (i : Int) < ((zipN p).length : Int) := by omega
  have g2 : (0 : Int) ≤ (i : Int) := by omega
  have g3 : ((treeN p).take i).length < 3518437208883 := by rw [List.length_take]; omega
  have hB : i ≤ 9000000000000000000 := by omega
  have hat := zipN_at h.len i hil
  have hi1 := ih (i + 1) (by omega) (by omega)
  have ht : (treeN p).take (i + 1) = (treeN p).take i ++ [numbered (sortedP (namesOf p)) (p.n.getD i Ck.nz) (p.s.getD i nob)] := by
   rw [List.take_succ_eq_append_getElem (by omega)]
   have := treeN_at p h.len i hil
   rw [List.getD_eq_getElem?_getD, List.getElem?_eq_getElem (by omega)] at this
   have this : (treeN p)[i] = _ := this
   rw [this]
  rw [ht] at hi1
  by_cases c3 : (p.n.getD i Ck.nz).f0 = 3
  ·refine ev_up 1 (fun k => ?_) hi1
   show R3_limited.l1 (k + 1) (zipN p) i _ _ = _
   rw [R3_limited.l1, if_pos g1, if_pos g2, hat]
   simp only
   rw [if_pos c3, if_pos g3, wr_up i hB]
   unfold numbered
   rw [if_pos c3]
  ·have hm : p.s.getD i nob ∈ (sortedP (namesOf p)).map bytesL := List.mem_map.2 ⟨_, (P13.mem_sorted _ _).2 (mem_names p h.len i hil c3), bytesL_data _⟩
   have hN := number_f _ (by rw [List.length_map]; omega) _ hm
   have hmm : ((sortedP (namesOf p)).map bytesL).map (fun a => a.data.toList) = sortedP (namesOf p) := by
    rw [List.map_map]
    have : ((fun a : ByteArray => a.data.toList) ∘ bytesL) = id := by funext l; show (bytesL l).data.toList = l; unfold bytesL; simp
    rw [this, List.map_id]
   rw [hmm] at hN
   obtain ⟨K1, hK1⟩ := hN
   obtain ⟨K2, hK2⟩ := hi1
   refine ⟨K1 + K2 + 1, fun k hk => ?_⟩
   obtain ⟨k, rfl⟩ : ∃ j, k = j + 1 := ⟨k - 1, by omega⟩
   show R3_limited.l1 (k + 1) (zipN p) i _ _ = _
   rw [R3_limited.l1, if_pos g1, if_pos g2, hat]
   simp only
   rw [if_neg c3, (show R3_Number.f k _ _ = _ from hK1 k (by omega)), Option.bind_some, if_pos g3, wr_up i hB]
   have := hK2 k (by omega)
   unfold numbered at this
   rw [if_neg c3] at this
   exact this
theorem lim_l0 {p : PS} (h : Dp p) (hl : p.n.length ≤ 5000) (d : Nat) : ∀ (i : Nat) (A : List ByteArray), p.n.length - i = d → i ≤ p.n.length → NmsUp p i A → (∀ j, j < i → (p.n.getD j Ck.nz).f0 = 1 → ¬ 64 < (deps p.n).getD j 0) →
 Ev (fun k => R3_limited.l0 k (zipN p) ((deps p.n).take i) i A) (limR p) := by
 have hz := zipN_len h.len
 have hD := deps_len p.n
 induction d with
 | zero =>
  intro i A hd hi hA hdeep
  have g1 : ¬ (i : Int) < ((zipN p).length : Int) := by omega
  have hil : i = p.n.length := by omega
  subst hil
  have hAA := names_all h.len A hA
  have hnd : ¬ p.dp = true := by
   intro e
   obtain ⟨j, h1, h2, h3⟩ := h.deep.1 e
   exact hdeep j h1 h2 h3
  unfold limR
  by_cases c : 1000 < (sortedP (namesOf p)).length
  ·rw [if_pos (Or.inr c)]
   refine ev_now 1 fun k => ?_
   show R3_limited.l0 (k + 1) (zipN p) _ (p.n.length : Nat) A = _
   rw [R3_limited.l0, if_neg g1, hAA, if_pos (by rw [List.length_map]; omega)]
  ·rw [if_neg (fun e => e.elim hnd c)]
   refine ev_up 1 (fun k => ?_) (lim_l1 h hl p.n.length 0 rfl (Nat.zero_le _))
   show R3_limited.l0 (k + 1) (zipN p) _ (p.n.length : Nat) A = _
   rw [R3_limited.l0, if_neg g1, hAA, if_neg (by rw [List.length_map]; omega)]; rfl
 | succ d ih =>
  intro i A hd hi hA hdeep
  have hil : i < p.n.length := by omega
  have g1 : (i : Int) < ((zipN p).length : Int) := by omega
  have g2 : (0 : Int) ≤ (i : Int) := by omega
  have hB : i ≤ 9000000000000000000 := by omega
  have hat := zipN_at h.len i hil
  have hds := deps_small h (by omega) i hil
  have hdat := deps_at p.n i hil
  have hlen : ((deps p.n).take i).length = i := by rw [List.length_take]; omega
  have g3 : ((deps p.n).take i).length < 17592186044416 := by omega
  have htake : (deps p.n).take (i + 1) = (deps p.n).take i ++ [(deps p.n).getD i 0] := by
   rw [List.take_succ_eq_append_getElem (by omega), List.getD_eq_getElem?_getD, List.getElem?_eq_getElem (by omega)]; rfl
  have hlow := h.low i (p.n.getD i Ck.nz) (by rw [List.getD_eq_getElem?_getD, List.getElem?_eq_getElem hil]; rfl)
  have hfirst : ∀ k, R3_limited.l0 (k + 1) (zipN p) ((deps p.n).take i) i A = R3_limited.j1 k (zipN p) ((deps p.n).take i) i ((deps p.n).getD i 0) A (p.n.getD i Ck.nz).f0 (p.n.getD i Ck.nz).f1 (p.n.getD i Ck.nz).f2 (p.n.getD i Ck.nz).f3 (p.s.getD i nob) := by
   intro k
   rw [R3_limited.l0, if_pos g1, if_pos g2, hat]
   simp only
   unfold dep1 at hdat
   by_cases c : (p.n.getD i Ck.nz).f2 ≥ 0
   ·have hj : (p.n.getD i Ck.nz).f2.toNat < i := by omega
    have hrd : rd ((deps p.n).take i) (p.n.getD i Ck.nz).f2 = ((deps p.n).take i).getD (p.n.getD i Ck.nz).f2.toNat 0 := rfl
    rw [if_pos c] at hdat
    rw [if_pos c, if_pos c, if_pos (by rw [hlen]; exact hlow.2), hrd]
    have e : wrap64 (((deps p.n).take i).getD (p.n.getD i Ck.nz).f2.toNat 0 + 1) = (deps p.n).getD i 0 := by rw [hdat] at hds ⊢; exact rwr _ (by omega) (by omega)
    rw [e]
   ·rw [if_neg c] at hdat
    rw [if_neg c, hdat]
  have hsnoc : (p.n.getD i Ck.nz).f0 = 3 → NmsUp p (i + 1) A := by
   intro c3
   refine ⟨hA.1, by have := hA.2.1; omega, fun x => ?_⟩
   rw [hA.2.2]
   constructor
   ·rintro ⟨j, h1, h2, h3⟩; exact ⟨j, by omega, h2, h3⟩
   ·rintro ⟨j, h1, h2, h3⟩
    rcases Nat.lt_or_ge j i with hh | hh
    ·exact ⟨j, hh, h2, h3⟩
    ·have : j = i := by omega
     subst this; exact absurd c3 h2
  have hstep : ∀ (hnd : (p.n.getD i Ck.nz).f0 = 1 → ¬ 64 < (deps p.n).getD i 0), Ev (fun k => R3_limited.j2 k (zipN p) ((deps p.n).take (i + 1)) i false A (p.n.getD i Ck.nz).f0 (p.n.getD i Ck.nz).f1 (p.n.getD i Ck.nz).f2 (p.n.getD i Ck.nz).f3 (p.s.getD i nob)) (limR p) := by
   intro hnd
   have hdeep' : ∀ j, j < i + 1 → (p.n.getD j Ck.nz).f0 = 1 → ¬ 64 < (deps p.n).getD j 0 := by
    intro j hj
    rcases Nat.lt_or_ge j i with hh | hh
    ·exact hdeep j hh
    ·have : j = i := by omega
     subst this; exact hnd
   by_cases c3 : (p.n.getD i Ck.nz).f0 = 3
   ·refine ev_up 1 (fun k => ?_) (ih (i + 1) A (by omega) (by omega) (hsnoc c3) hdeep')
    show R3_limited.j2 (k + 1) (zipN p) _ i false A _ _ _ _ _ = _
    rw [R3_limited.j2, if_neg (by decide), if_pos c3, wr_up i hB]
   ·obtain ⟨B, hB, b1, b2, b3⟩ := with_f A hA.1 (by have := hA.2.1; omega) (p.s.getD i nob)
    obtain ⟨K1, hK1⟩ := hB
    obtain ⟨K2, hK2⟩ := ih (i + 1) B (by omega) (by omega) ⟨b1, by have := hA.2.1; omega, fun x => by
     rw [b2, hA.2.2]
     constructor
     ·rintro (⟨j, h1, h2, h3⟩ | rfl)
      ·exact ⟨j, by omega, h2, h3⟩
      ·exact ⟨i, by omega, c3, rfl⟩
     ·rintro ⟨j, h1, h2, h3⟩
      rcases Nat.lt_or_ge j i with hh | hh
      ·exact Or.inl ⟨j, hh, h2, h3⟩
      ·have : j = i := by omega
       subst this; exact Or.inr h3.symm⟩ hdeep'
    refine ⟨K1 + K2 + 1, fun k hk => ?_⟩
    obtain ⟨k, rfl⟩ : ∃ j, k = j + 1 := ⟨k - 1, by omega⟩
    show R3_limited.j2 (k + 1) (zipN p) _ i false A _ _ _ _ _ = _
    rw [R3_limited.j2, if_neg (by decide), if_neg c3, (show R3_with.f k A _ = some B from hK1 k (by omega)), Option.bind_some, wr_up i hB]
    exact hK2 k (by omega)
  by_cases c1 : (p.n.getD i Ck.nz).f0 = 1
  ·by_cases cd : 64 < (deps p.n).getD i 0
   ·have hR : limR p = ([], [], 18) := by unfold limR; rw [if_pos (Or.inl (h.deep.2 ⟨i, hil, c1, cd⟩))]
    rw [hR]
    refine ev_now 3 fun k => ?_
    show R3_limited.l0 (k + 3) (zipN p) _ i A = _
    rw [hfirst, R3_limited.j1, if_pos g3, Option.bind_some, if_pos c1, show decide ((deps p.n).getD i 0 > 64) = true from decide_eq_true cd, R3_limited.j2, if_pos rfl]
   ·refine ev_up 2 (fun k => ?_) (hstep fun _ => cd)
    show R3_limited.l0 (k + 2) (zipN p) _ i A = _
    rw [hfirst, R3_limited.j1, if_pos g3, Option.bind_some, if_pos c1, show decide ((deps p.n).getD i 0 > 64) = false from decide_eq_false cd, htake]
  ·refine ev_up 2 (fun k => ?_) (hstep fun e => absurd e c1)
   show R3_limited.l0 (k + 2) (zipN p) _ i A = _
   rw [hfirst, R3_limited.j1, if_pos g3, Option.bind_some, if_neg c1, htake]
theorem limited_f {p : PS} (h : Dp p) (hl : p.n.length ≤ 1000000) : Ev (fun k => R3_limited.f k (zipN p)) (if 5000 < p.n.length then ([], [], 18) else limR p) := by
 have hz := zipN_len h.len
 by_cases c : 5000 < p.n.length
 ·rw [if_pos c]
  refine ⟨0, fun k _ => ?_⟩
  show R3_limited.f k (zipN p) = _
  unfold R3_limited.f
  rw [if_pos (by omega)]
 ·rw [if_neg c]
  have := lim_l0 h (by omega) p.n.length 0 [] rfl (Nat.zero_le _) ⟨List.Pairwise.nil, Nat.le_refl _, fun x => ⟨fun hx => (by cases hx), fun ⟨j, hj, _⟩ => absurd hj (by omega)⟩⟩ (fun j hj => by omega)
  obtain ⟨K, hK⟩ := this
  refine ⟨K, fun k hk => ?_⟩
  show R3_limited.f k (zipN p) = _
  unfold R3_limited.f
  rw [if_neg (by omega)]
  exact hK k hk
def Kin7 (l : List Tok) : Prop := ∀ t, t ∈ l → 1 ≤ t.f0 ∧ t.f0 ≤ 7
theorem kin7_app {l r : List Tok} (h1 : Kin7 l) (h2 : Kin7 r) : Kin7 (l ++ r) := fun t ht => by
 rcases List.mem_append.1 ht with h | h
 ·exact h1 t h
 ·exact h2 t h
theorem kin7_one {t : Tok} (h : 1 ≤ t.f0 ∧ t.f0 ≤ 7) : Kin7 [t] := fun u hu => by rw [List.mem_singleton.1 hu]; exact h
theorem attrs_kin7 (d : ByteArray) : ∀ (n : Nat) (a : Int) (acc r : List Tok) (a' : Int), Kin7 acc → attrsF d n a acc = some (r, a') → Kin7 r := by
 intro n
 induction n with
 | zero => intro a acc r a' _ h; cases h
 | succ n ih =>
  intro a acc r a' hacc h
  unfold attrsF at h
  split at h
  ·injection h with h; injection h with h2 h3
   rw [← h2]; exact kin7_app hacc (kin7_one (by show (1 : Int) ≤ 3 ∧ (3 : Int) ≤ 7; omega))
  split at h
  ·injection h with h; injection h with h2 h3
   rw [← h2]; exact kin7_app hacc (kin7_one (by show (1 : Int) ≤ 4 ∧ (4 : Int) ≤ 7; omega))
  cases hA : attrP d a with
  | none => rw [hA] at h; cases h
  | some v =>
   obtain ⟨new, p⟩ := v
   rw [hA] at h
   exact ih p (acc ++ new) r a' (kin7_app hacc fun t ht => by rw [attr_kind d a new p hA t ht]; omega) h
theorem step_kin7 (d : ByteArray) (a : Int) (new : List Tok) (a' : Int) (h : stepP d a = some (new, a')) : Kin7 new := by
 unfold stepP at h
 split at h
 ·unfold commentP at h
  simp only at h
  split at h
  ·cases h
  split at h
  ·injection h with h; injection h with h2 h3
   rw [← h2]; exact kin7_one (by show (1 : Int) ≤ 7 ∧ (7 : Int) ≤ 7; omega)
  ·cases h
 split at h
 ·unfold plainP at h
  simp only at h
  split at h
  ·injection h with h; injection h with h2 h3
   rw [← h2]; exact kin7_one (by show (1 : Int) ≤ 6 ∧ (6 : Int) ≤ 7; omega)
  ·cases h
 split at h
 ·unfold closingP at h
  simp only at h
  split at h
  ·cases h
  split at h
  ·injection h with h; injection h with h2 h3
   rw [← h2]; exact kin7_one (by show (1 : Int) ≤ 5 ∧ (5 : Int) ≤ 7; omega)
  ·cases h
 split at h
 ·unfold tagP at h
  simp only at h
  split at h
  ·cases h
  ·exact attrs_kin7 d _ _ _ _ _ (kin7_one (by show (1 : Int) ≤ 1 ∧ (1 : Int) ≤ 7; omega)) h
 ·unfold textP at h
  simp only at h
  cases hd : dec (Lib.cut (d.data.toList.drop a.toNat) [60]).1 with
  | none => rw [hd] at h; cases h
  | some v =>
   rw [hd] at h
   injection h with h; injection h with h2 h3
   rw [← h2]; exact kin7_one (by show (1 : Int) ≤ 6 ∧ (6 : Int) ≤ 7; omega)
theorem lexF_kin7 (s : ByteArray) (n : Nat) : ∀ (a : Int) (acc l : List Tok), Kin7 acc → lexF s n a acc = some l → Kin7 l := by
 induction n with
 | zero => intro a acc l _ h; cases h
 | succ n ih =>
  intro a acc l hv h
  unfold lexF at h
  split at h
  ·cases hS : stepP s a with
   | none => rw [hS] at h; cases h
   | some v =>
    obtain ⟨new, a'⟩ := v
    rw [hS] at h
    exact ih a' (acc ++ new) l (kin7_app hv (step_kin7 s a new a' hS)) h
  ·obtain rfl := Option.some.inj h
   exact hv
theorem lexV_kin7 (s : ByteArray) : Kin7 (lexV s).1 := by
 unfold lexV
 split
 ·intro t ht; cases ht
 split
 ·intro t ht; cases ht
 ·cases h : lexO s with
  | none => intro t ht; cases ht
  | some l => exact lexF_kin7 s _ 0 [] l (fun t ht => by cases ht) h
theorem seg_alt (L : List UInt8) : ∀ (r : List Tok) (a b : Int) (x : Bool), Seg L a x r b false → Kin7 r → Alt x r
 | [], a, b, x, h, _ => h.2
 | t :: r, a, b, x, h, hk => by
  obtain ⟨h1, h2, h3, h4, h5, h6⟩ := h
  exact ⟨h5, hk t (List.mem_cons_self ..), seg_alt L r _ _ _ h6 fun u hu => hk u (List.mem_cons_of_mem _ hu)⟩
theorem lexV_alt (s : ByteArray) (h : (lexV s).2 = 0) : Alt false (lexV s).1 := seg_alt _ _ _ _ _ (lexV_seg s h) (lexV_kin7 s)
theorem skipP_le (l : List UInt8) : 0 ≤ skipP l 0 ∧ skipP l 0 ≤ l.length := by
 unfold skipP
 split
 ·have := (List.takeWhile_prefix spaceB (l := l.drop (0 : Int).toNat)).length_le
  rw [List.length_drop] at this
  omega
 ·omega
def spacesB (s : ByteArray) : Bool := skipP s.data.toList 0 == (s.size : Int)
theorem spaces_f (s : ByteArray) (hs : s.size ≤ 65536) : Ev (fun k => R3_spaces.f k s) (spacesB s) := by
 refine ⟨200000, fun k hk => ?_⟩
 show R3_spaces.f k s = _
 unfold R3_spaces.f
 rw [skip_at s 0 hs k hk]; rfl
theorem bad_tree {p : PS} (h : Bad p) : treeP (flushP p) = (([], []), 15) := by
 unfold treeP
 rw [if_pos]
 rcases h with h | h
 ·left
  cases hw : (flushP p).wr with
  | true => rfl
  | false => rw [wr_flush hw] at h; cases h
 ·right; left
  rw [(flush_keeps p).1]
  exact List.length_pos_iff.2 h
theorem flush_out (q : PS) (ho : q.o = []) (hx : q.x = nob) (hw : q.wr = false) (s : ByteArray) : (spacesB s = true → flushP { q with x := s } = q) ∧ (spacesB s = false → (flushP { q with x := s }).wr = true) ∧ (flushP { q with x := s }).o = [] ∧ (flushP { q with x := s }).n = q.n := by
 have hsk := skipP_le s.data.toList
 have hsz : s.data.toList.length = s.size := (Lib.size_eq s).symm
 refine ⟨fun h => ?_, fun h => ?_, ?_, ?_⟩
 ·have h : skipP s.data.toList 0 = (s.size : Int) := by simpa [spacesB] using h
  unfold flushP
  by_cases c : s.data.toList = []
  ·rw [if_pos c]; exact set_x q hx
  ·rw [if_neg c, if_pos (by show topP q.o < 0; rw [ho]; decide)]
   show ({ q with x := nob, wr := q.wr || decide (skipP s.data.toList 0 < (s.size : Int)) } : PS) = q
   rw [h, show decide ((s.size : Int) < (s.size : Int)) = false from by simp, Bool.or_false]
   exact set_x q hx
 ·have h : ¬ skipP s.data.toList 0 = (s.size : Int) := by simpa [spacesB] using h
  unfold flushP
  by_cases c : s.data.toList = []
  ·exfalso
   apply h
   rw [c] at hsk hsz ⊢
   have : s.size = 0 := by rw [← hsz]; rfl
   rw [this]; rfl
  ·rw [if_neg c, if_pos (by show topP q.o < 0; rw [ho]; decide)]
   show (q.wr || decide (skipP s.data.toList 0 < (s.size : Int))) = true
   rw [show decide (skipP s.data.toList 0 < (s.size : Int)) = true from by simp; omega, Bool.or_true]
 ·rw [(flush_keeps _).1]; exact ho
 ·unfold flushP
  by_cases c : s.data.toList = []
  ·rw [if_pos c]
  ·rw [if_neg c, if_pos (by show topP q.o < 0; rw [ho]; decide)]
theorem out_end (q : PS) (ho : q.o = []) (t : Tok) (r : List Tok) (h : t.f0 = 5) : Bad ((t :: r).foldl X.stepT q) := by
 rw [List.foldl_cons]
 refine bad_run _ _ ?_
 unfold X.stepT
 rw [if_neg (by omega), if_neg (by omega), if_neg (by omega), if_neg (by omega), if_neg (by omega), if_pos h]
 unfold endP
 simp only
 rw [(flush_keeps q).1, ho, if_pos (Or.inl (by decide))]
theorem out_begin (q : PS) (t : Tok) (r : List Tok) (h : t.f0 = 1) (hb : (flushP q).wr = true ∨ ((flushP q).o = [] ∧ 0 < (flushP q).n.length)) : Bad ((t :: r).foldl X.stepT q) := by
 rw [List.foldl_cons]
 refine bad_run _ _ ?_
 unfold X.stepT
 rw [if_neg (by omega), if_neg (by omega), if_pos h]
 show ((flushP q).wr || (decide (topP (flushP q).o < 0) && decide (0 < (flushP q).n.length))) = true
 rcases hb with hb | ⟨h1, h2⟩
 ·rw [hb]; rfl
 ·rw [h1, show topP [] = -1 from rfl, show decide ((-1 : Int) < 0) = true from rfl, decide_eq_true h2]; simp
theorem lim_tree (q : PS) (hD : Dp q) (hw : q.wr = false) (ho : q.o = []) (hn : 0 < q.n.length) : (if 5000 < q.n.length then (([] : List ByteArray), ([] : List Nd), (18 : Int)) else limR q) = ((treeP q).1.1, (treeP q).1.2, (treeP q).2) := by
 have hT : treeP q = if q.dp = true ∨ 5000 < q.n.length ∨ 1000 < (sortedP (namesOf q)).length then (([], []), 18) else (((sortedP (namesOf q)).map bytesL, treeN q), 0) := by
  unfold treeP
  rw [if_neg (by rw [hw, ho]; simp; exact List.ne_nil_of_length_pos hn)]; rfl
 rw [hT]
 by_cases c : 5000 < q.n.length
 ·rw [if_pos c, if_pos (Or.inr (Or.inl c))]
 ·rw [if_neg c]
  unfold limR
  by_cases c2 : q.dp = true ∨ 1000 < (sortedP (namesOf q)).length
  ·rw [if_pos c2, if_pos]
   rcases c2 with h | h
   ·exact Or.inl h
   ·exact Or.inr (Or.inr h)
  ·rw [if_neg c2, if_neg]
   rintro (h | h | h)
   ·exact c2 (Or.inl h)
   ·exact c h
   ·exact c2 (Or.inr h)
theorem ref_parse (d : ByteArray) (hl : (lexV d).1.length ≤ 2900) (hts : tsize (lexV d).1 ≤ 60000) : Ev (fun k => R3_Parse.f k d) ((parseV d).1.1, (parseV d).1.2, (parseV d).2) := by
 by_cases he : (lexV d).2 = 0
 rotate_left
 ·refine ⟨900000, fun k hk => ?_⟩
  show R3_Parse.f k d = _
  unfold R3_Parse.f parseV
  rw [ref_lex_f d k hk, Option.bind_some, if_neg he, if_neg he]
 have halt := lexV_alt d he
 have hpv : parseV d = treeP (flushP ((lexV d).1.foldl X.stepT psZero)) := by unfold parseV; rw [if_pos he]
 rw [hpv]
 generalize hlV : (lexV d).1 = l at *
 obtain ⟨K1, hK1⟩ := texts_f l (by omega) 0 (Nat.zero_le _) (by rw [List.drop_zero]; omega)
 have hm1 := texts_machine l psZero
 obtain ⟨ha1, ha2⟩ := texts_alt l nob halt
 have hle1 := textsL_le l nob
 have hsz1 : ∀ (r : List Tok) (s : ByteArray), (textsL r s).1.size ≤ s.size + tsize r := by
  intro r
  induction r with
  | nil => intro s; exact Nat.le_refl _
  | cons t r ih =>
   intro s
   unfold textsL tsize
   split
   ·have := ih (s ++ t.f4); rw [ByteArray.size_append] at this; simp only; omega
   split
   ·have := ih s; simp only; omega
   ·simp only; omega
 have hz1 := hsz1 l nob
 rw [show (nob : ByteArray).size = 0 from rfl] at hz1
 rw [List.drop_zero, Nat.zero_add] at hK1
 rw [show psZero.x = nob from rfl] at hm1
 generalize (textsL l nob).1 = s1 at *
 generalize (textsL l nob).2 = c1 at *
 obtain ⟨K2, hK2⟩ := spaces_f s1 (by omega)
 obtain ⟨f1, f2, f3, f4⟩ := flush_out psZero rfl rfl rfl s1
 have hz0 : zipN psZero = [] := rfl
 have fin : ∀ (r : List Nm × Int × Bool), Ev (fun k => R3_element.f k l (c1 : Int) (-1) [] 0) r → Ev (fun k => R3_Parse.j0 k l r.1 r.2.1 (if spacesB s1 = true then !r.2.2 else true)) ((treeP (flushP (l.foldl X.stepT psZero))).1.1, (treeP (flushP (l.foldl X.stepT psZero))).1.2, (treeP (flushP (l.foldl X.stepT psZero))).2) →
  Ev (fun k => R3_Parse.f k d) ((treeP (flushP (l.foldl X.stepT psZero))).1.1, (treeP (flushP (l.foldl X.stepT psZero))).1.2, (treeP (flushP (l.foldl X.stepT psZero))).2) := by
  rintro r ⟨K3, hK3⟩ ⟨K4, hK4⟩
  refine ⟨900000 + K1 + K2 + K3 + K4, fun k hk => ?_⟩
  show R3_Parse.f k d = _
  unfold R3_Parse.f
  have h1 := hK1 k (by omega)
  have h2 := hK2 k (by omega)
  have h3 := hK3 k (by omega)
  have h4 := hK4 k (by omega)
  have h1 : R3_texts.f k l 0 = some (s1, (c1 : Int)) := h1
  have h2 : R3_spaces.f k s1 = some (spacesB s1) := h2
  have h3 : R3_element.f k l (c1 : Int) (-1) [] 0 = some r := h3
  rw [ref_lex_f d k (by omega), Option.bind_some, if_pos he, hlV, h1, Option.bind_some, h2, Option.bind_some, h3, Option.bind_some]
  by_cases c : spacesB s1 = true
  ·rw [if_pos c] at h4 ⊢; exact h4
  ·rw [if_neg c] at h4 ⊢; exact h4
 have wrong : ∀ (r : List Nm × Int × Bool), Ev (fun k => R3_element.f k l (c1 : Int) (-1) [] 0) r → (if spacesB s1 = true then !r.2.2 else true) = true → Bad (l.foldl X.stepT psZero) ∨ treeP (flushP (l.foldl X.stepT psZero)) = (([], []), 15) → Ev (fun k => R3_Parse.f k d) ((treeP (flushP (l.foldl X.stepT psZero))).1.1, (treeP (flushP (l.foldl X.stepT psZero))).1.2, (treeP (flushP (l.foldl X.stepT psZero))).2) := by
  intro r hr hb hbad
  refine fin r hr ?_
  have : treeP (flushP (l.foldl X.stepT psZero)) = (([], []), 15) := hbad.elim bad_tree id
  rw [this, hb]
  refine ev_now 1 fun k => ?_
  show R3_Parse.j0 (k + 1) l r.1 r.2.1 true = _
  rw [R3_Parse.j0, if_pos rfl]
 have hb15 : ∀ b : Bool, (if spacesB s1 = true then !false else b) = true ∨ b = false := fun b => by cases b <;> simp
 cases hr : l.drop c1 with
 | nil =>
  have hge : (c1 : Int) ≥ (l.length : Int) := by
   rcases Nat.lt_or_ge c1 l.length with h | h
   ·rw [List.drop_eq_getElem_cons h] at hr; cases hr
   ·omega
  refine wrong ([], (c1 : Int), false) (ev_now 2 fun k => ?_) (by split <;> rfl) (Or.inr ?_)
  ·show R3_element.f (k + 2) l (c1 : Int) (-1) [] 0 = _
   rw [R3_element.f, if_pos hge, R3_element.j0, if_pos rfl]
  ·rw [hm1, hr]
   show treeP (flushP { psZero with x := s1 }) = _
   unfold treeP
   rw [if_pos]
   right; right
   rw [f4]; rfl
 | cons t r =>
  obtain ⟨e1, e2, e3⟩ := rd_tok l c1 t r hr
  have g2 : (0 : Int) ≤ (c1 : Int) := by omega
  have g1 : ¬ (c1 : Int) ≥ (l.length : Int) := by omega
  rw [hr] at ha1 ha2 hm1
  rcases ha2 t r rfl with k1 | k5
  rotate_left
  ·
   refine wrong ([], (c1 : Int), false) (ev_now 2 fun k => ?_) (by split <;> rfl) (Or.inl ?_)
   ·show R3_element.f (k + 2) l (c1 : Int) (-1) [] 0 = _
    rw [R3_element.f, if_neg g1, if_pos g2, if_pos e2, e1, if_neg (by omega), R3_element.j0, if_pos rfl]
   ·rw [hm1]; exact out_end _ rfl t r k5
  obtain ⟨hE, -⟩ := all_e l hl (by omega) l.length
  obtain ⟨res, r1, r2, r3⟩ := hE c1 psZero 0 t r hr k1 (by rw [hr]; exact ha1) (by omega) rfl rfl (fun _ => rfl) (fun z hz => by cases hz) rfl (Nat.zero_le _) (Nat.zero_le _)
  have r1 : Ev (fun k => R3_element.f k l (c1 : Int) (-1) [] 0) res := r1
  by_cases hsp : spacesB s1 = true
  rotate_left
  ·
   have hsp' : spacesB s1 = false := by simpa using hsp
   refine wrong res r1 (by rw [if_neg hsp]) (Or.inl ?_)
   rw [hm1]
   exact out_begin _ t r k1 (Or.inl (f2 hsp'))
  have hst : X.stepT { psZero with x := s1 } t = X.stepT psZero t := by
   unfold X.stepT
   rw [if_neg (by omega), if_neg (by omega), if_pos k1, if_neg (by omega), if_neg (by omega), if_pos k1, ← begin_flush { psZero with x := s1 }, f1 hsp]
  have hfold : l.foldl X.stepT psZero = (l.drop c1).foldl X.stepT psZero := by rw [hm1, hr, List.foldl_cons, List.foldl_cons, hst]
  cases hres : res.2.2 with
  | false =>
   refine wrong res r1 (by rw [if_pos hsp, hres]; rfl) (Or.inl ?_)
   rw [hfold]; exact r2.2 hres
  | true =>
   have hlt := (r3 hres).1
   obtain ⟨j, q, h1, h2, h3, h4, h5, h6, h7, h8, h9, h10, ⟨un, us, h11, h12⟩, h13⟩ := r2.1 hres
   rw [h1] at hlt
   have h6 : q.o = [] := h6
   refine fin res r1 ?_
   rw [if_pos hsp, hres, h1, ← h5, hfold, h4]
   obtain ⟨K5, hK5⟩ := texts_f l (by omega) j h3 (Nat.le_trans (tsize_drop l j) (by omega))
   have hm2 := texts_machine (l.drop j) q
   obtain ⟨hb1, hb2⟩ := texts_alt (l.drop j) nob h13
   have hle2 := textsL_le (l.drop j) nob
   have hz2 := hsz1 (l.drop j) nob
   have htd := tsize_drop l j
   rw [show (nob : ByteArray).size = 0 from rfl] at hz2
   rw [h7] at hm2
   rw [List.drop_drop] at hm2 hb1 hb2
   rw [List.length_drop] at hle2
   generalize (textsL (l.drop j) nob).1 = s2 at *
   generalize (textsL (l.drop j) nob).2 = c2 at *
   obtain ⟨K6, hK6⟩ := spaces_f s2 (by omega)
   obtain ⟨u1, u2, u3, u4⟩ := flush_out q h6 h7 h8 s2
   have hj0 : ∀ k, K5 + K6 ≤ k → R3_Parse.j0 (k + 1) l (zipN q) j (!true) = if spacesB s2 = true then (if ((j + c2 : Nat) : Int) < (l.length : Int) then some (([] : List ByteArray), ([] : List Nd), (15 : Int)) else ((R3_limited.f k (zipN q)).bind fun bt => some (bt.1, bt.2.1, bt.2.2))) else some (([] : List ByteArray), ([] : List Nd), (15 : Int)) := by
    intro k hk
    have a1 : R3_texts.f k l j = some (s2, ((j + c2 : Nat) : Int)) := hK5 k (by omega)
    have a2 : R3_spaces.f k s2 = some (spacesB s2) := hK6 k (by omega)
    rw [R3_Parse.j0, if_neg (by decide), a1, Option.bind_some, a2, Option.bind_some]
   have hnz : 0 < q.n.length := by
    have := (r3 hres).2
    rw [← h5, zipN_len h9] at this
    exact this
   have bad15 : Bad ((l.drop j).foldl X.stepT q) ∨ treeP (flushP ((l.drop j).foldl X.stepT q)) = (([], []), 15) → (spacesB s2 = false ∨ ((j + c2 : Nat) : Int) < (l.length : Int)) → Ev (fun k => R3_Parse.j0 k l (zipN q) j (!true)) ((treeP (flushP ((l.drop j).foldl X.stepT q))).1.1, (treeP (flushP ((l.drop j).foldl X.stepT q))).1.2, (treeP (flushP ((l.drop j).foldl X.stepT q))).2) := by
    intro hb hor
    have : treeP (flushP ((l.drop j).foldl X.stepT q)) = (([], []), 15) := hb.elim bad_tree id
    rw [this]
    refine ⟨K5 + K6 + 1, fun k hk => ?_⟩
    obtain ⟨k, rfl⟩ : ∃ m, k = m + 1 := ⟨k - 1, by omega⟩
    show R3_Parse.j0 (k + 1) l (zipN q) j (!true) = _
    rw [hj0 k (by omega)]
    rcases hor with h | h
    ·rw [if_neg (by rw [h]; decide)]
    ·by_cases c : spacesB s2 = true
     ·rw [if_pos c, if_pos h]
     ·rw [if_neg c]
   by_cases hs2 : spacesB s2 = true
   rotate_left
   ·have hs2' : spacesB s2 = false := by simpa using hs2
    refine bad15 ?_ (Or.inl hs2')
    cases hr2 : l.drop (j + c2) with
    | nil =>
     right
     rw [hm2, hr2]
     show treeP (flushP { q with x := s2 }) = _
     unfold treeP
     rw [if_pos (Or.inl (u2 hs2'))]
    | cons t2 r2' =>
     left
     rw [hm2, hr2]
     rcases hb2 t2 r2' hr2 with k1' | k5'
     ·exact out_begin _ t2 r2' k1' (Or.inl (u2 hs2'))
     ·exact out_end { q with x := s2 } h6 t2 r2' k5'
   cases hr2 : l.drop (j + c2) with
   | cons t2 r2' =>
    obtain ⟨-, e5, -⟩ := rd_tok l (j + c2) t2 r2' hr2
    refine bad15 (Or.inl ?_) (Or.inr e5)
    rw [hm2, hr2]
    rcases hb2 t2 r2' hr2 with k1' | k5'
    ·exact out_begin _ t2 r2' k1' (Or.inr ⟨u3, by rw [u4]; exact hnz⟩)
    ·exact out_end { q with x := s2 } h6 t2 r2' k5'
   | nil =>
    have hge : ¬ ((j + c2 : Nat) : Int) < (l.length : Int) := by
     rcases Nat.lt_or_ge (j + c2) l.length with h | h
     ·rw [List.drop_eq_getElem_cons h] at hr2; cases hr2
     ·omega
    have hq : flushP ((l.drop j).foldl X.stepT q) = q := by
     rw [hm2, hr2]
     exact u1 hs2
    have hDq : Dp q := by
     have := (Dp.run l dp_zero).flush
     rw [hfold, h4, hq] at this
     exact this
    rw [hq, ← lim_tree q hDq h8 h6 hnz]
    obtain ⟨K7, hK7⟩ := limited_f hDq (by omega)
    refine ⟨K5 + K6 + K7 + 1, fun k hk => ?_⟩
    obtain ⟨k, rfl⟩ : ∃ m, k = m + 1 := ⟨k - 1, by omega⟩
    show R3_Parse.j0 (k + 1) l (zipN q) j (!true) = _
    have a3 : R3_limited.f k (zipN q) = _ := hK7 k (by omega)
    rw [hj0 k (by omega), if_pos hs2, if_neg hge, a3]; rfl
theorem seg_tsize (L : List UInt8) : ∀ (r : List Tok) (a b : Int) (x y : Bool), Seg L a x r b y → Vals r → (tsize r : Int) ≤ 4 * (b - a)
 | [], a, b, x, y, h, _ => by obtain ⟨rfl, _⟩ := h; show ((0 : Nat) : Int) ≤ _; omega
 | t :: r, a, b, x, y, h, hv => by
  obtain ⟨h1, h2, h3, h4, h5, h6⟩ := h
  have := seg_tsize L r _ _ _ _ h6 fun u hu => hv u (List.mem_cons_of_mem _ hu)
  have ht := hv t (List.mem_cons_self ..)
  show (((if t.f0 = 6 then t.f4.size else 0) + tsize r : Nat) : Int) ≤ _
  by_cases c : t.f0 = 6
  ·have := ht c
   rw [if_pos c]; omega
  ·rw [if_neg c]; omega
theorem lexV_tsize (d : ByteArray) : (tsize (lexV d).1 : Int) ≤ 4 * d.size := by
 by_cases h : (lexV d).2 = 0
 ·have := seg_tsize _ _ _ _ _ _ (lexV_seg d h) (lexV_vals d); omega
 ·rw [lexV_bad d h]; show ((0 : Nat) : Int) ≤ _; omega
theorem lexV_len' (d : ByteArray) : (lexV d).1.length ≤ d.size := by
 by_cases h : (lexV d).2 = 0
 ·have := seg_len _ _ _ _ _ _ (lexV_seg d h); omega
 ·rw [lexV_bad d h]; exact Nat.zero_le _
theorem ref_parse_short (d : ByteArray) (h : d.size ≤ 2900) : Ev (fun k => R3_Parse.f k d) ((parseV d).1.1, (parseV d).1.2, (parseV d).2) :=
 ref_parse d (by have := lexV_len' d; omega) (by have := lexV_tsize d; omega)
theorem same_refl (A : List ByteArray) (N : List Nd) (hA : A.length ≤ 1000000) (hN : N.length ≤ 1000000) : Ev (fun k => R3_Same.f k A N A N) true := by
 have nodes : ∀ (d i : Nat), N.length - i = d → i ≤ N.length → Ev (fun k => R3_Same.l1 k i A N A N) true := by
  intro d
  induction d with
  | zero =>
   intro i hd hi
   have g1 : ¬ (i : Int) < (N.length : Int) := by omega
   refine ev_now 1 fun k => ?_
   show R3_Same.l1 (k + 1) i A N A N = _
   rw [R3_Same.l1, if_neg g1]
  | succ d ih =>
   intro i hd hi
   have g1 : (i : Int) < (N.length : Int) := by omega
   have g2 : (0 : Int) ≤ (i : Int) := by omega
   have hB : i ≤ 9000000000000000000 := by omega
   refine ev_up 1 (fun k => ?_) (ih (i + 1) (by omega) (by omega))
   show R3_Same.l1 (k + 1) i A N A N = _
   rw [R3_Same.l1, if_pos g1, if_pos g2, if_pos g1, if_neg (by simp), wr_up i hB]
 have names : ∀ (d i : Nat), A.length - i = d → i ≤ A.length → Ev (fun k => R3_Same.l0 k i A N A N) true := by
  intro d
  induction d with
  | zero =>
   intro i hd hi
   have g1 : ¬ (i : Int) < (A.length : Int) := by omega
   refine ev_up 1 (fun k => ?_) (nodes N.length 0 rfl (Nat.zero_le _))
   show R3_Same.l0 (k + 1) i A N A N = _
   rw [R3_Same.l0, if_neg g1]; rfl
  | succ d ih =>
   intro i hd hi
   have g1 : (i : Int) < (A.length : Int) := by omega
   have g2 : (0 : Int) ≤ (i : Int) := by omega
   have hB : i ≤ 9000000000000000000 := by omega
   refine ev_up 1 (fun k => ?_) (ih (i + 1) (by omega) (by omega))
   show R3_Same.l0 (k + 1) i A N A N = _
   rw [R3_Same.l0, if_pos g1, if_pos g2, if_pos g1, if_pos rfl, wr_up i hB]
 obtain ⟨K, hK⟩ := names A.length 0 rfl (Nat.zero_le _)
 refine ⟨K + 1, fun k hk => ?_⟩
 obtain ⟨k, rfl⟩ : ∃ j, k = j + 1 := ⟨k - 1, by omega⟩
 show R3_Same.f (k + 1) A N A N = _
 unfold R3_Same.f
 rw [if_pos rfl, bne_self_eq_false, R3_Same.j0, if_neg (by decide)]
 exact hK k (by omega)
theorem parse_lens (d : ByteArray) : (parseV d).1.1.length ≤ 1000 ∧ (parseV d).1.2.length ≤ 5000 := by
 by_cases h : (parseV d).2 = 0
 ·obtain ⟨p, e, hf, -, -, h1, h2, h3, -⟩ := parse_fit d h
  rw [h3]
  refine ⟨by rw [List.length_map]; exact h2, ?_⟩
  rw [show ((((sortedP (namesOf p)).map bytesL, treeN p), (0 : Int)) : (List ByteArray × List Nd) × Int).1.2 = treeN p from rfl, treeN_len p hf.len]; exact h1
 ·have : (parseV d).1 = ([], []) := by
   unfold parseV at h ⊢
   split
   ·rename_i hl
    rw [if_pos hl] at h
    unfold treeP at h ⊢
    split
    ·rfl
    ·rename_i c1
     rw [if_neg c1] at h
     split
     ·rfl
     ·rename_i c2; rw [if_neg c2] at h; exact absurd rfl h
   ·rfl
  rw [this]; exact ⟨Nat.zero_le _, Nat.zero_le _⟩
end Go.Proofs.YtlhhhlimjajnlaaGreat.R13
end
