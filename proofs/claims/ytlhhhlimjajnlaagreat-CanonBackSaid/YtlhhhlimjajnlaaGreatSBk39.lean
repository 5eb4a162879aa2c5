/- Parts of the proof of canonBack_holds, kept and merged by a program of mine (wip/tools/slim.py) out of my texts: P13b P13c P13d FitN Inc P14k -/
import Derived.Test.YtlhhhlimjajnlaaGreatSBk0
import Derived.Test.YtlhhhlimjajnlaaGreatSBk32
import Derived.Test.YtlhhhlimjajnlaaGreatSBk28
import Derived.Test.YtlhhhlimjajnlaaGreatSBk5
import Derived.Test.YtlhhhlimjajnlaaGreatSBk9
import Derived.Test.YtlhhhlimjajnlaaGreatSBk11
import Derived.Test.YtlhhhlimjajnlaaGreatSBk38
import Derived.Test.YtlhhhlimjajnlaaGreatSBk23
section
set_option linter.unusedVariables false
set_option linter.unusedSimpArgs false
namespace Go.Proofs.YtlhhhlimjajnlaaGreat.P13
open Go.RowKit Go.Proofs.YtlhhhlimjajnlaaGreat Go.Proofs.YtlhhhlimjajnlaaGreat.Q Go.Proofs.YtlhhhlimjajnlaaGreat.P11 Go.Proofs.YtlhhhlimjajnlaaGreat.P12 Go.Proofs.YtlhhhlimjajnlaaGreatW.PrintWords Go.Proofs.YtlhhhlimjajnlaaGreat.X
def treeN (p : PS) : List Nod := (p.n.zip p.s).map fun c => numbered (sortedP (namesOf p)) c.1 c.2
abbrev nz : Nod := ⟨0, 0, 0, ⟨#[]⟩⟩
theorem treeN_len (p : PS) (h : p.s.length = p.n.length) : (treeN p).length = p.n.length := by
 unfold treeN; rw [List.length_map, List.length_zip, h, Nat.min_self]
theorem treeN_at (p : PS) (h : p.s.length = p.n.length) (i : Nat) (hi : i < p.n.length) : (treeN p).getD i nz = numbered (sortedP (namesOf p)) (p.n.getD i nz) (p.s.getD i ⟨#[]⟩) := by
 unfold treeN
 simp only [List.getD_eq_getElem?_getD, List.getElem?_map]
 rw [List.getElem?_eq_getElem (show i < (p.n.zip p.s).length by rw [List.length_zip]; omega), List.getElem?_eq_getElem hi, List.getElem?_eq_getElem (show i < p.s.length by omega)]
 simp
theorem mem_names (p : PS) (h : p.s.length = p.n.length) (i : Nat) (hi : i < p.n.length) (h3 : ¬ (p.n.getD i nz).f0 = 3) : (p.s.getD i ⟨#[]⟩).data.toList ∈ namesOf p := by
 unfold namesOf
 rw [List.mem_filterMap]
 refine ⟨(p.n.getD i nz, p.s.getD i ⟨#[]⟩), ?_, by simp only; rw [if_neg h3]⟩
 rw [List.getD_eq_getElem?_getD, List.getD_eq_getElem?_getD, List.getElem?_eq_getElem hi, List.getElem?_eq_getElem (show i < p.s.length by omega)]
 show (p.n[i], p.s[i]) ∈ _
 have : (p.n.zip p.s)[i]'(by rw [List.length_zip]; omega) = (p.n[i], p.s[i]) := List.getElem_zip
 rw [← this]; exact List.getElem_mem _
theorem mem_sorted (l : List (List UInt8)) (x : List UInt8) : x ∈ sortedP l ↔ x ∈ l := by
 unfold sortedP; rw [List.mem_mergeSort, mem_onceP]
theorem bytesL_data (s : ByteArray) : bytesL s.data.toList = s := by unfold bytesL; apply ByteArray.ext; simp
theorem wr_flush {p : PS} (h : (flushP p).wr = false) : p.wr = false := by
 unfold flushP at h
 split at h
 ·exact h
 split at h
 ·simp only [Bool.or_eq_false_iff] at h; exact h.1
 ·exact h
theorem wr_end {p : PS} {name : ByteArray} (h : (endP p name).wr = false) : ¬ topP p.o < 0 ∧ (flushP p).wr = false ∧ ((flushP p).s.getD (topP p.o).toNat ⟨#[]⟩).data.toList = name.data.toList ∧ endP p name = { flushP p with o := p.o.dropLast } := by
 have ho : (flushP p).o = p.o := by unfold flushP; split; rfl; split <;> rfl
 unfold endP at h ⊢
 simp only at h ⊢
 rw [ho] at h ⊢
 by_cases c : topP p.o < 0 ∨ ¬ ((flushP p).s.getD (topP p.o).toNat ⟨#[]⟩).data.toList = name.data.toList
 ·rw [if_pos c] at h; exact absurd h (by simp)
 ·rw [if_neg c] at h ⊢
  exact ⟨fun e => c (Or.inl e), h, Classical.byContradiction fun e => c (Or.inr e), rfl⟩
theorem wr_begin {p : PS} {name : ByteArray} (h : (beginP p name).wr = false) : (flushP p).wr = false ∧ ¬ (topP p.o < 0 ∧ 0 < (flushP p).n.length) := by
 have ho : (flushP p).o = p.o := by unfold flushP; split; rfl; split <;> rfl
 have h : ((flushP p).wr || (decide (topP (flushP p).o < 0) && decide (0 < (flushP p).n.length))) = false := h
 rw [ho] at h
 simp only [Bool.or_eq_false_iff, Bool.and_eq_false_iff, decide_eq_false_iff_not] at h
 exact ⟨h.1, fun c => by rcases h.2 with h | h; exact h c.1; exact h c.2⟩
theorem wr_step {p : PS} {t : Tok} (h : (X.stepT p t).wr = false) : p.wr = false := by
 unfold X.stepT at h
 repeat' split at h
 ·exact h
 ·exact h
 ·exact wr_flush (wr_begin h).1
 ·unfold attrS putP at h; simp only [Bool.or_eq_false_iff] at h; exact h.1
 ·exact wr_flush (wr_end h).2.1
 ·exact wr_flush (wr_end h).2.1
 ·exact h
theorem wr_run : ∀ (l : List Tok) {p : PS}, (l.foldl X.stepT p).wr = false → p.wr = false
 | [], p, h => h
 | t :: l, p, h => wr_step (wr_run l h)
abbrev zzB : ByteArray := ⟨#[122, 122]⟩
abbrev noB : ByteArray := ⟨#[]⟩
abbrev rootN : Nod := ⟨1, 0, -1, noB⟩
def q0 : PS :=⟨[rootN], [zzB], [0], noB, false, false⟩
theorem flush_keeps (p : PS) : (flushP p).o = p.o ∧ (flushP p).x = noB ∧ (flushP p).dp = p.dp := by
 unfold flushP; split
 ·exact ⟨rfl, rfl, rfl⟩
 split
 ·exact ⟨rfl, rfl, rfl⟩
 ·exact ⟨rfl, rfl, rfl⟩
def Low (st : PS) : Prop := ∀ n, n ∈ st.n → -1 ≤ n.f2 ∧ n.f2 < (st.n.length : Int)
end Go.Proofs.YtlhhhlimjajnlaaGreat.P13
end
section
set_option linter.unusedVariables false
set_option linter.unusedSimpArgs false
namespace Go.Proofs.YtlhhhlimjajnlaaGreat.Ck
open Go.RowKit Go.Proofs.YtlhhhlimjajnlaaGreat Go.Proofs.YtlhhhlimjajnlaaGreat.Q Go.Proofs.YtlhhhlimjajnlaaGreat.P11 Go.Proofs.YtlhhhlimjajnlaaGreat.P12 Go.Proofs.YtlhhhlimjajnlaaGreatW.PrintWords Go.Proofs.YtlhhhlimjajnlaaGreat.X Go.Proofs.YtlhhhlimjajnlaaGreat.P13
theorem sorted_nodup (l : List (List UInt8)) : (sortedP l).Nodup := by
 unfold sortedP
 exact (List.mergeSort_perm (onceP l) _).nodup_iff.2 (nodup_onceP l)
theorem le_total_u8 (a b : List UInt8) : (decide (a ≤ b) || decide (b ≤ a)) = true := by
 rcases List.le_total a b with h | h
 ·simp [h]
 ·simp [h]
theorem sorted_le (l : List (List UInt8)) : (sortedP l).Pairwise fun a b => a ≤ b := by
 unfold sortedP
 have := List.pairwise_mergeSort (le := fun x y : List UInt8 => decide (x ≤ y)) (fun a b c h1 h2 => by
  simp only [decide_eq_true_eq] at h1 h2 ⊢
  exact List.le_trans h1 h2) (fun a b => le_total_u8 a b) (onceP l)
 exact this.imp fun h => by simpa using h
end Go.Proofs.YtlhhhlimjajnlaaGreat.Ck
end
section
set_option linter.unusedVariables false
set_option linter.unusedSimpArgs false
namespace Go.Proofs.YtlhhhlimjajnlaaGreat.R13
open Go.RowKit Go.Proofs.YtlhhhlimjajnlaaGreat Go.Proofs.YtlhhhlimjajnlaaGreat.Q Go.Proofs.YtlhhhlimjajnlaaGreat.P11 Go.Proofs.YtlhhhlimjajnlaaGreat.P12 Go.Proofs.YtlhhhlimjajnlaaGreatW.PrintWords Go.Proofs.YtlhhhlimjajnlaaGreat.X Go.Proofs.YtlhhhlimjajnlaaGreat.P13 Go.Proofs.YtlhhhlimjajnlaaGreat.Ck
def Inc (A : List ByteArray) : Prop := A.Pairwise fun a b => a.data.toList < b.data.toList
theorem u8_lt_irrefl (a : List UInt8) : ¬ a < a := List.lt_irrefl a
theorem inc_eq : ∀ {A B : List ByteArray}, Inc A → Inc B → (∀ x, x ∈ A ↔ x ∈ B) → A = B
 | [], [], _, _, _ => rfl
 | [], b :: B, _, _, h => absurd ((h b).2 (List.mem_cons_self ..)) (by simp)
 | a :: A, [], _, _, h => absurd ((h a).1 (List.mem_cons_self ..)) (by simp)
 | a :: A, b :: B, hA, hB, h => by
  obtain ⟨a1, a2⟩ := List.pairwise_cons.1 hA
  obtain ⟨b1, b2⟩ := List.pairwise_cons.1 hB
  have hab : a = b := by
   have m1 := (h a).1 (List.mem_cons_self ..)
   have m2 := (h b).2 (List.mem_cons_self ..)
   rcases List.mem_cons.1 m1 with e | m1
   ·exact e
   ·rcases List.mem_cons.1 m2 with e | m2
    ·exact e.symm
    ·exact absurd (List.lt_trans (b1 a m1) (a1 b m2)) (u8_lt_irrefl _)
  subst hab
  rw [inc_eq a2 b2 fun x => ?_]
  constructor
  ·intro hx
   rcases List.mem_cons.1 ((h x).1 (List.mem_cons_of_mem _ hx)) with e | m
   ·rw [e] at hx; exact absurd (a1 _ hx) (u8_lt_irrefl _)
   ·exact m
  ·intro hx
   rcases List.mem_cons.1 ((h x).2 (List.mem_cons_of_mem _ hx)) with e | m
   ·rw [e] at hx; exact absurd (b1 _ hx) (u8_lt_irrefl _)
   ·exact m
theorem inc_sorted (l : List (List UInt8)) : Inc ((sortedP l).map bytesL) := by
 unfold Inc
 rw [List.pairwise_map]
 have e3 : ∀ l : List UInt8, (bytesL l).data.toList = l := fun l => by unfold bytesL; simp
 have h1 := sorted_le l
 have h2 := sorted_nodup l
 refine (h1.and h2).imp fun {a b} h => ?_
 rw [e3, e3]
 exact Classical.byContradiction fun c => h.2 (List.le_antisymm h.1 (List.not_lt.1 c))
theorem data_inj {a b : ByteArray} (h : a.data.toList = b.data.toList) : a = b := by
 apply ByteArray.ext; apply Array.ext'; exact h
end Go.Proofs.YtlhhhlimjajnlaaGreat.R13
end
section
set_option linter.unusedVariables false
set_option linter.unusedSimpArgs false
namespace Go.Proofs.YtlhhhlimjajnlaaGreat.P14
open Go.RowKit Go.Proofs.YtlhhhlimjajnlaaGreat Go.Proofs.YtlhhhlimjajnlaaGreat.Q Go.Proofs.YtlhhhlimjajnlaaGreatW.PrintWords Go.Proofs.YtlhhhlimjajnlaaGreat.X Go.Proofs.YtlhhhlimjajnlaaGreat.Ck Go.Proofs.YtlhhhlimjajnlaaGreat.P11 Go.Proofs.YtlhhhlimjajnlaaGreat.P12 Go.Proofs.YtlhhhlimjajnlaaGreat.R13
abbrev Key := Int × List UInt8 × List UInt8
def stepK (p : PS) (k : Key) : PS := X.stepT p ⟨k.1, 0, 0, bytesL k.2.1, bytesL k.2.2⟩
theorem step_key (p : PS) (t : Tok) : X.stepT p t = stepK p (keyT t) := rfl
theorem fold_key : ∀ (l : List Tok) (p : PS), l.foldl X.stepT p = (l.map keyT).foldl stepK p
 | [], p => rfl
 | t :: l, p => by rw [List.foldl_cons, List.map_cons, List.foldl_cons, ← step_key]; exact fold_key l _
def Lk (b : List UInt8) (ks : List Key) : Prop := ∃ ts, lexO (bytesL b) = some ts ∧ ts.map keyT = ks
def NoText (ks : List Key) : Prop := ∀ k, ks.getLast? = some k → ¬ k.1 = 6
theorem bl_appK (a b : List UInt8) : bytesL a ++ bytesL b = bytesL (a ++ b) := by
 apply ByteArray.ext; apply Array.ext'; simp [bytesL]
theorem Lk.nil : Lk [] [] := ⟨[], rfl, rfl⟩
theorem Lk.app {a b : List UInt8} {k m : List Key} (ha : Lk a k) (hb : Lk b m) (h : (∃ r, b = 60 :: r) ∨ NoText k) : Lk (a ++ b) (k ++ m) := by
 obtain ⟨ta, ha, rfl⟩ := ha
 obtain ⟨tb, hb, rfl⟩ := hb
 have := lexO_app (bytesL a) (bytesL b) ta tb ha hb (by
  rcases h with h | h
  ·exact .inl h
  ·refine .inr fun t ht => ?_
   exact h (keyT t) (by rw [List.getLast?_map, ht]; rfl))
 rw [bl_appK] at this
 refine ⟨_, this, ?_⟩
 rw [List.map_append, List.map_map]
 rfl
theorem noText_app {k m : List Key} (hm : ¬ m = []) (h : NoText m) : NoText (k ++ m) := by
 intro x hx
 rw [List.getLast?_append] at hx
 cases e : m.getLast? with
 | none => exact absurd (List.getLast?_eq_none_iff.1 e) hm
 | some y => rw [e] at hx; exact h x (by rw [e]; exact hx)
def cv (x : Nod) : Nod := if x.f0 = 3 then x else { x with f1 := 0 }
def nmO (N : List ByteArray) (x : Nod) : ByteArray := if x.f0 = 3 then ⟨#[]⟩ else N.getD x.f1.toNat ⟨#[]⟩
def PSof (N : List ByteArray) (P : List Nod) (op : List Int) (x : ByteArray) : PS := ⟨P.map cv, P.map (nmO N), op, x, false, false⟩
structure OkT (N : List ByteArray) (P : List Nod) : Prop where
 k : ∀ x, x ∈ P → okNod N.length x = true
 n : ∀ x, x ∈ N → NmL x.data.toList
theorem okNod_kind {nn : Nat} {x : Nod} (h : okNod nn x = true) : (x.f0 = 1 ∧ x.f3.data.toList = [] ∧ 0 ≤ x.f1 ∧ x.f1 < nn) ∨ (x.f0 = 2 ∧ 0 ≤ x.f1 ∧ x.f1 < nn) ∨ (x.f0 = 3 ∧ x.f1 = -1 ∧ ¬ x.f3.data.toList = []) := by
 unfold okNod namedP at h
 rw [Bool.and_eq_true] at h
 have h := h.1
 split at h
 ·rename_i e
  simp only [Bool.and_eq_true, decide_eq_true_eq, Bool.not_eq_true', beq_eq_false_iff_ne, ne_eq] at h
  exact .inr (.inr ⟨e, h.1, h.2⟩)
 ·simp only [Bool.and_eq_true, Bool.or_eq_true, decide_eq_true_eq, beq_iff_eq] at h
  rcases h.2 with e | e
  ·exact .inr (.inl ⟨e, h.1⟩)
  ·exact .inl ⟨e.1, e.2, h.1⟩
theorem okNod_val {nn : Nat} {x : Nod} (h : okNod nn x = true) : validL x.f3.data.toList = true := by
 unfold okNod at h
 rw [Bool.and_eq_true] at h
 exact h.2
theorem flush_no' (N : List ByteArray) (P : List Nod) (op : List Int) : flushP (PSof N P op ⟨#[]⟩) = PSof N P op ⟨#[]⟩ := by
 unfold flushP; rw [if_pos (show (PSof N P op ⟨#[]⟩).x.data.toList = [] from rfl)]; rfl
theorem topP_last (r : List Int) (z : Int) : topP (r ++ [z]) = z := by unfold topP; rw [List.getLast?_concat]; rfl
theorem flush_tx {N : List ByteArray} {P : List Nod} {op : List Int} {x : Nod} (h0 : x.f0 = 3) (h1 : x.f1 = -1) (h2 : x.f2 = topP op) (h3 : ¬ x.f3.data.toList = []) (ht : 0 ≤ topP op) : flushP (PSof N P op x.f3) = PSof N (P ++ [x]) op ⟨#[]⟩ := by
 unfold flushP
 rw [if_neg (show ¬ (PSof N P op x.f3).x.data.toList = [] from h3), if_neg (show ¬ topP (PSof N P op x.f3).o < 0 from by show ¬ topP op < 0; omega)]
 unfold putP PSof
 simp only [List.map_append, List.map_cons, List.map_nil]
 have e1 : cv x = ⟨3, -1, topP op, x.f3⟩ := by unfold cv; rw [if_pos h0]; cases x; simp_all
 have e2 : nmO N x = ⟨#[]⟩ := by unfold nmO; rw [if_pos h0]
 rw [e1, e2]
structure Rd (N : List ByteArray) (P : List Nod) (out : List UInt8) (op : List Int) : Prop where
 ex : ∃ ks, Lk out ks ∧ flushP (ks.foldl stepK psZero) = PSof N P op ⟨#[]⟩ ∧ ((NoText ks ∧ ks.foldl stepK psZero = PSof N P op ⟨#[]⟩) ∨ ∃ P' x, P = P' ++ [x] ∧ x.f0 = 3 ∧ x.f2 = topP op) ∧ ks.length + op.length ≤ 3 * P.length
 v : validL out = true
structure Opn (N : List ByteArray) (P : List Nod) (out : List UInt8) (op : List Int) : Prop where
 ex : ∃ (base : List UInt8) (ks : List Key) (nm : List UInt8) (xs : List At), out = base ++ 60 :: (nm ++ xs.flatMap At.out) ∧ Lk base ks ∧ validL base = true ∧ NmL nm ∧ (∀ a, a ∈ xs → a.Ok ∧ validL a.w = true) ∧ (ks ++ (1, nm, []) :: xs.map fun a => ((2 : Int), a.n, a.v)).foldl stepK psZero = PSof N P op ⟨#[]⟩ ∧ ks.length + xs.length + 2 + op.length ≤ 3 * P.length
 tag : ∃ r z, op = r ++ [z] ∧ 0 ≤ z ∧ ∀ j : Nat, z < (j : Int) → j < P.length → (P.getD j nz).f0 = 2 ∧ (P.getD j nz).f2 = z
def Iv (N : List ByteArray) (P : List Nod) (s : WS) : Prop := if s.bg = true then Opn N P s.out s.op else Rd N P s.out s.op
theorem Iv.ready {N : List ByteArray} {P : List Nod} {s : WS} (h : Iv N P s) : Rd N P (readyW s).out s.op := by
 unfold Iv at h
 by_cases hb : s.bg = true
 ·rw [if_pos hb] at h
  obtain ⟨base, ks, nm, xs, e1, e2, e3, e4, e5, e6, e7⟩ := h.ex
  rw [ready_true hb]
  have et : s.out ++ [62] = base ++ tagOut nm xs [] false := by
   rw [e1]; unfold tagOut ends
   simp
  obtain ⟨ts, ht1, ht2⟩ := tag_lex (bytesL (tagOut nm xs [] false)) nm xs [] false rfl e4 (fun a ha => (e5 a ha).1) (fun c hc => by cases hc)
  have hk := e2.app (b := tagOut nm xs [] false) ⟨ts, ht1, ht2⟩ (.inl ⟨_, rfl⟩)
  have hfold : (ks ++ (1, nm, []) :: ((xs.map fun a => ((2 : Int), a.n, a.v)) ++ [endKey false])).foldl stepK psZero = PSof N P s.op ⟨#[]⟩ := by
   rw [show ks ++ (1, nm, []) :: ((xs.map fun a => ((2 : Int), a.n, a.v)) ++ [endKey false]) = (ks ++ (1, nm, []) :: (xs.map fun a => ((2 : Int), a.n, a.v))) ++ [endKey false] from by simp, List.foldl_append, e6]
   rfl
  rw [et]
  refine ⟨⟨_, hk, by rw [hfold]; exact flush_no' .., .inl ⟨?_, hfold⟩, by simp only [List.length_append, List.length_cons, List.length_map, List.length_nil]; omega⟩, by rw [valid_append _ _ e3]; exact tag_valid e4 e5 (fun c hc => by cases hc)⟩
  refine noText_app (by simp) fun x hx => ?_
  rw [show ((1 : Int), nm, ([] : List UInt8)) :: ((xs.map fun a => ((2 : Int), a.n, a.v)) ++ [endKey false]) = ((1, nm, []) :: (xs.map fun a => ((2 : Int), a.n, a.v))) ++ [endKey false] from by simp, List.getLast?_concat] at hx
  obtain rfl := Option.some.inj hx
  show ¬ (3 : Int) = 6
  omega
 ·rw [if_neg hb] at h
  rw [ready_false (by simpa using hb)]
  exact h
theorem Rd.pop {N : List ByteArray} {P : List Nod} {out : List UInt8} {pre : List Int} {z : Int} (h : Rd N P out (pre ++ [z])) (hz : 0 ≤ z) (hl : z.toNat < P.length) (h1 : (P.getD z.toNat nz).f0 = 1) (hn : NmL (nameW N P z)) :
 Rd N P (out ++ ([60, 47] ++ nameW N P z ++ [62])) pre := by
 obtain ⟨ks, e1, e2, -, e7⟩ := h.ex
 rw [List.length_append, List.length_singleton] at e7
 obtain ⟨t, ht1, ht2⟩ := close_lex (bytesL ([60, 47] ++ nameW N P z ++ [62])) (nameW N P z) rfl hn
 have hk := e1.app (b := [60, 47] ++ nameW N P z ++ [62]) (m := [keyT t]) ⟨[t], ht1, rfl⟩ (.inl ⟨_, rfl⟩)
 rw [ht2] at hk
 have hfold : (ks ++ [((5 : Int), nameW N P z, ([] : List UInt8))]).foldl stepK psZero = PSof N P pre ⟨#[]⟩ := by
  rw [List.foldl_append]
  show endP (ks.foldl stepK psZero) (bytesL (nameW N P z)) = _
  unfold endP
  simp only
  rw [e2]
  have hnz : (nmO N (P.getD z.toNat nz)).data.toList = nameW N P z := by unfold nmO nameW; rw [if_neg (by omega)]
  have hg : ((PSof N P (pre ++ [z]) ⟨#[]⟩).s.getD (topP (PSof N P (pre ++ [z]) ⟨#[]⟩).o).toNat ⟨#[]⟩) = nmO N (P.getD z.toNat nz) := by
   show (P.map (nmO N)).getD (topP (pre ++ [z])).toNat ⟨#[]⟩ = _
   rw [topP_last, List.getD_eq_getElem?_getD, List.getElem?_map, List.getElem?_eq_getElem hl, List.getD_eq_getElem?_getD, List.getElem?_eq_getElem hl]; rfl
  rw [hg, hnz]
  have ht : topP (PSof N P (pre ++ [z]) ⟨#[]⟩).o = z := topP_last pre z
  rw [ht, if_neg (by rintro (e | e); omega; exact e rfl)]
  unfold PSof
  simp
 refine ⟨⟨_, hk, by rw [hfold]; exact flush_no' .., .inl ⟨noText_app (by simp) fun x hx => ?_, hfold⟩, zz25⟩, ?_⟩
 ·obtain rfl := Option.some.inj hx
  show ¬ (5 : Int) = 6
  omega
 ·rw [valid_append _ _ h.v, List.append_assoc, valid_lows [60, 47] _ (fun c hc => by simp only [List.mem_cons, List.not_mem_nil, or_false] at hc; rcases hc with rfl | rfl <;> exact low_of (by decide)), valid_lows _ _ (low_nm hn)]
  decide
theorem nameW_nm {N : List ByteArray} {P : List Nod} (h : OkT N P) {z : Int} (hl : z.toNat < P.length) (h1 : ¬ (P.getD z.toNat nz).f0 = 3) : NmL (nameW N P z) := by
 have hm : P.getD z.toNat nz ∈ P := by rw [List.getD_eq_getElem?_getD, List.getElem?_eq_getElem hl]; exact List.getElem_mem hl
 have hk := okNod_kind (h.k _ hm)
 have hx : 0 ≤ (P.getD z.toNat nz).f1 ∧ (P.getD z.toNat nz).f1 < N.length := by
  rcases hk with k | k | k
  ·exact k.2.2
  ·exact k.2
  ·exact absurd k.1 h1
 refine h.n _ ?_
 show N.getD (P.getD z.toNat nz).f1.toNat ⟨#[]⟩ ∈ N
 rw [List.getD_eq_getElem?_getD, List.getElem?_eq_getElem (by omega)]
 exact List.getElem_mem _
section
variable {N : List ByteArray} {P R : List Nod} {op : List Int}
theorem pop_iv (hT : OkT N P) (h : Rw P op) {s : WS} {m : Nat} (hm : m < op.length) (hs : s.op = op.take (m + 1)) (hv : Iv N P s) : Rd N P (popW N (P ++ R) s).out (op.take m) := by
 have hr := hv.ready
 have hz := h.at (List.getElem?_eq_getElem hm)
 rw [hs, take_last hm] at hr
 have hl : s.op.getLastD 0 = op[m] := by rw [hs, take_last hm, List.getLastD_concat]
 have := hr.pop hz.1 hz.2.1 hz.2.2.1 (nameW_nm hT hz.2.1 (by omega))
 show Rd N P ((readyW s).out ++ ([60, 47] ++ nameW N (P ++ R) (s.op.getLastD 0) ++ [62])) _
 rw [hl, nameW_old hz.2.1]
 exact this
theorem iv_of_rd {s : WS} (hb : s.bg = false) (h : Rd N P s.out s.op) : Iv N P s := by unfold Iv; rw [if_neg (by rw [hb]; decide)]; exact h
theorem close_iv (hT : OkT N P) (h : Rw P op) {p : Int} : ∀ (k m : Nat) (s : WS), m ≤ op.length → s.op = op.take m → p ∈ s.op → m ≤ k → Iv N P s → Iv N P (closeW N (P ++ R) p k s)
 | 0, m, s, hm, hs, hp, hk, hv => hv
 | k + 1, m, s, hm, hs, hp, hk, hv => by
  unfold closeW
  split
  ·exact hv
  ·rename_i hc
   obtain ⟨q, rfl⟩ : ∃ q, m = q + 1 := ⟨m - 1, by
    have : 0 < m := by
     rcases Nat.eq_zero_or_pos m with e | e
     ·rw [hs, e] at hp; simp at hp
     ·exact e
    omega⟩
   have hl : s.op.getLastD 0 = op[q] := by rw [hs, take_last (by omega), List.getLastD_concat]
   have hop : (popW N (P ++ R) s).op = op.take q := by show s.op.dropLast = _; rw [hs, take_last (by omega), List.dropLast_concat]
   refine close_iv hT h k q _ (by omega) hop ?_ (by omega) (iv_of_rd rfl (by rw [hop]; exact pop_iv hT h (by omega) hs hv))
   rw [hop]
   rw [hs, take_last (by omega)] at hp
   rcases List.mem_append.1 hp with e | e
   ·exact e
   ·rw [List.mem_singleton] at e
    exact absurd (.inr (by rw [hl, e])) hc
theorem close_rd (hT : OkT N P) (h : Rw P op) : ∀ (k m : Nat) (s : WS), m ≤ op.length → s.op = op.take m → m ≤ k → 0 < m → Iv N P s → Rd N P (closeW N (P ++ R) (-1) k s).out []
 | 0, m, s, hm, hs, hk, h0, hv => by omega
 | k + 1, m, s, hm, hs, hk, h0, hv => by
  obtain ⟨q, rfl⟩ : ∃ q, m = q + 1 := ⟨m - 1, by omega⟩
  have hz := h.at (List.getElem?_eq_getElem (show q < op.length by omega))
  have hl : s.op.getLastD 0 = op[q] := by rw [hs, take_last (by omega), List.getLastD_concat]
  have hne : ¬ s.op = [] := fun e => by
   have := congrArg List.length e
   rw [hs, List.length_take, List.length_nil] at this; omega
  unfold closeW
  rw [if_neg (fun e => e.elim hne fun e => by rw [hl] at e; omega)]
  have hop : (popW N (P ++ R) s).op = op.take q := by show s.op.dropLast = _; rw [hs, take_last (by omega), List.dropLast_concat]
  have hrd := pop_iv (R := R) hT h (show q < op.length by omega) hs hv
  rcases Nat.eq_zero_or_pos q with e | e
  ·subst e
   have hcl : closeW N (P ++ R) (-1) k (popW N (P ++ R) s) = popW N (P ++ R) s := by
    cases k with
    | zero => rfl
    | succ k => unfold closeW; rw [if_pos (.inl hop)]
   rw [hcl]; exact hrd
  ·exact close_rd hT h k q _ (by omega) hop (by omega) e (iv_of_rd rfl (by rw [hop]; exact hrd))
end
theorem name_inj {N : List ByteArray} (hd : (N.map fun a => a.data.toList).Nodup) {a b : Int} (ha : 0 ≤ a ∧ a < N.length) (hb : 0 ≤ b ∧ b < N.length) (h : (N.getD a.toNat ⟨#[]⟩).data.toList = (N.getD b.toNat ⟨#[]⟩).data.toList) : a = b := by
 have e1 : N.getD a.toNat ⟨#[]⟩ = N[a.toNat]'(by omega) := by rw [List.getD_eq_getElem?_getD, List.getElem?_eq_getElem (by omega)]; rfl
 have e2 : N.getD b.toNat ⟨#[]⟩ = N[b.toNat]'(by omega) := by rw [List.getD_eq_getElem?_getD, List.getElem?_eq_getElem (by omega)]; rfl
 rw [e1, e2] at h
 have := (List.getElem_inj (h₀ := by rw [List.length_map]; omega) (h₁ := by rw [List.length_map]; omega) hd (i := a.toNat) (j := b.toNat)).1 (by rw [List.getElem_map, List.getElem_map]; exact h)
 omega
theorem Iv.step {N : List ByteArray} {P R : List Nod} {x : Nod} {s : WS} {o : List Int} (hT : OkT N (P ++ [x])) (hd : (N.map fun a => a.data.toList).Nodup) (h : WI N P s) (hv : Iv N P s) (hr : right (prK P) s.op x x.f1 = some o) : Iv N (P ++ [x]) (nodeW N (P ++ x :: R) P.length x s) := by
 have hTP : OkT N P := ⟨fun y hy => hT.k y (List.mem_append_left _ hy), hT.n⟩
 have hxk := hT.k x (by simp)
 have hkind := okNod_kind hxk
 have hro : Rw (P ++ [x]) o := ⟨by rw [prK_app, show prK [x] = [(x, x.f1)] from rfl, rows_snoc _ _ _ h.r.r]; exact hr⟩
 have elem : ∀ (c : WS), Rd N P (readyW c).out c.op → x.f0 = 1 → x.f2 = topP c.op → (P = [] ∨ 0 ≤ topP c.op) → c.op.length ≤ 64 → Iv N (P ++ [x]) ⟨(readyW c).out ++ ([60] ++ (N.getD x.f1.toNat ⟨#[]⟩).data.toList), c.op ++ [(P.length : Int)], true⟩ := by
  intro c hc k1 ht hp h64
  unfold Iv
  rw [if_pos rfl]
  have hk := hkind.resolve_right (by omega)
  have hnm : NmL (N.getD x.f1.toNat ⟨#[]⟩).data.toList := hT.n _ (by rw [List.getD_eq_getElem?_getD, List.getElem?_eq_getElem (by omega)]; exact List.getElem_mem _)
  obtain ⟨ks, e1, e2, -, e7⟩ := hc.ex
  refine ⟨⟨_, ks, _, [], by simp, e1, hc.v, hnm, (fun a ha => by cases ha), ?_, by simp only [List.length_append, List.length_cons, List.length_nil]; omega⟩, c.op, (P.length : Int), rfl, by omega, fun j h1 h2 => ?_⟩
  ·rw [List.foldl_append]
   show beginP (ks.foldl stepK psZero) (bytesL (N.getD x.f1.toNat ⟨#[]⟩).data.toList) = _
   unfold beginP
   simp only
   rw [e2]
   have hwr : (decide (topP (PSof N P c.op ⟨#[]⟩).o < 0) && decide (0 < (PSof N P c.op ⟨#[]⟩).n.length)) = false := by
    show (decide (topP c.op < 0) && decide (0 < (P.map cv).length)) = false
    rcases hp with e | e
    ·rw [e]; simp
    ·rw [decide_eq_false (by omega)]; rfl
   have hdp : decide ((64 : Int) < ((PSof N P c.op ⟨#[]⟩).o.length : Int)) = false := by
    show decide ((64 : Int) < (c.op.length : Int)) = false
    exact decide_eq_false (by omega)
   rw [hwr, hdp]
   unfold putP PSof
   simp only [List.map_append, List.map_cons, List.map_nil, Bool.or_false, List.length_map]
   have e3 : cv x = ⟨1, 0, topP c.op, ⟨#[]⟩⟩ := by
    unfold cv
    rw [if_neg (by omega), k1, ht]
    have : x.f3 = ⟨#[]⟩ := data_inj hk.2.1
    rw [this]
   have e4 : nmO N x = bytesL (N.getD x.f1.toNat ⟨#[]⟩).data.toList := by unfold nmO; rw [if_neg (by omega)]; rfl
   rw [e3, e4]
  ·rw [snoc_len] at h2; omega
 unfold nodeW
 simp only
 have hr' := hr
 unfold right at hr
 by_cases hP : prK P = []
 ·have hP0 : P = [] := prK_nil.1 hP
  rw [if_pos hP] at hr
  split at hr
  case isFalse => cases hr
  rename_i c
  have hop : s.op = [] := (rows_path _ _ _ rfl h.r.r).2.1 hP
  have hcl : closeW N (P ++ x :: R) x.f2 s.op.length s = s := by rw [hop]; rfl
  rw [hcl, if_neg (by omega), if_neg (by omega)]
  have hrd := hv.ready
  exact elem s hrd c.1 (by rw [c.2, hop]; rfl) (.inl hP0) (by rw [hop]; simp)
 ·rw [if_neg hP] at hr
  by_cases hm : x.f2 ∈ s.op
  case neg => rw [if_neg hm] at hr; cases hr
  rw [if_pos hm] at hr
  simp only at hr
  have hiv := close_iv (R := x :: R) hTP h.r s.op.length s.op.length s (Nat.le_refl _) (List.take_length).symm hm (Nat.le_refl _) hv
  obtain ⟨c1, c2, c3⟩ := close_go (R := x :: R) h.r s.op.length s.op.length s (Nat.le_refl _) (List.take_length).symm hm (Nat.le_refl _) h.out
  have hA : Add P s.op (s.op.take (s.op.idxOf x.f2 + 1)) x := ⟨h.r, rfl, hm⟩
  have hlast := hA.last
  have hlen := hA.len
  have hlt := List.idxOf_lt_length_of_mem hm
  have hgt : s.op[s.op.idxOf x.f2]? = some x.f2 := by rw [List.getElem?_eq_getElem hlt, List.getElem_idxOf]
  obtain ⟨p1, p2, p3, p4⟩ := h.r.at hgt
  have hbg : s.bg = true → more (prK P) (s.op.getLast?.getD 0) = false := fun e => by
   cases hg : s.op.getLast? with
   | none => rw [List.getLast?_eq_none_iff] at hg; rw [hg] at hm; cases hm
   | some z => have := h.bg z hg; rw [e] at this; show more (prK P) z = false; simpa using this.symm
  have hbg2 := h.bg
  generalize closeW N (P ++ x :: R) x.f2 s.op.length s = c at *
  rw [hlast] at c1
  have htop : topP c.op = x.f2 := by rw [c1, topP_last]
  by_cases k2 : x.f0 = 2
  ·rw [if_pos k2]
   rw [if_neg (by omega), if_pos k2] at hr
   split at hr
   ·cases hr
   rename_i hmt
   have hmore : more (prK P) x.f2 = false := by
    cases e : more (prK P) x.f2 with
    | false => rfl
    | true => exact absurd (.inl e) hmt
   have htw : twice (prK P) x.f2 x.f1 = false := by
    cases e : twice (prK P) x.f2 x.f1 with
    | false => rfl
    | true => exact absurd (.inr e) hmt
   obtain ⟨e, em⟩ : c = s ∧ s.op.length = s.op.idxOf x.f2 + 1 := by
    rcases c3 with c3 | ⟨-, c3⟩
    ·exact c3
    ·exfalso
     have hz : s.op[s.op.idxOf x.f2 + 1]? = some s.op[s.op.idxOf x.f2 + 1] := List.getElem?_eq_getElem c3
     obtain ⟨z1, z2, z3, z4⟩ := h.r.at hz
     rw [if_neg (by omega), Nat.add_sub_cancel, show s.op.getD (s.op.idxOf x.f2) 0 = x.f2 from by rw [List.getD_eq_getElem?_getD, hgt]; rfl] at z4
     have := more_not hmore z2 z4
     omega
   subst e
   have hb : c.bg = true := by
    have := hbg2 x.f2 (by rw [c1]; exact List.getLast?_concat ..)
    rw [this, hmore]; rfl
   unfold Iv at hiv ⊢
   rw [if_pos hb] at hiv
   show (if c.bg = true then _ else _)
   rw [if_pos hb]
   have hk : x.f0 = 2 ∧ 0 ≤ x.f1 ∧ x.f1 < N.length := by rcases hkind with k | k | k; omega; exact k; omega
   have hnm : NmL (N.getD x.f1.toNat ⟨#[]⟩).data.toList := hT.n _ (by rw [List.getD_eq_getElem?_getD, List.getElem?_eq_getElem (by omega)]; exact List.getElem_mem _)
   obtain ⟨base, ks, nm, xs, e1, e2, e3, e4, e5, e6, e7⟩ := hiv.ex
   obtain ⟨r, z, f1, f2, f3⟩ := hiv.tag
   have hzx : z = x.f2 := by rw [← htop, f1, topP_last]
   let a : At := ⟨[32], (N.getD x.f1.toNat ⟨#[]⟩).data.toList, [], [], 34, escL x.f3.data.toList, x.f3.data.toList⟩
   have ha : a.Ok := by
    refine ⟨⟨by simp [a], fun c hc => ?_⟩, hnm, fun c hc => (by cases hc), fun c hc => (by cases hc), .inl rfl, fun c hc => ⟨(esc_mem _ c hc).1, esc_no_less _ c hc⟩, dec_esc _⟩
    rw [List.mem_singleton] at hc
    subst hc; decide
   have hav : validL a.w = true := by show validL (escL x.f3.data.toList) = true; rw [valid_esc _ _ (Nat.le_refl _)]; exact okNod_val hxk
   refine ⟨⟨base, ks, nm, xs ++ [a], ?_, e2, e3, e4, fun b hb => ?_, ?_, by have e7 : ks.length + xs.length + 2 + c.op.length ≤ 3 * P.length := e7; show ks.length + (xs ++ [a]).length + 2 + c.op.length ≤ 3 * (P ++ [x]).length; simp only [List.length_append, List.length_cons, List.length_nil]; omega⟩, r, z, f1, f2, fun j j1 j2 => ?_⟩
   ·rw [e1]
    simp [a, At.out]
   ·rcases List.mem_append.1 hb with hb | hb
    ·exact e5 b hb
    ·rw [List.mem_singleton] at hb
     subst hb
     exact ⟨ha, hav⟩
   ·rw [List.map_append, show ks ++ (1, nm, []) :: ((xs.map fun a => ((2 : Int), a.n, a.v)) ++ [a].map fun a => ((2 : Int), a.n, a.v)) = (ks ++ (1, nm, []) :: (xs.map fun a => ((2 : Int), a.n, a.v))) ++ [((2 : Int), a.n, a.v)] from by simp, List.foldl_append, e6]
    show attrS (PSof N P c.op ⟨#[]⟩) (bytesL a.n) (bytesL a.v) = _
    unfold attrS
    have hany : ((PSof N P c.op ⟨#[]⟩).s.drop (topP (PSof N P c.op ⟨#[]⟩).o + 1).toNat).any (fun b => b.data.toList == (bytesL a.n).data.toList) = false := by
     rw [List.any_eq_false]
     intro b hb
     show ¬ (b.data.toList == (N.getD x.f1.toNat ⟨#[]⟩).data.toList) = true
     rw [beq_iff_eq]
     intro hbe
     obtain ⟨q, hq⟩ := List.mem_iff_getElem?.1 hb
     rw [List.getElem?_drop] at hq
     have hq : (P.map (nmO N))[(topP c.op + 1).toNat + q]? = some b := hq
     rw [List.getElem?_map, htop, Option.map_eq_some_iff] at hq
     obtain ⟨y, hy, rfl⟩ := hq
     have hjl := (List.getElem?_eq_some_iff.1 hy).1
     have hyD : P.getD ((x.f2 + 1).toNat + q) nz = y := by rw [List.getD_eq_getElem?_getD, hy]; rfl
     obtain ⟨g1, g2⟩ := f3 _ (by rw [hzx]; omega) hjl
     rw [hyD] at g1 g2
     have hyk := okNod_kind (hTP.k y (List.mem_of_getElem? hy))
     have hyi : 0 ≤ y.f1 ∧ y.f1 < N.length := by rcases hyk with k | k | k; omega; exact k.2; omega
     unfold nmO at hbe
     rw [if_neg (by omega)] at hbe
     have := name_inj hd hyi hk.2 hbe
     have htt : twice (prK P) x.f2 x.f1 = true := by
      unfold twice
      rw [List.any_eq_true]
      refine ⟨(y, y.f1), ?_, by rw [Bool.and_eq_true, decide_eq_true_eq, decide_eq_true_eq]; exact ⟨g1, this⟩⟩
      unfold kids
      rw [List.mem_filter]
      refine ⟨List.mem_of_getElem? (by have := prK_get P _ hjl; rw [hyD] at this; exact this), by simpa [hzx] using g2⟩
     rw [htw] at htt; cases htt
    rw [hany]
    unfold putP PSof
    simp only [List.map_append, List.map_cons, List.map_nil, Bool.or_false]
    have g3 : cv x = ⟨2, 0, topP c.op, bytesL a.v⟩ := by
     unfold cv
     rw [if_neg (by omega), k2, htop]; rfl
    have g4 : nmO N x = bytesL a.n := by unfold nmO; rw [if_neg (by omega)]; rfl
    rw [g3, g4]
   ·rw [snoc_len] at j2
    by_cases hj : j < P.length
    ·rw [getD_old hj]; exact f3 j j1 hj
    ·obtain rfl : j = P.length := by omega
     rw [getD_new]; exact ⟨k2, hzx.symm⟩
  ·rw [if_neg k2]
   have hrd := hiv.ready
   by_cases k3 : x.f0 = 3
   ·rw [if_pos k3]
    rw [if_neg (by omega), if_neg k2] at hr
    split at hr
    ·cases hr
    rename_i htl
    have hk : x.f0 = 3 ∧ x.f1 = -1 ∧ ¬ x.f3.data.toList = [] := by rcases hkind with k | k | k; omega; omega; exact k
    unfold Iv
    rw [if_neg (by show ¬ false = true; decide)]
    show Rd N (P ++ [x]) ((readyW c).out ++ escL x.f3.data.toList) c.op
    obtain ⟨ks, e1, e2, e3, e7⟩ := hrd.ex
    obtain ⟨g1, g2⟩ : NoText ks ∧ ks.foldl stepK psZero = PSof N P c.op ⟨#[]⟩ := by
     rcases e3 with e3 | ⟨P', y, hPy, y1, y2⟩
     ·exact e3
     ·exfalso
      apply htl
      unfold textLast
      rw [hPy, prK_app, show prK [y] = [(y, y.f1)] from rfl, kids_snoc, if_pos (by show y.f2 = x.f2; rw [y2, htop]), List.getLast?_concat]
      exact decide_eq_true y1
    have hval : validL (escL x.f3.data.toList) = true := by rw [valid_esc _ _ (Nat.le_refl _)]; exact okNod_val hxk
    have hkl : Lk (escL x.f3.data.toList) [((6 : Int), ([] : List UInt8), x.f3.data.toList)] := by
     have hsz : 0 < (bytesL (escL x.f3.data.toList)).size := by
      rcases Nat.eq_zero_or_pos (bytesL (escL x.f3.data.toList)).size with e | e
      ·exfalso
       have he : escL x.f3.data.toList = [] := List.eq_nil_of_length_eq_zero (by rw [Lib.size_eq] at e; exact e)
       have := dec_esc x.f3.data.toList
       rw [he, dec_nil] at this
       exact hk.2.2 (Option.some.inj this).symm
      ·exact e
     obtain ⟨d, hd'⟩ : ∃ d, bytesL (escL x.f3.data.toList) = d := ⟨_, rfl⟩
     have hdl : d.data.toList = escL x.f3.data.toList := by rw [← hd']; rfl
     have hst := esc_step x.f3 d hdl (by rw [← hd']; exact hsz)
     refine ⟨[⟨6, 0, d.size, ⟨#[]⟩, x.f3⟩], ?_, rfl⟩
     rw [hd']
     exact lexO_one d _ hst (by rw [← hd']; exact hsz)
    refine ⟨⟨ks ++ [((6 : Int), ([] : List UInt8), x.f3.data.toList)], e1.app hkl (.inr g1), ?_, .inr ⟨P, x, rfl, k3, htop.symm⟩, by have e7 : ks.length + c.op.length ≤ 3 * P.length := e7; simp only [List.length_append, List.length_cons, List.length_nil]; omega⟩, by rw [valid_append _ _ hrd.v]; exact hval⟩
    rw [List.foldl_append, g2]
    show flushP { PSof N P c.op ⟨#[]⟩ with x := (⟨#[]⟩ : ByteArray) ++ bytesL x.f3.data.toList } = _
    rw [show (⟨#[]⟩ : ByteArray) ++ bytesL x.f3.data.toList = x.f3 from bl_appK [] _]
    exact flush_tx k3 hk.2.1 htop.symm hk.2.2 (by show 0 ≤ topP c.op; rw [htop]; exact p1)
   ·have k1 : x.f0 = 1 := by rcases hkind with k | k | k <;> omega
    rw [if_neg k3]
    rw [if_pos k1] at hr
    split at hr
    ·cases hr
    rename_i h64
    rw [hlen] at h64
    have hcl : c.op.length = s.op.idxOf x.f2 + 1 := by rw [c1, ← hlast, hlen]
    exact elem c hrd k1 htop.symm (.inr (by rw [htop]; exact p1)) (by omega)
theorem nodes_iv {N : List ByteArray} (hd : (N.map fun a => a.data.toList).Nodup) : ∀ (R P : List Nod) (s : WS) (op : List Int), OkT N (P ++ R) → WI N P s → Iv N P s → rows (prK (P ++ R)) = some op → WI N (P ++ R) (nodesW N (P ++ R) R P.length s) ∧ Iv N (P ++ R) (nodesW N (P ++ R) R P.length s)
 | [], P, s, op, _, h, hv, _ => by rw [List.append_nil]; exact ⟨h, hv⟩
 | x :: R, P, s, op, hT, h, hv, hr => by
  rw [prK_app] at hr
  obtain ⟨o, o', h1, h2, h3⟩ := rows_at (prK P) (prK R) (x, x.f1) op hr
  rw [h.r.r] at h1
  obtain rfl := Option.some.inj h1
  have hTx : OkT N (P ++ [x]) := ⟨fun y hy => hT.k y (by
   rcases List.mem_append.1 hy with hy | hy
   ·exact List.mem_append_left _ hy
   ·exact List.mem_append_right _ (by rw [List.mem_singleton.1 hy]; exact List.mem_cons_self ..)), hT.n⟩
  have hxk : x.f0 = 1 ∨ x.f0 = 2 ∨ x.f0 = 3 := by
   have := okNod_kind (hTx.k x (by simp))
   rcases this with k | k | k
   ·exact .inl k.1
   ·exact .inr (.inl k.1)
   ·exact .inr (.inr k.1)
  have hs := h.step (R := R) hxk h2
  have hvs := Iv.step (R := R) hTx hd h hv h2
  have ih := nodes_iv hd R (P ++ [x]) _ op (by simpa using hT) hs hvs (by rw [← hr, ← prK_app]; simp)
  rw [snoc_len, List.append_assoc] at ih
  exact ih
theorem names_inc {N : List ByteArray} {D : List Nod} (h : namesC N D = true) : Inc N ∧ (∀ x, x ∈ N → NmL x.data.toList) ∧ ∀ k, k < N.length → ∃ y, y ∈ D ∧ y.f1 = (k : Int) := by
 unfold namesC at h
 rw [List.all_eq_true] at h
 have hk : ∀ k, k < N.length → (∃ y, y ∈ D ∧ y.f1 = (k : Int)) ∧ NmL (N.getD k ⟨#[]⟩).data.toList ∧ (k = 0 ∨ (N.getD (k - 1) ⟨#[]⟩).data.toList < (N.getD k ⟨#[]⟩).data.toList) := by
  intro k hk
  have := h k (List.mem_range.2 hk)
  rw [Bool.and_eq_true, Bool.and_eq_true, Bool.and_eq_true, Bool.or_eq_true, List.any_eq_true, decide_eq_true_eq, decide_eq_true_eq, beq_iff_eq] at this
  obtain ⟨⟨y, y1, y2⟩, ⟨n1, n2⟩, r⟩ := this
  refine ⟨⟨y, y1, of_decide_eq_true y2⟩, ⟨?_, ?_⟩, r⟩
  ·cases hl : (N.getD k ⟨#[]⟩).data.toList with
   | nil => rw [hl] at n1; simp at n1
   | cons a t => simp
  ·unfold nameEndP at n2
   rw [Lib.size_eq] at n2
   have hpos : 0 < (N.getD k ⟨#[]⟩).data.toList.length := by
    cases hl : (N.getD k ⟨#[]⟩).data.toList with
    | nil => rw [hl] at n1; simp at n1
    | cons a t => simp
   rw [if_pos ⟨by omega, by omega⟩] at n2
   have n2 : (0 : Int) + (nameLen ((N.getD k ⟨#[]⟩).data.toList.drop 0) : Int) = _ := n2
   rw [List.drop_zero] at n2
   omega
 have hg : ∀ k (hk : k < N.length), N.getD k ⟨#[]⟩ = N[k] := fun k hk => by rw [List.getD_eq_getElem?_getD, List.getElem?_eq_getElem hk]; rfl
 have hlt : ∀ (d i : Nat) (hi : i + d + 1 < N.length), (N[i]'(by omega)).data.toList < (N[i + d + 1]).data.toList := by
  intro d
  induction d with
  | zero =>
   intro i hi
   have := ((hk (i + 1) hi).2.2).resolve_left (by omega)
   rw [Nat.add_sub_cancel, hg i (by omega), hg (i + 1) hi] at this
   exact this
  | succ d ih =>
   intro i hi
   have h1 := ih i (by omega)
   have h2 := ((hk (i + (d + 1) + 1) hi).2.2).resolve_left (by omega)
   rw [hg _ hi, show i + (d + 1) + 1 - 1 = i + d + 1 from by omega, hg _ (by omega)] at h2
   exact List.lt_trans h1 h2
 refine ⟨?_, fun x hx => ?_, fun k hk' => (hk k hk').1⟩
 ·unfold Inc
  rw [List.pairwise_iff_getElem]
  intro i j hi hj hij
  have := hlt (j - i - 1) i (by omega)
  have e : i + (j - i - 1) + 1 = j := by omega
  simp only [e] at this
  exact this
 ·obtain ⟨k, hkl, rfl⟩ := List.mem_iff_getElem.1 hx
  have := (hk k hkl).2.1
  rw [hg k hkl] at this
  exact this
theorem inc_nodupL {N : List ByteArray} (h : Inc N) : (N.map fun a => a.data.toList).Nodup := by
 unfold List.Nodup
 rw [List.pairwise_map]
 exact h.imp fun hlt e => by rw [e] at hlt; exact u8_lt_irrefl _ hlt
theorem tree_back {N : List ByteArray} {D : List Nod} (hT : OkT N D) (hI : Inc N) (hu : ∀ k, k < N.length → ∃ y, y ∈ D ∧ y.f1 = (k : Int)) (h0 : 0 < D.length) (h1 : D.length ≤ 5000) (h2 : N.length ≤ 1000) : treeP (PSof N D [] ⟨#[]⟩) = ((N, D), 0) := by
 have hkin : ∀ y, y ∈ D → ¬ y.f0 = 3 → 0 ≤ y.f1 ∧ y.f1 < N.length := fun y hy h3 => by
  rcases okNod_kind (hT.k y hy) with k | k | k
  ·exact k.2.2
  ·exact k.2
  ·exact absurd k.1 h3
 have hzip : (PSof N D [] ⟨#[]⟩).n.zip (PSof N D [] ⟨#[]⟩).s = D.map fun y => (cv y, nmO N y) := by
  show (D.map cv).zip (D.map (nmO N)) = _
  rw [List.zip_map']
 have hcv : ∀ y : Nod, (cv y).f0 = y.f0 := fun y => by unfold cv; split <;> rfl
 have hmem : ∀ x, x ∈ namesOf (PSof N D [] ⟨#[]⟩) ↔ ∃ y, y ∈ D ∧ ¬ y.f0 = 3 ∧ (nmO N y).data.toList = x := by
  intro x
  unfold namesOf
  rw [hzip, List.mem_filterMap]
  constructor
  ·rintro ⟨c, hc, e⟩
   obtain ⟨y, hy, rfl⟩ := List.mem_map.1 hc
   simp only [hcv] at e
   split at e
   ·cases e
   ·rename_i h3; exact ⟨y, hy, h3, Option.some.inj e⟩
  ·rintro ⟨y, hy, h3, e⟩
   refine ⟨_, List.mem_map.2 ⟨y, hy, rfl⟩, ?_⟩
   simp only [hcv]
   rw [if_neg h3, e]
 have hS : (sortedP (namesOf (PSof N D [] ⟨#[]⟩))).map bytesL = N := by
  refine inc_eq (inc_sorted _) hI fun b => ?_
  rw [List.mem_map]
  constructor
  ·rintro ⟨x, hx, rfl⟩
   rw [Go.Proofs.YtlhhhlimjajnlaaGreat.P13.mem_sorted, hmem] at hx
   obtain ⟨y, hy, h3, e⟩ := hx
   obtain ⟨k1, k2⟩ := hkin y hy h3
   have : bytesL x = nmO N y := by rw [← e]; rfl
   rw [this]
   unfold nmO
   rw [if_neg h3, List.getD_eq_getElem?_getD, List.getElem?_eq_getElem (by omega)]
   exact List.getElem_mem _
  ·intro hb
   obtain ⟨k, hk, rfl⟩ := List.mem_iff_getElem.1 hb
   obtain ⟨y, hy, e⟩ := hu k hk
   have h3 : ¬ y.f0 = 3 := fun h3 => by
    rcases okNod_kind (hT.k y hy) with q | q | q <;> omega
   refine ⟨N[k].data.toList, ?_, rfl⟩
   rw [Go.Proofs.YtlhhhlimjajnlaaGreat.P13.mem_sorted, hmem]
   refine ⟨y, hy, h3, ?_⟩
   unfold nmO
   rw [if_neg h3, e, Int.toNat_natCast, List.getD_eq_getElem?_getD, List.getElem?_eq_getElem hk]; rfl
 have hL : sortedP (namesOf (PSof N D [] ⟨#[]⟩)) = N.map fun a => a.data.toList := by
  have := congrArg (List.map fun a : ByteArray => a.data.toList) hS
  rw [List.map_map] at this
  rw [← this]
  have e : ((fun a : ByteArray => a.data.toList) ∘ bytesL) = id := by funext l; simp [bytesL]
  rw [e, List.map_id]
 unfold treeP
 rw [if_neg (by
  show ¬ (false = true ∨ 0 < ([] : List Int).length ∨ (D.map cv).length = 0)
  rw [List.length_map]
  rintro (e | e | e)
  ·cases e
  ·exact absurd e (by decide)
  ·omega), if_neg (by
  show ¬ (false = true ∨ 5000 < (D.map cv).length ∨ 1000 < (sortedP (namesOf (PSof N D [] ⟨#[]⟩))).length)
  rw [List.length_map, hL, List.length_map]
  rintro (e | e | e)
  ·cases e
  ·omega
  ·omega), hS, hzip, hL, List.map_map]
 have hD : D.map ((fun c => numbered (N.map fun a => a.data.toList) c.1 c.2) ∘ fun y => (cv y, nmO N y)) = D := by
  have : ∀ y, y ∈ D → ((fun c : Nod × ByteArray => numbered (N.map fun a => a.data.toList) c.1 c.2) ∘ fun y => (cv y, nmO N y)) y = y := by
   intro y hy
   show numbered (N.map fun a => a.data.toList) (cv y) (nmO N y) = y
   unfold numbered
   rw [hcv]
   by_cases h3 : y.f0 = 3
   ·rw [if_pos h3]; unfold cv; rw [if_pos h3]
   ·rw [if_neg h3]
    obtain ⟨k1, k2⟩ := hkin y hy h3
    have hi : (N.map fun a => a.data.toList).idxOf (nmO N y).data.toList = y.f1.toNat := by
     have hlt : y.f1.toNat < (N.map fun a => a.data.toList).length := by rw [List.length_map]; omega
     have he : (nmO N y).data.toList = (N.map fun a => a.data.toList)[y.f1.toNat] := by
      unfold nmO
      rw [if_neg h3, List.getElem_map, List.getD_eq_getElem?_getD, List.getElem?_eq_getElem (by omega)]; rfl
     rw [he]
     have hm := List.idxOf_lt_length_of_mem (List.getElem_mem hlt)
     exact (List.getElem_inj (h₀ := hm) (h₁ := hlt) (inc_nodupL hI)).1 (List.getElem_idxOf hm)
    unfold cv
    rw [if_neg h3, hi]
    cases y
    simp only at k1
    simp [Int.toNat_of_nonneg k1]
  exact (List.map_congr_left this).trans (List.map_id _)
 rw [hD]
theorem parse_write {N : List ByteArray} {D : List Nod} (c : checkV N D = 0) (hlen : (endW N D).out.length ≤ 65536) : parseV (bytesL (endW N D).out) = ((N, D), 0) ∧ (lexV (bytesL (endW N D).out)).1.length ≤ 3 * D.length := by
 have hc := c
 unfold checkV at hc
 split at hc
 ·cases hc
 rename_i hsz
 split at hc
 ·cases hc
 rename_i hnn
 have hnm : namesC N D = true := by
  cases e : namesC N D with
  | true => rfl
  | false => rw [e] at hc; cases hc
 have hsome : (nodesC N.length D 0 (zeroC D.length)).isSome = true := by
  cases e : nodesC N.length D 0 (zeroC D.length) with
  | none => rw [e] at hnn; exact absurd rfl hnn
  | some s => rfl
 have hnr := nodes_rows N.length D
 rw [hsome, eq_comm, Bool.and_eq_true, List.all_eq_true] at hnr
 obtain ⟨op, hop⟩ := Option.isSome_iff_exists.1 hnr.2
 obtain ⟨hI, hNm, hu⟩ := names_inc hnm
 have hT : OkT N D := ⟨hnr.1, hNm⟩
 have h0 : Iv N [] ⟨[], [], false⟩ := iv_of_rd rfl ⟨⟨[], Lk.nil, rfl, .inl ⟨(fun k hk => by cases hk), rfl⟩, by simp⟩, rfl⟩
 obtain ⟨h1, h2⟩ := nodes_iv (inc_nodupL hI) D [] ⟨[], [], false⟩ op hT (WI.zero N) h0 hop
 rw [List.nil_append] at h1 h2
 have h1 : WI N D (nodesW N D D 0 ⟨[], [], false⟩) := h1
 have h2 : Iv N D (nodesW N D D 0 ⟨[], [], false⟩) := h2
 have hne : 0 < (nodesW N D D 0 ⟨[], [], false⟩).op.length := by
  rcases Nat.eq_zero_or_pos (nodesW N D D 0 ⟨[], [], false⟩).op.length with e | e
  ·have := (rows_path _ _ _ rfl h1.r.r).2.2 (List.eq_nil_of_length_eq_zero e)
   have := congrArg List.length (prK_nil.1 this)
   rw [List.length_nil] at this; omega
  ·exact e
 have hrd := close_rd (R := []) hT h1.r (nodesW N D D 0 ⟨[], [], false⟩).op.length (nodesW N D D 0 ⟨[], [], false⟩).op.length _ (Nat.le_refl _) (List.take_length).symm (Nat.le_refl _) hne h2
 rw [List.append_nil] at hrd
 have hrd : Rd N D (endW N D).out [] := hrd
 obtain ⟨ks, ⟨ts, ht, hk⟩, e2, -, e7⟩ := hrd.ex
 have hlex : lexV (bytesL (endW N D).out) = (ts, 0) := by
  unfold lexV
  rw [if_neg (by rw [Lib.size_eq]; show ¬ (65536 : Int) < ((endW N D).out.length : Int); omega), show (bytesL (endW N D).out).data.toList = (endW N D).out from rfl, hrd.v, if_neg (by decide), ht]
 refine ⟨?_, by rw [hlex]; show ts.length ≤ _; rw [← hk, List.length_map] at e7; simpa using e7⟩
 unfold parseV
 rw [hlex, if_pos rfl]
 show treeP (flushP (ts.foldl X.stepT psZero)) = _
 rw [fold_key, hk, e2]
 exact tree_back hT hI hu (by omega) (by omega) (by omega)
end Go.Proofs.YtlhhhlimjajnlaaGreat.P14
end
