/- Parts of the proof of canonParsed_holds, kept and merged by a program of mine (wip/tools/slim.py) out of my texts: TgW PcW LxW -/
import Derived.Test.YtlhhhlimjajnlaaGreatSPd0
import Derived.Test.YtlhhhlimjajnlaaGreatSPd35
import Derived.Test.YtlhhhlimjajnlaaGreatSPd20
section
set_option linter.unusedVariables false
set_option linter.unusedSimpArgs false
namespace Go.Proofs.YtlhhhlimjajnlaaGreat.P12
open Go Go.RowKit Go.Proofs.YtlhhhlimjajnlaaGreat Go.Proofs.YtlhhhlimjajnlaaGreat.Q Go.Proofs.YtlhhhlimjajnlaaGreatW.PrintWords Go.Proofs.YtlhhhlimjajnlaaGreatW.PrintLast Go.Proofs.YtlhhhlimjajnlaaGreatW.PrintMore Go.Proofs.YtlhhhlimjajnlaaGreat.X Go.Proofs.YtlhhhlimjajnlaaGreat.P11
attribute [local go_sem] max2_int min2_int max_two min_two   
theorem lit_R {base : Nat} {W : World} (hb : base ≤ W.heap.size) (x : Tok) : Kd.R k51 51 (W.alloc (.cells #[.int .i64 x.f0, .int .i64 x.f1, .int .i64 x.f2, .string x.f3, .string x.f4] 51)) base (fun _ => True) (.slice (some ⟨W.heap.size, 0, none⟩) 1 1) [x] := by
 refine ⟨fun k hk => trivial, [.int .i64 x.f0, .int .i64 x.f1, .int .i64 x.f2, .string x.f3, .string x.f4], ?_, ?_⟩
 ·have h2 := World.ownsRow_lit (base := base) (e := 51) (size := 5) W #[.int .i64 x.f0, .int .i64 x.f1, .int .i64 x.f2, .string x.f3, .string x.f4] 1 hb (by decide) rfl
  exact h2
 ·exact Reps.c5 (show Kd.M k51 _ _ _ x [.int .i64 x.f0, .int .i64 x.f1, .int .i64 x.f2, .string x.f3, .string x.f4] from k51_mkM _ _ _ x) (Reps.none _ _)
section
variable {ops : Array Oper} {rest : List Oper} {o : Oper} {a : Act} {Q : Exit → Act → World → Prop} {w0 W W2 : World} {v : Value}
theorem app_t {xs : List Tok} (x : Tok) (s y : Operand) (hgd : o.guard = none) (ho : o.op = .call { callee := .builtin .append, args := #[s, y], argTypes := #[43, 43] }) (hs : a.eval s = v)
 (hW : W2 = W.alloc (.cells #[.int .i64 x.f0, .int .i64 x.f1, .int .i64 x.f2, .string x.f3, .string x.f4] 51)) (HO : Kd.R k51 51 W w0.heap.size (fun _ => True) v xs) (HB : Below w0.heap.size w0 W) (hl : xs.length ≤ 1000000)
 (h : ∀ v1 w1, Kd.R k51 51 w1 w0.heap.size (fun _ => True) v1 (xs ++ [x]) → Below w0.heap.size w0 w1 → wpList Tryz.prog ops Q rest (a.put o.dst v1) w1) (hy : a.eval y = .slice (some ⟨W.heap.size, 0, none⟩) 1 1 := by first | rfl | exact congrArg (fun n => Value.slice (some ⟨n, 0, none⟩) 1 1) (by simp)) : wpList Tryz.prog ops Q (o :: rest) a W2 := by
 subst hW
 exact Kd.R_append k51 (w0 := w0) w0.heap.size hgd s y 43 51 (.agg #[.int .i64 0, .int .i64 0, .int .i64 0, .string ⟨#[]⟩, .string ⟨#[]⟩]) 56 ho Tryz.underlying43 info51 rfl (by decide) (by omega) v xs x [.int .i64 x.f0, .int .i64 x.f1, .int .i64 x.f2, .string x.f3, .string x.f4] (fun _ => True) (fun _ => False) hs hy (k51_mkM _ _ _ x) (fun _ hk => hk.elim) (fun _ _ => trivial) HO HB HB.size (by omega) fun v1 w1 h1 h2 h3 _ => h v1 w1 h1 h2
end
def lenV : Value → Nat
 | .slice _ n _ => n
 | _ => 0
def TP (p : Option (List Tok × Int)) (w : World) (e : Ending) (w' : World) : Prop := ∃ (r : List Tok × Bool) (v : Value), e = .returned (.tuple #[v, .bool r.2]) ∧ Kd.R k51 51 w' w.heap.size (fun _ => True) v r.1 ∧ PieceSame r p ∧ Below w.heap.size w w'
theorem TP.no {w w' : World} {p : Option (List Tok × Int)} (h : none = p) (hb : Below w.heap.size w w') : TP p w (.returned (.tuple #[.slice none 0 0, .bool false])) w' := by
 subst h
 exact ⟨([], false), _, rfl, Kd.R_nil _ _ _ _ _, rfl, hb⟩
theorem TP.yes {w w' : World} {v : Value} {p : Option (List Tok × Int)} {l : List Tok} {t : Tok} (h : some (l ++ [t], t.f2) = p) (hR : Kd.R k51 51 w' w.heap.size (fun _ => True) v (l ++ [t])) (hb : Below w.heap.size w w') : TP p w (.returned (.tuple #[v, .bool true])) w' := by
 subst h
 exact ⟨(l ++ [t], true), v, rfl, hR, ⟨rfl, t, List.getLast?_concat, rfl⟩, hb⟩
set_option maxHeartbeats 8000000 in
set_option maxRecDepth 100000 in
theorem tag_c (s : ByteArray) (a : Int) (hs : s.size ≤ 65536) (h0 : 0 ≤ a) (h1 : a + 1 ≤ (s.size : Int)) (w : World) : Calls Tryz.prog 95 #[.string s, .int .i64 a] w (TP (tagP s a) w) := by
 obtain ⟨P, hP⟩ : ∃ P, tagP s a = P := ⟨_, rfl⟩
 rw [hP]
 unfold tagP at hP
 obtain ⟨E, hE⟩ : ∃ E, nameEndP s.data.toList (a + 1) = E := ⟨_, rfl⟩
 have hsz : s.data.toList.length = s.size := (Lib.size_eq s).symm
 have hE1 := nameEndP_in s.data.toList (a + 1) (by omega) (by omega)
 rw [hE] at hE1
 simp only [hE] at hP
 have H1 := nameC hs hE
 have e1 : IntKind.i64.wrap (a + 1) = a + 1 := wr64 (by omega) (by omega)
 by_cases c1 : E = a + 1
 ·have q1 : (E == a + 1) = true := by simpa using c1
  rw [if_pos c1] at hP
  have HP := Lib.hid hP
  clear hP hE1 hE c1 hsz
  go_enter Tryz.func95, Tryz.ntmps95
  go_wp2_with (go_at_call 53; refine (H1 _).mono ?_; rintro e w' ⟨rfl, n2, rfl⟩)
  go_ret2
  exact TP.no HP.out (pw_below_drewN (Below.refl _ _) _)
 have q1 : (E == a + 1) = false := by simpa using c1
 rw [if_neg c1] at hP
 have p1 : ((0 : Int) ≤ a + 1) = True := eq_true (by omega)
 have p2 : (a + 1 ≤ E) = True := eq_true (by omega)
 have p3 : (E ≤ (s.size : Int)) = True := eq_true (by omega)
 have HP := Lib.hid (show 0 ≤ E ∧ E ≤ (s.size : Int) ∧ (1 : Int) ≤ E ∧ (s.size : Int) - E < (s.size + 1 : Nat) ∧ attrsF s (s.size + 1) E [⟨1, a, E, partB s (a + 1) E, ⟨#[]⟩⟩] = P from ⟨by omega, by omega, by omega, by omega, hP⟩)
 clear hP hE1 hE c1 hsz
 go_enter Tryz.func95, Tryz.ntmps95
 go_wp2_with (go_at_call 53; refine (H1 _).mono ?_; rintro e w' ⟨rfl, n2, rfl⟩)
 clear p1 p2 p3 q1 e1 H1
 go_loopw [7] (fun v7 wr => ∃ (l : List Tok) (t : Tok) (k : Nat), Hid (0 ≤ t.f2 ∧ t.f2 ≤ (s.size : Int) ∧ ((l ++ [t]).length : Int) ≤ t.f2 ∧ (s.size : Int) - t.f2 < k ∧ attrsF s k t.f2 (l ++ [t]) = P) ∧ Hid (Kd.R k51 51 wr w.heap.size (fun _ => True) v7 (l ++ [t])) ∧ Hid (Below w.heap.size w wr)) (fun v7 wr => s.size + 1 - lenV v7)
 case atStart => exact ⟨[], ⟨1, a, E, partB s (a + 1) E, ⟨#[]⟩⟩, s.size + 1, HP, Lib.hid (lit_R (pw_below_drewN (Below.refl w.heap.size w) n2).size _), Lib.hid (below_alloc (pw_below_drewN (Below.refl _ _) _) _)⟩
 case round =>
  clear HP
  obtain ⟨l, t, k, HX, HR, HB⟩ := hrel
  obtain ⟨A7, c7, rfl⟩ := Kd.R_slice HR.out
  obtain ⟨x0, x1, x2, x3, x4⟩ := HX.out
  obtain ⟨k, rfl⟩ : ∃ j, k = j + 1 := ⟨k - 1, by omega⟩
  have hlen : (l ++ [t]).length = l.length + 1 := by rw [List.length_append, List.length_singleton]
  obtain ⟨ad, hA, -, -, r2, -, -⟩ := at_T51 (Kd.R_reads' HR.out).2.2 (l.length : Int) (by omega) (by omega)
  subst hA
  have hrd := rd_last l t (by omega)
  have hcw : wrap64 (((l ++ [t]).length : Int) - 1) = (l.length : Int) := by rw [hlen, cwr _ (by omega) (by omega)]; omega
  rw [hcw] at hrd
  rw [hrd, Int.toNat_natCast] at r2
  obtain ⟨n, hn⟩ : ∃ n, (l ++ [t]).length = n := ⟨_, rfl⟩
  have e2 : IntKind.i64.wrap ((n : Int) - 1) = (l.length : Int) := by rw [wr64 (by omega) (by omega)]; omega
  obtain ⟨A, hAf⟩ : ∃ A, t.f2 = A := ⟨_, rfl⟩
  rw [hAf] at r2 x0 x1 x2 x3 x4
  obtain ⟨I, hI⟩ : ∃ I, skipP s.data.toList A = I := ⟨_, rfl⟩
  have hsz : s.data.toList.length = s.size := (Lib.size_eq s).symm
  have hI1 := skipP_in s.data.toList A x0 (by omega)
  rw [hI] at hI1
  have h1 := skipC hs hI
  obtain ⟨b1, hb1⟩ : ∃ b1, standsB s I ⟨#[62]⟩ = b1 := ⟨_, rfl⟩
  obtain ⟨b2, hb2⟩ : ∃ b2, standsB s I ⟨#[47, 62]⟩ = b2 := ⟨_, rfl⟩
  have h2 := begC (i := I) (by omega) (by omega) (by decide) (by decide) hb1
  have h3 := begC (i := I) (by omega) (by omega) (by decide) (by decide) hb2
  obtain ⟨⟨ax, ay, az, au, av, ab⟩, hsame, h4⟩ := attr_c s A hs x0 x1
  unfold attrsF at x4
  rw [hI, hb1, hb2] at x4
  have e3 : IntKind.i64.wrap (I + 1) = I + 1 := wr64 (by omega) (by omega)
  have e4 : IntKind.i64.wrap (I + 2) = I + 2 := wr64 (by omega) (by omega)
  have p1 : ((0 : Int) ≤ (l.length : Int)) = True := eq_true (by omega)
  have p2 : ((l.length : Int) < (n : Int)) = True := eq_true (by omega)
  have hcase : (b1 = true ∧ some (l ++ [t] ++ [(⟨3, I, I + 1, ⟨#[]⟩, ⟨#[]⟩⟩ : Tok)], I + 1) = P) ∨ (b1 = false ∧ b2 = true ∧ some (l ++ [t] ++ [(⟨4, I, I + 2, ⟨#[]⟩, ⟨#[]⟩⟩ : Tok)], I + 2) = P) ∨ (b1 = false ∧ b2 = false ∧ ab = false ∧ none = P) ∨ (b1 = false ∧ b2 = false ∧ ab = true ∧ Hid (0 ≤ az ∧ az ≤ (s.size : Int) ∧ ((l ++ [t] ++ [(⟨ax, ay, az, au, av⟩ : Tok)]).length : Int) ≤ az ∧ (s.size : Int) - az < k ∧ attrsF s k az (l ++ [t] ++ [⟨ax, ay, az, au, av⟩]) = P)) := by
   cases hb : b1
   ·rw [hb, if_neg (by decide)] at x4
    right
    cases hc : b2
    ·rw [hc, if_neg (by decide)] at x4
     right
     cases hA : attrP s A with
     | none => rw [hA] at x4 hsame; exact .inl ⟨rfl, rfl, hsame, x4⟩
     | some v =>
      obtain ⟨new, a'⟩ := v
      rw [hA] at x4 hsame
      obtain ⟨e5, e6, e7⟩ := hsame
      have hroom := attr_room s A x0 x1 new a' hA
      simp only at e5 e6 e7
      subst e5 e7
      exact .inr ⟨rfl, rfl, e6, Lib.hid ⟨by omega, hroom.2.1, by rw [List.length_append, hlen, List.length_singleton]; rw [hlen] at x2; omega, by omega, x4⟩⟩
    ·rw [hc, if_pos rfl] at x4
     exact .inl ⟨rfl, rfl, x4⟩
   ·rw [hb, if_pos rfl] at x4
    exact .inl ⟨rfl, x4⟩
  have HL := Lib.hid (show (l ++ [t]).length ≤ 1000000 by omega)
  have HS := Lib.hid (show n = l.length + 1 ∧ l.length + 1 ≤ s.size ∧ (l ++ [t]).length = n from ⟨by omega, by omega, hn⟩)
  obtain ⟨m, hm⟩ : ∃ m, l.length = m := ⟨_, rfl⟩
  rw [hn] at HR ⊢
  rw [hm] at r2 e2 p1 p2 HS
  clear hlen hm hn
  clear hI1 hI hb1 hb2 hsame x0 x1 x2 x3 x4 hAf hcw hrd hsz HX
  rcases hcase with ⟨rfl, hp⟩ | ⟨rfl, rfl, hp⟩ | ⟨rfl, rfl, rfl, hp⟩ | ⟨rfl, rfl, rfl, hp⟩
  ·have HP := Lib.hid hp
   clear hp h3 h4 e4
   go_wp2_with (first | (go_at_call 67; refine (h1 _).mono ?_; rintro e w' ⟨rfl, n1, rfl⟩) | (go_at_call 93; (with_reducible first | refine (h2 _).mono ?_ | refine (h3 _).mono ?_); rintro e w' ⟨rfl, n3, rfl⟩) | (at_builtin; refine app_t ⟨3, I, I + 1, ⟨#[]⟩, ⟨#[]⟩⟩ (.tmp 42) (.tmp 47) rfl rfl rfl rfl (Kd.R_drewN HR.out _) (pw_below_drewN HB.out _) HL.out ?_; intro v1 w2 ho hb; have HO := Lib.hid ho; have HB2 := Lib.hid hb; clear ho hb))
   go_ret2
   exact TP.yes HP.out HO.out HB2.out
  ·have HP := Lib.hid hp
   clear hp h4 e3
   go_wp2_with (first | (go_at_call 67; refine (h1 _).mono ?_; rintro e w' ⟨rfl, n1, rfl⟩) | (go_at_call 93; (with_reducible first | refine (h2 _).mono ?_ | refine (h3 _).mono ?_); rintro e w' ⟨rfl, n3, rfl⟩) | (at_builtin; refine app_t ⟨4, I, I + 2, ⟨#[]⟩, ⟨#[]⟩⟩ (.tmp 52) (.tmp 57) rfl rfl rfl rfl (Kd.R_drewN HR.out _) (pw_below_drewN HB.out _) HL.out ?_; intro v1 w2 ho hb; have HO := Lib.hid ho; have HB2 := Lib.hid hb; clear ho hb))
   go_ret2
   exact TP.yes HP.out HO.out HB2.out
  ·have HP := Lib.hid hp
   clear hp e3 e4
   go_wp2_with (first | (go_at_call 67; refine (h1 _).mono ?_; rintro e w' ⟨rfl, n1, rfl⟩) | (go_at_call 93; (with_reducible first | refine (h2 _).mono ?_ | refine (h3 _).mono ?_); rintro e w' ⟨rfl, n3, rfl⟩) | (go_at_call 117; refine (h4 _).mono ?_; rintro e w9 ⟨rfl, hb9⟩; have HB9 := Lib.hid (below_step (pw_below_drewN HB.out _) hb9); clear hb9))
   go_ret2
   exact TP.no HP.out (below_alloc HB9.out _)
  ·clear e3 e4
   go_wp2_with (first | (go_at_call 67; refine (h1 _).mono ?_; rintro e w' ⟨rfl, n1, rfl⟩) | (go_at_call 93; (with_reducible first | refine (h2 _).mono ?_ | refine (h3 _).mono ?_); rintro e w' ⟨rfl, n3, rfl⟩) | (go_at_call 117; refine (h4 _).mono ?_; rintro e w9 ⟨rfl, hb9⟩; have HR9 := Lib.hid (Kd.R_alloc (Kd.R_below (Kd.R_drewN HR.out _) hb9) (.cells #[.int .i64 ax, .int .i64 ay, .int .i64 az, .string au, .string av] 51)); have HB9 := Lib.hid (below_alloc (below_step (pw_below_drewN HB.out _) hb9) (.cells #[.int .i64 ax, .int .i64 ay, .int .i64 az, .string au, .string av] 51)); clear hb9) | (at_builtin; refine app_t ⟨ax, ay, az, au, av⟩ (.tmp 67) (.tmp 69) rfl rfl rfl rfl HR9.out HB9.out HL.out ?_; intro v1 w2 ho hb; have HO := Lib.hid ho; have HB2 := Lib.hid hb; clear ho hb))
   obtain ⟨e5, e6, e7⟩ := HS.out
   obtain ⟨A8, c8, rfl⟩ := Kd.R_slice HO.out
   go_roundw
   case rel => exact ⟨l ++ [t], ⟨ax, ay, az, au, av⟩, k, hp, HO, HB2⟩
   case measure => simp [lenV] at *; omega
end Go.Proofs.YtlhhhlimjajnlaaGreat.P12
end
section
set_option linter.unusedVariables false
set_option linter.unusedSimpArgs false
namespace Go.Proofs.YtlhhhlimjajnlaaGreat.P12
open Go Go.RowKit Go.Proofs.YtlhhhlimjajnlaaGreat Go.Proofs.YtlhhhlimjajnlaaGreat.Q Go.Proofs.YtlhhhlimjajnlaaGreatW.PrintWords Go.Proofs.YtlhhhlimjajnlaaGreatW.PrintLast Go.Proofs.YtlhhhlimjajnlaaGreatW.PrintMore Go.Proofs.YtlhhhlimjajnlaaGreat.X Go.Proofs.YtlhhhlimjajnlaaGreat.P11
attribute [local go_sem] max2_int min2_int max_two min_two   
abbrev PO := Option (List Tok × Int)
abbrev cm : ByteArray := ⟨#[60, 33, 45, 45]⟩
abbrev cd : ByteArray := ⟨#[60, 33, 91, 67, 68, 65, 84, 65, 91]⟩
def PW1 (s : ByteArray) (a : Int) (P : PO) : Prop := IntKind.i64.wrap (a + 4) = a + 4 ∧ ∃ T, FindC s (a + 4) ⟨#[45, 45]⟩ T ∧ ((T < 0) = True ∧ none = P ∨ (T < 0) = False ∧ ∃ b, BegC s T ⟨#[45, 45, 62]⟩ b ∧ (b = false ∧ none = P ∨ b = true ∧ IntKind.i64.wrap (T + 3) = T + 3 ∧ ((0 : Int) ≤ a + 4) = True ∧ (a + 4 ≤ T) = True ∧ (T ≤ (s.size : Int)) = True ∧ some ([(⟨7, a, T + 3, ⟨#[]⟩, s.extract (a + 4).toNat T.toNat⟩ : Tok)], T + 3) = P))
def PW2 (s : ByteArray) (a : Int) (P : PO) : Prop := IntKind.i64.wrap (a + 9) = a + 9 ∧ ∃ T, FindC s (a + 9) ⟨#[93, 93, 62]⟩ T ∧ ((T < 0) = True ∧ none = P ∨ (T < 0) = False ∧ IntKind.i64.wrap (T + 3) = T + 3 ∧ ((0 : Int) ≤ a + 9) = True ∧ (a + 9 ≤ T) = True ∧ (T ≤ (s.size : Int)) = True ∧ some ([(⟨6, a, T + 3, ⟨#[]⟩, s.extract (a + 9).toNat T.toNat⟩ : Tok)], T + 3) = P)
def PW3 (s : ByteArray) (a : Int) (P : PO) : Prop := IntKind.i64.wrap (a + 2) = a + 2 ∧ ∃ E I, NameC s (a + 2) E ∧ SkipC s E I ∧ ((E == a + 2) = true ∧ none = P ∨ (E == a + 2) = false ∧ ∃ b, BegC s I ⟨#[62]⟩ b ∧ (b = false ∧ none = P ∨ b = true ∧ IntKind.i64.wrap (I + 1) = I + 1 ∧ ((0 : Int) ≤ a + 2) = True ∧ (a + 2 ≤ E) = True ∧ (E ≤ (s.size : Int)) = True ∧ some ([(⟨5, a, I + 1, s.extract (a + 2).toNat E.toNat, ⟨#[]⟩⟩ : Tok)], I + 1) = P))
def PW5 (s : ByteArray) (a : Int) (P : PO) : Prop := ∃ T E, FindC s a ⟨#[60]⟩ T ∧ ((T < 0) = True ∧ (s.size : Int) = E ∨ (T < 0) = False ∧ T = E) ∧ ((0 : Int) ≤ a) = True ∧ (a ≤ E) = True ∧ (E ≤ (s.size : Int)) = True ∧ ∃ v b, DecC (s.extract a.toNat E.toNat) v b ∧ (b = false ∧ none = P ∨ b = true ∧ some ([(⟨6, a, E, ⟨#[]⟩, v⟩ : Tok)], E) = P)
def PW (s : ByteArray) (a : Int) (P : PO) : Prop := BegC s a cm true ∧ PW1 s a P ∨ BegC s a cm false ∧ (BegC s a cd true ∧ PW2 s a P ∨ BegC s a cd false ∧ (BegC s a ⟨#[60, 47]⟩ true ∧ PW3 s a P ∨ BegC s a ⟨#[60, 47]⟩ false ∧ (BegC s a ⟨#[60]⟩ true ∧ (∀ w, Calls Tryz.prog 95 #[.string s, .int .i64 a] w (TP P w)) ∨ BegC s a ⟨#[60]⟩ false ∧ PW5 s a P)))
theorem TP.one {w W : World} {p : PO} (b : Bool) (t : Tok) (h : b = false ∧ none = p ∨ b = true ∧ some ([t], t.f2) = p) (hb : Below w.heap.size w W) : TP p w (.returned (.tuple #[.slice (some ⟨W.heap.size, 0, none⟩) 1 1, .bool b])) (W.alloc (.cells #[.int .i64 t.f0, .int .i64 t.f1, .int .i64 t.f2, .string t.f3, .string t.f4] 51)) := by
 refine ⟨([t], b), _, rfl, lit_R hb.size t, ?_, below_alloc hb _⟩
 rcases h with ⟨rfl, rfl⟩ | ⟨rfl, rfl⟩
 ·rfl
 ·exact ⟨rfl, t, rfl, rfl⟩
set_option maxHeartbeats 8000000 in
set_option maxRecDepth 100000 in
theorem piece_go {s : ByteArray} {a : Int} {P : PO} (h : PW s a P) (w : World) : Calls Tryz.prog 66 #[.string s, .int .i64 a] w (TP P w) := by
 rcases h with ⟨h1, q1, T, h6, ⟨q2, hp⟩ | ⟨q2, b, h7, ⟨rfl, hp⟩ | ⟨rfl, q3, q4, q5, q6, hp⟩⟩⟩ | ⟨h1, ⟨h2, q1, T, h6, ⟨q2, hp⟩ | ⟨q2, q3, q4, q5, q6, hp⟩⟩ | ⟨h2, ⟨h3, q1, E, I, h8, h9, ⟨q2, hp⟩ | ⟨q2, b, h7, ⟨rfl, hp⟩ | ⟨rfl, q3, q4, q5, q6, hp⟩⟩⟩ | ⟨h3, ⟨h4, hp⟩ | ⟨h4, T, E, h6, ⟨q2, rfl⟩ | ⟨q2, rfl⟩, q4, q5, q6, v, b, h5, hp⟩⟩⟩⟩
 all_goals
  have HP := Lib.hid hp
  clear hp
  go_enter Tryz.func66, Tryz.ntmps66
  go_wp2_with (first | (go_at_call 93; (with_reducible first | refine (h1 _).mono ?_ | refine (h2 _).mono ?_ | refine (h3 _).mono ?_ | refine (h4 _).mono ?_ | refine (h7 _).mono ?_); rintro e w' ⟨rfl, n1, rfl⟩) | (go_at_call 94; refine (h6 _).mono ?_; rintro e w' ⟨rfl, n2, rfl⟩) | (go_at_call 53; refine (h8 _).mono ?_; rintro e w' ⟨rfl, n3, rfl⟩) | (go_at_call 67; refine (h9 _).mono ?_; rintro e w' ⟨rfl, n4, rfl⟩) | (go_at_call 96; refine (h5 _).mono ?_; rintro e w9 ⟨rfl, hb9⟩; have HB9 := Lib.hid (below_step (pw_below_drewN (Below.refl w.heap.size w) _) hb9); clear hb9) | (go_at_call 95; refine (HP.out _).mono ?_; rintro e w9 ⟨⟨r1, r2⟩, v, rfl, hr, hs, hb9⟩; have HT := Lib.hid hr; have HS := Lib.hid hs; have HB9 := Lib.hid (below_step (pw_below_drewN (Below.refl w.heap.size w) _) hb9); clear hr hs hb9))
  go_ret2
  first
  | exact TP.no HP.out (pw_below_drewN (Below.refl _ _) _)
  | exact TP.one true ⟨_, _, _, _, _⟩ (.inr ⟨rfl, HP.out⟩) (pw_below_drewN (Below.refl _ _) _)
  | exact TP.one b ⟨_, _, _, _, _⟩ HP.out HB9.out
  | exact ⟨(r1, r2), v, rfl, Kd.R_lower HT.out (Nat.le_of_eq (by simp)), HS.out, HB9.out⟩
theorem beg_or {s t : ByteArray} {a : Int} (h0 : 0 ≤ a) (h1 : a ≤ 4294967296) (ht : 0 < t.size) (hts : t.size ≤ 4294967296) {A B : Prop} (hA : standsB s a t = true → A) (hB : ¬ standsB s a t = true → B) : BegC s a t true ∧ A ∨ BegC s a t false ∧ B := by
 by_cases c : standsB s a t = true
 ·exact .inl ⟨begC h0 h1 ht hts c, hA c⟩
 ·exact .inr ⟨begC h0 h1 ht hts (by simpa using c), hB c⟩
theorem piece_C (s : ByteArray) (a : Int) (hs : s.size ≤ 65536) (h0 : 0 ≤ a) (h1 : a < (s.size : Int)) : PW s a (stepP s a) := by
 have hsz : s.data.toList.length = s.size := (Lib.size_eq s).symm
 refine beg_or h0 (by omega) (by decide) (by decide) (fun c1 => ?_) fun c1 => beg_or h0 (by omega) (by decide) (by decide) (fun c2 => ?_) fun c2 => beg_or h0 (by omega) (by decide) (by decide) (fun c3 => ?_) fun c3 => beg_or h0 (by omega) (by decide) (by decide) (fun c4 => ?_) fun c4 => ?_
 ·have hr := stands_room2 s a _ h0 (by decide) c1
  rw [show (cm.size : Int) = 4 from rfl] at hr
  have hP : stepP s a = commentP s.data.toList a := by unfold stepP; rw [if_pos c1]
  rw [hP]
  unfold commentP
  have hle := Lib.index_le (s.data.toList.drop (a.toNat + 4)) [45, 45]
  rw [List.length_drop] at hle
  have hT : findN s.data.toList (⟨#[45, 45]⟩ : ByteArray).data.toList (a + 4).toNat = if Lib.index (s.data.toList.drop (a.toNat + 4)) [45, 45] < 0 then -1 else a + 4 + Lib.index (s.data.toList.drop (a.toNat + 4)) [45, 45] := by
   unfold findN
   rw [show (a + 4).toNat = a.toNat + 4 from by omega, show (⟨#[45, 45]⟩ : ByteArray).data.toList = [45, 45] from rfl]
   split
   ·rfl
   ·omega
  obtain ⟨i, hi⟩ : ∃ i, Lib.index (s.data.toList.drop (a.toNat + 4)) [45, 45] = i := ⟨_, rfl⟩
  rw [hi] at hT hle
  simp only [hi]
  refine ⟨wr64 (by omega) (by omega), _, findC hs (by omega) (by omega) (by decide) (by decide) hT, ?_⟩
  by_cases c : i < 0
  ·rw [if_pos c, if_pos c]
   exact .inl ⟨eq_true (by omega), rfl⟩
  rw [if_neg c, if_neg c]
  have hst : standsB s (a + 4 + i) ⟨#[45, 45, 62]⟩ = Lib.hasPrefix ((s.data.toList.drop (a.toNat + 4)).drop i.toNat) [45, 45, 62] := by
   unfold standsB
   rw [List.drop_drop, show (a + 4 + i).toNat = a.toNat + 4 + i.toNat from by omega]
  refine .inr ⟨eq_false (by omega), _, begC (by omega) (by omega) (by decide) (by decide) hst, ?_⟩
  cases hb : Lib.hasPrefix ((s.data.toList.drop (a.toNat + 4)).drop i.toNat) [45, 45, 62]
  ·exact .inl ⟨rfl, by rw [if_neg (by decide)]⟩
  ·refine .inr ⟨rfl, wr64 (by omega) (by omega), eq_true (by omega), eq_true (by omega), eq_true (by omega), ?_⟩
   rw [if_pos rfl, part_eq s (a + 4) (a + 4 + i) (by omega) ((s.data.toList.drop (a.toNat + 4)).take i.toNat) (by rw [show (a + 4).toNat = a.toNat + 4 from by omega]; congr 1; omega) (by omega)]
 ·have hr := stands_room2 s a _ h0 (by decide) c2
  rw [show (cd.size : Int) = 9 from rfl] at hr
  have hP : stepP s a = plainP s.data.toList a := by unfold stepP; rw [if_neg c1, if_pos c2]
  rw [hP]
  unfold plainP
  have hcf := cut_find s.data.toList [93, 93, 62] (a + 9).toNat
  obtain ⟨T, hT⟩ : ∃ T, findN s.data.toList [93, 93, 62] (a + 9).toNat = T := ⟨_, rfl⟩
  rw [hT] at hcf
  refine ⟨wr64 (by omega) (by omega), T, findC hs (by omega) (by omega) (by decide) (by decide) hT, ?_⟩
  rw [show (a + 9).toNat = a.toNat + 9 from by omega] at hcf
  obtain ⟨c, hc⟩ : ∃ c, Lib.cut (s.data.toList.drop (a.toNat + 9)) [93, 93, 62] = c := ⟨_, rfl⟩
  rw [hc] at hcf
  simp only [hc]
  by_cases c5 : T < 0
  ·have e5 : ¬ c.2.2 = true := by rw [hcf.1, decide_eq_false (by omega)]; decide
   rw [if_neg e5]
   exact .inl ⟨eq_true c5, rfl⟩
  ·have e5 : c.2.2 = true := by rw [hcf.1, decide_eq_true (by omega)]
   obtain ⟨hT1, hc1⟩ := hcf.2 (by omega)
   have hcl : (c.1.length : Int) ≤ (s.size : Int) - (a + 9) := by
    rw [hc1, List.length_take, List.length_drop]; omega
   rw [if_pos e5]
   refine .inr ⟨eq_false c5, wr64 (by omega) (by omega), eq_true (by omega), eq_true (by omega), eq_true (by omega), ?_⟩
   rw [part_eq s (a + 9) T (by omega) c.1 (by rw [show (a + 9).toNat = a.toNat + 9 from by omega, hc1]; congr 1; omega) (by omega), show T + 3 = a + 9 + (c.1.length : Int) + 3 from by omega]
 ·have hr := stands_room2 s a _ h0 (by decide) c3
  rw [show ((⟨#[60, 47]⟩ : ByteArray).size : Int) = 2 from rfl] at hr
  have hP : stepP s a = closingP s a := by unfold stepP; rw [if_neg c1, if_neg c2, if_pos c3]
  rw [hP]
  unfold closingP
  obtain ⟨E, hE⟩ : ∃ E, nameEndP s.data.toList (a + 2) = E := ⟨_, rfl⟩
  obtain ⟨T, hT⟩ : ∃ T, skipP s.data.toList E = T := ⟨_, rfl⟩
  have hE1 := nameEndP_in s.data.toList (a + 2) (by omega) (by omega)
  rw [hE] at hE1
  have hT1 := skipP_in s.data.toList E (by omega) (by omega)
  rw [hT] at hT1
  simp only [hE, hT]
  refine ⟨wr64 (by omega) (by omega), E, T, nameC hs hE, skipC hs hT, ?_⟩
  by_cases c : E = a + 2
  ·rw [if_pos c]
   exact .inl ⟨by simpa using c, rfl⟩
  rw [if_neg c]
  refine .inr ⟨beq_eq_false_iff_ne.2 c, _, begC (by omega) (by omega) (by decide) (by decide) rfl, ?_⟩
  cases hb : standsB s T ⟨#[62]⟩
  ·exact .inl ⟨rfl, by rw [if_neg (by decide)]⟩
  ·exact .inr ⟨rfl, wr64 (by omega) (by omega), eq_true (by omega), eq_true (by omega), eq_true (by omega), by rw [if_pos rfl]; rfl⟩
 ·have hP : stepP s a = tagP s a := by unfold stepP; rw [if_neg c1, if_neg c2, if_neg c3, if_pos c4]
  rw [hP]
  exact fun w => tag_c s a hs h0 (by omega) w
 have hP : stepP s a = textP s.data.toList a := by unfold stepP; rw [if_neg c1, if_neg c2, if_neg c3, if_neg c4]
 rw [hP]
 unfold textP
 have hcf := cut_find s.data.toList [60] a.toNat
 obtain ⟨T, hT⟩ : ∃ T, findN s.data.toList [60] a.toNat = T := ⟨_, rfl⟩
 obtain ⟨c, hc⟩ : ∃ c, Lib.cut (s.data.toList.drop a.toNat) [60] = c := ⟨_, rfl⟩
 rw [hT, hc] at hcf
 simp only [hc]
 have hcl : c.1.length ≤ (s.data.toList.drop a.toNat).length := by rw [← hc]; exact cut_le _ _
 rw [List.length_drop] at hcl
 have hE : ((T < 0) = True ∧ (s.size : Int) = a + (c.1.length : Int) ∨ (T < 0) = False ∧ T = a + (c.1.length : Int)) ∧ (s.extract a.toNat (a + (c.1.length : Int)).toNat).data.toList = c.1 := by
  by_cases c5 : T < 0
  ·have hcu : c.1 = s.data.toList.drop a.toNat := by
    rw [← hc]
    unfold Lib.cut
    rw [if_neg]
    intro hi
    have : (Lib.cut (s.data.toList.drop a.toNat) [60]).2.2 = true := by unfold Lib.cut; rw [if_pos hi]
    rw [hc, hcf.1, decide_eq_true_eq] at this
    omega
   have hlen : (s.size : Int) = a + (c.1.length : Int) := by rw [hcu, List.length_drop]; omega
   exact ⟨.inl ⟨eq_true c5, hlen⟩, by rw [← hlen, Lib.extract_data, hcu, List.take_of_length_le (by rw [List.length_drop]; omega)]⟩
  ·obtain ⟨hT1, hc1⟩ := hcf.2 (by omega)
   have hTa : T = a + (c.1.length : Int) := by omega
   have hx : (s.extract a.toNat T.toNat).data.toList = c.1 := by rw [Lib.extract_data, hc1]; congr 1; omega
   exact ⟨.inr ⟨eq_false c5, hTa⟩, by rw [← hTa]; exact hx⟩
 obtain ⟨hE, hR⟩ := hE
 have hRs : (s.extract a.toNat (a + (c.1.length : Int)).toNat).size ≤ 65536 := by rw [Lib.size_eq, hR]; omega
 refine ⟨T, _, findC hs h0 (by omega) (by decide) (by decide) hT, hE, eq_true h0, eq_true (by omega), eq_true (by omega), _, _, decC hRs rfl, ?_⟩
 rw [hR]
 cases hd : dec c.1 with
 | none => exact .inl ⟨rfl, rfl⟩
 | some v =>
  have hv : (⟨#[]⟩ : ByteArray) ++ (⟨v.toArray⟩ : ByteArray) = ⟨v.toArray⟩ := by
   apply ByteArray.ext; apply Array.ext'; simp [ByteArray.data_append]
  refine .inr ⟨rfl, ?_⟩
  show some ([(⟨6, a, _, _, (⟨#[]⟩ : ByteArray) ++ (⟨v.toArray⟩ : ByteArray)⟩ : Tok)], _) = _
  rw [hv]
theorem piece_c (s : ByteArray) (a : Int) (hs : s.size ≤ 65536) (h0 : 0 ≤ a) (h1 : a < (s.size : Int)) (w : World) : Calls Tryz.prog 66 #[.string s, .int .i64 a] w (TP (stepP s a) w) := piece_go (piece_C s a hs h0 h1) w
theorem lex_end {l : List Tok} {n : Nat} (hn : l.length = n) {t : Tok} (ht : l.getLast? = some t) (h : n ≤ 4294967296) {W : World} {A : Option Addr} (hC : Kd.C k51 W A n l) : ∃ (ad : Addr) (m : Nat), A = some ad ∧ IntKind.i64.wrap ((n : Int) - 1) = (m : Int) ∧ ((0 : Int) ≤ (m : Int)) = True ∧ ((m : Int) < (n : Int)) = True ∧ W.cell? ⟨(ad.add (m * 5)).block, (ad.add (m * 5)).off + 2, none⟩ = some (.int .i64 t.f2) := by
 obtain ⟨pre, rfl⟩ := List.getLast?_eq_some_iff.1 ht
 rw [List.length_append, List.length_singleton] at hn
 obtain ⟨ad, hA, -, -, r2, -, -⟩ := at_T51 hC (pre.length : Int) (by omega) (by omega)
 have hrd : rd_T51 (pre ++ [t]) (pre.length : Int) = t := by unfold rd_T51; rw [Int.toNat_natCast]; simp
 rw [hrd, Int.toNat_natCast] at r2
 exact ⟨ad, pre.length, hA, by rw [wr64 (by omega) (by omega)]; omega, eq_true (by omega), eq_true (by omega), r2⟩
def LP (p : List Tok × Int) (w : World) (e : Ending) (w' : World) : Prop := ∃ v : Value, e = .returned (.tuple #[v, .int .i64 p.2]) ∧ Kd.R k51 51 w' w.heap.size (fun _ => True) v p.1 ∧ Below w.heap.size w w'
theorem LP.no {w w' : World} {p : List Tok × Int} {n : Int} (h : ([], n) = p) (hb : Below w.heap.size w w') : LP p w (.returned (.tuple #[.slice none 0 0, .int .i64 n])) w' := by
 subst h
 exact ⟨_, rfl, Kd.R_nil _ _ _ _ _, hb⟩
set_option maxHeartbeats 8000000 in
set_option maxRecDepth 100000 in
theorem lexref_c (s : ByteArray) (w : World) : Calls Tryz.prog 32 #[.string s] w (LP (lexV s) w) := by
 obtain ⟨P, hP⟩ : ∃ P, lexV s = P := ⟨_, rfl⟩
 rw [hP]
 unfold lexV at hP
 by_cases c1 : (65536 : Int) < (s.size : Int)
 ·rw [if_pos c1] at hP
  have HP := Lib.hid hP
  have q1 : ((65536 : Int) < (s.size : Int)) = True := eq_true c1
  clear hP c1
  go_enter Tryz.func32, Tryz.ntmps32
  go_wp2
  go_ret2
  exact LP.no HP.out (Below.refl _ _)
 rw [if_neg c1] at hP
 have q1 : ((65536 : Int) < (s.size : Int)) = False := eq_false c1
 have hv := fun W => R1_Valid.calls _ s _ W (ref_valid_f s (by omega) 0)
 obtain ⟨b, hb⟩ : ∃ b, validL s.data.toList = b := ⟨_, rfl⟩
 rw [hb] at hv hP
 have HV := Lib.hid hv
 have HS := Lib.hid (show s.size ≤ 65536 by omega)
 have HP := Lib.hid hP
 clear hv hP hb c1
 cases b
 ·go_enter Tryz.func32, Tryz.ntmps32
  go_wp2_with (go_at_call 65; refine (HV.out _).mono ?_; rintro e w1 ⟨rfl, hb1⟩; have HB := Lib.hid hb1; clear hb1)
  go_ret2
  exact LP.no HP.out HB.out
 have HQ := Lib.hid (show (match lexF s (s.size + 1) 0 [] with | some l => (l, 0) | none => ([], 15)) = P from HP.out)
 clear HP
 go_enter Tryz.func32, Tryz.ntmps32
 go_wp2_with (go_at_call 65; refine (HV.out _).mono ?_; rintro e w1 ⟨rfl, hb1⟩; have HB := Lib.hid hb1; clear hb1)
 clear q1 HV
 go_loopw [5, 6] (fun v5 v6 wr => ∃ (l : List Tok) (a : Int) (k : Nat), v6 = .int .i64 a ∧ Hid (0 ≤ a ∧ a ≤ (s.size : Int) ∧ (l.length : Int) ≤ a ∧ (s.size : Int) - a < k ∧ (match lexF s k a l with | some l => (l, (0 : Int)) | none => ([], 15)) = P) ∧ Hid (Kd.R k51 51 wr w.heap.size (fun _ => True) v5 l) ∧ Hid (Below w.heap.size w wr)) (fun v5 v6 wr => s.size - (intOf v6).toNat)
 case atStart => exact ⟨[], 0, s.size + 1, rfl, Lib.hid ⟨by omega, by omega, by simp, by omega, HQ.out⟩, Lib.hid (Kd.R_nil _ _ _ _ _), HB⟩
 case round =>
  clear HQ HB
  obtain ⟨l, a, k, rfl, HX, HR, HB⟩ := hrel
  obtain ⟨x0, x1, x2, x3, x4⟩ := HX.out
  obtain ⟨k, rfl⟩ : ∃ j, k = j + 1 := ⟨k - 1, by omega⟩
  unfold lexF at x4
  by_cases hlt : a < (s.size : Int)
  ·rw [if_pos hlt] at x4
   have q1 : (a < (s.size : Int)) = True := eq_true hlt
   have hpc := fun W => piece_c s a HS.out x0 hlt W
   cases hst : stepP s a with
   | none =>
    rw [hst] at x4 hpc
    have HP := Lib.hid x4
    have HPC := Lib.hid hpc
    clear hpc x0 x1 x2 x3 x4 hlt hst HX
    go_wp2_with (go_at_call 66; refine (HPC.out _).mono ?_; rintro e w2 ⟨⟨r1, r2⟩, v, rfl, hr, hs2, hb2⟩; obtain rfl : r2 = false := hs2; have HB2 := Lib.hid (below_step HB.out hb2); clear hr hb2)
    go_ret2
    exact LP.no HP.out HB2.out
   | some p =>
    obtain ⟨new, a'⟩ := p
    have hroom := step_room s a x0 hlt new a' hst
    rw [hst] at x4 hpc
    have HPC := Lib.hid hpc
    have HX2 := Lib.hid (show 0 ≤ a ∧ 0 ≤ a' ∧ a' ≤ (s.size : Int) ∧ ((l ++ new).length : Int) ≤ a' ∧ (s.size : Int) - a' < k ∧ a < a' ∧ (match lexF s k a' (l ++ new) with | some l => (l, (0 : Int)) | none => ([], 15)) = P from ⟨x0, by omega, hroom.2.1, zz24, by omega, hroom.1, x4⟩)
    have HLn := Lib.hid (show new.length ≤ 65536 ∧ (l.length + new.length) * 56 ≤ 140737488355328 by have := HS.out; omega)
    clear hpc x0 x1 x2 x3 x4 hlt hst hroom HX
    obtain ⟨A5, c5, rfl⟩ := Kd.R_slice HR.out
    obtain ⟨n9, hn9⟩ : ∃ n9, new.length = n9 := ⟨_, rfl⟩
    rw [hn9] at HLn
    go_wp2_with (first | (go_at_call 66; refine (HPC.out _).mono ?_; rintro e w2 ⟨⟨r1, r2⟩, v, rfl, hr, ⟨hs1, t, ht, hta⟩, hb2⟩; obtain ⟨rfl, rfl⟩ := Prod.mk.inj hs1; obtain ⟨A9, c9, e9⟩ := Kd.R_slice hr; rw [hn9] at e9; subst e9; have HO := Lib.hid (Kd.R_mono (Kd.R_elder' HR.out (Kd.R_base hr) hb2) (fun _ hk => hk.2)); have HP9 := Lib.hid (Kd.R_lower (Kd.R_new' hr (Kd.R_lt HR.out)) HB.out.size); have HB2 := Lib.hid (below_step HB.out hb2); have q2 : ((n9 : Int) == 0) = false := (by obtain ⟨pre, rfl⟩ := List.getLast?_eq_some_iff.1 ht; rw [List.length_append, List.length_singleton] at hn9; rw [beq_eq_false_iff_ne]; omega); have HTL := Lib.hid ht; have HTA := Lib.hid hta; clear hr hb2 hs1 ht hta) | (at_builtin; refine Kd.R_append_rows k51 (w0 := w) w.heap.size rfl (.tmp 33) (.tmp 34) 43 51 (.agg #[.int .i64 0, .int .i64 0, .int .i64 0, .string ⟨#[]⟩, .string ⟨#[]⟩]) 56 rfl Tryz.underlying43 info51 rfl (by decide) (by omega) (.slice A5 l.length c5) l r1 _ _ _ (fun k_ => some k_ ≠ (.slice A9 n9 c9 : Value).ownBlock) (fun _ => False) rfl rfl ?aO ?aR (fun _ _ h => h) (fun _ h => h.elim) ?aF ?aB ?aS ?aL ?_; (case aR => have := (Kd.R_reads' HP9.out).2.2; rw [hn9] at this; exact this); (case aB => exact HB2.out); (case aF => exact fun k_ hk => Kd.fresh' (Kd.R_lt HP9.out) k_ hk); (case aO => exact HO.out); (case aS => exact HB2.out.size); (case aL => exact HLn.out.2); intro v1 w3 ho hb hg hat; have hpr := (Kd.R_reads' (Kd.R_after (ok := fun _ => True) HP9.out hg hat)).2.2; rw [hn9] at hpr; have HO3 := Lib.hid (Kd.R_mono ho (fun _ _ => trivial)); have HB3 := Lib.hid hb; obtain ⟨ad, m, rfl, e2, p1, p2, r2⟩ := lex_end hn9 HTL.out (by have := HLn.out; omega) hpr; clear ho hb hg hat hpr))
    obtain ⟨z1, z2, z3, z4, z5, z6, z7⟩ := HX2.out
    have hta := HTA.out
    go_roundw
    case rel => exact ⟨l ++ r1, _, k, rfl, by rw [hta]; exact Lib.hid ⟨z2, z3, z4, z5, z7⟩, HO3, HB3⟩
    case measure => simp [intOf]; omega
  ·rw [if_neg hlt] at x4
   have q1 : (a < (s.size : Int)) = False := eq_false hlt
   have HP := Lib.hid x4
   clear x0 x1 x2 x3 x4 hlt HX
   go_wp2
   go_ret2
   rw [← HP.out]
   exact ⟨_, rfl, HR.out, HB.out⟩
end Go.Proofs.YtlhhhlimjajnlaaGreat.P12
end
