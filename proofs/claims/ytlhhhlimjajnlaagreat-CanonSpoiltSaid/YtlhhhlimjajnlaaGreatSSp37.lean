/- Parts of the proof of canonSpoilt_holds, kept and merged by a program of mine (wip/tools/slim.py) out of my texts: TgW PcW LxW P14e P14j NdW -/
import Derived.Test.YtlhhhlimjajnlaaGreatSSp0
import Derived.Lib.Hide
import Derived.Test.YtlhhhlimjajnlaaGreatSSp23
import Derived.Test.YtlhhhlimjajnlaaGreatSSp20
import Derived.Test.YtlhhhlimjajnlaaGreatSSp9
section
set_option linter.unusedVariables false
set_option linter.unusedSimpArgs false
namespace Go.Proofs.YtlhhhlimjajnlaaGreat.P12
open Go Go.RowKit Go.Proofs.YtlhhhlimjajnlaaGreat Go.Proofs.YtlhhhlimjajnlaaGreat.Q Go.Proofs.YtlhhhlimjajnlaaGreatW.PrintWords Go.Proofs.YtlhhhlimjajnlaaGreatW.PrintLast Go.Proofs.YtlhhhlimjajnlaaGreatW.PrintMore Go.Proofs.YtlhhhlimjajnlaaGreat.X Go.Proofs.YtlhhhlimjajnlaaGreat.P11
attribute [local go_sem] max2_int min2_int max_two min_two   
theorem lit_R {base : Nat} {W : World} (hb : base ≤ W.heap.size) (x : Tok) : Kd.R k51 51 (W.alloc (.cells #[.int .i64 x.f0, .int .i64 x.f1, .int .i64 x.f2, .string x.f3, .string x.f4] 51)) base (fun _ => True) (.slice (some ⟨W.heap.size, 0, none⟩) 1 1) [x] := by
 refine ⟨fun k hk => trivial, [.int .i64 x.f0, .int .i64 x.f1, .int .i64 x.f2, .string x.f3, .string x.f4], ?_, ?_⟩
 ·have h2 := World.ownsRow_lit (base := base) (e := 51) (size := 5) W #[.int .i64 x.f0, .int .i64 x.f1, .int .i64 x.f2, .string x.f3, .string x.f4] 1 hb (by decide) rfl
  exact h2
 ·exact Reps.c5 (show Kd.M k51 _ _ _ x [.int .i64 x.f0, .int .i64 x.f1, .int .i64 x.f2, .string x.f3, .string x.f4] from k51_mkM _ _ _ x) (Reps.none _ _)
section
variable {ops : Array Oper} {rest : List Oper} {o : Oper} {a : Act} {Q : Exit → Act → World → Prop} {w0 W W2 : World} {v : Value}
theorem app_t {xs : List Tok} (x : Tok) (s y : Operand) (hgd : o.guard = none) (ho : o.op = .call { callee := .builtin .append, args := #[s, y], argTypes := #[43, 43] }) (hs : a.eval s = v)
 (hW : W2 = W.alloc (.cells #[.int .i64 x.f0, .int .i64 x.f1, .int .i64 x.f2, .string x.f3, .string x.f4] 51)) (HO : Kd.R k51 51 W w0.heap.size (fun _ => True) v xs) (HB : Below w0.heap.size w0 W) (hl : xs.length ≤ 1000000)
 (h : ∀ v1 w1, Kd.R k51 51 w1 w0.heap.size (fun _ => True) v1 (xs ++ [x]) → Below w0.heap.size w0 w1 → wpList Tryz.prog ops Q rest (a.put o.dst v1) w1) (hy : a.eval y = .slice (some ⟨W.heap.size, 0, none⟩) 1 1 := by first | rfl | exact congrArg (fun n => Value.slice (some ⟨n, 0, none⟩) 1 1) (by simp)) : wpList Tryz.prog ops Q (o :: rest) a W2 := by
 subst hW
 exact Kd.R_append k51 (w0 := w0) w0.heap.size hgd s y 43 51 (.agg #[.int .i64 0, .int .i64 0, .int .i64 0, .string ⟨#[]⟩, .string ⟨#[]⟩]) 56 ho Tryz.underlying43 info51 rfl (by decide) (by omega) v xs x [.int .i64 x.f0, .int .i64 x.f1, .int .i64 x.f2, .string x.f3, .string x.f4] (fun _ => True) (fun _ => False) hs hy (k51_mkM _ _ _ x) (fun _ hk => hk.elim) (fun _ _ => trivial) HO HB HB.size (by omega) fun v1 w1 h1 h2 h3 _ => h v1 w1 h1 h2
end
def lenV : Value → Nat
 | .slice _ n _ => n
 | _ => 0
def TP (p : Option (List Tok × Int)) (w : World) (e : Ending) (w' : World) : Prop := ∃ (r : List Tok × Bool) (v : Value), e = .returned (.tuple #[v, .bool r.2]) ∧ Kd.R k51 51 w' w.heap.size (fun _ => True) v r.1 ∧ PieceSame r p ∧ Below w.heap.size w w'
theorem TP.no {w w' : World} {p : Option (List Tok × Int)} (h : none = p) (hb : Below w.heap.size w w') : TP p w (.returned (.tuple #[.slice none 0 0, .bool false])) w' := by
 subst h
 exact ⟨([], false), _, rfl, Kd.R_nil _ _ _ _ _, rfl, hb⟩
theorem TP.yes {w w' : World} {v : Value} {p : Option (List Tok × Int)} {l : List Tok} {t : Tok} (h : some (l ++ [t], t.f2) = p) (hR : Kd.R k51 51 w' w.heap.size (fun _ => True) v (l ++ [t])) (hb : Below w.heap.size w w') : TP p w (.returned (.tuple #[v, .bool true])) w' := by
 subst h
 exact ⟨(l ++ [t], true), v, rfl, hR, ⟨rfl, t, List.getLast?_concat, rfl⟩, hb⟩
set_option maxHeartbeats 8000000 in
set_option maxRecDepth 100000 in
theorem tag_c (s : ByteArray) (a : Int) (hs : s.size ≤ 65536) (h0 : 0 ≤ a) (h1 : a + 1 ≤ (s.size : Int)) (w : World) : Calls Tryz.prog 95 #[.string s, .int .i64 a] w (TP (tagP s a) w) := by
 obtain ⟨P, hP⟩ : ∃ P, tagP s a = P := ⟨_, rfl⟩
 rw [hP]
 unfold tagP at hP
 obtain ⟨E, hE⟩ : ∃ E, nameEndP s.data.toList (a + 1) = E := ⟨_, rfl⟩
 have hsz : s.data.toList.length = s.size := (Lib.size_eq s).symm
 have hE1 := nameEndP_in s.data.toList (a + 1) (by omega) (by omega)
 rw [hE] at hE1
 simp only [hE] at hP
 have H1 := nameC hs hE
 have e1 : IntKind.i64.wrap (a + 1) = a + 1 := wr64 (by omega) (by omega)
 by_cases c1 : E = a + 1
 ·have q1 : (E == a + 1) = true := by simpa using c1
  rw [if_pos c1] at hP
  have HP := Lib.hid hP
  clear hP hE1 hE c1 hsz
  go_enter Tryz.func95, Tryz.ntmps95
  go_wp2_with (go_at_call 53; refine (H1 _).mono ?_; rintro e w' ⟨rfl, n2, rfl⟩)
  go_ret2
  exact TP.no HP.out (pw_below_drewN (Below.refl _ _) _)
 have q1 : (E == a + 1) = false := by simpa using c1
 rw [if_neg c1] at hP
 have p1 : ((0 : Int) ≤ a + 1) = True := eq_true (by omega)
 have p2 : (a + 1 ≤ E) = True := eq_true (by omega)
 have p3 : (E ≤ (s.size : Int)) = True := eq_true (by omega)
 have HP := Lib.hid (show 0 ≤ E ∧ E ≤ (s.size : Int) ∧ (1 : Int) ≤ E ∧ (s.size : Int) - E < (s.size + 1 : Nat) ∧ attrsF s (s.size + 1) E [⟨1, a, E, partB s (a + 1) E, ⟨#[]⟩⟩] = P from ⟨by omega, by omega, by omega, by omega, hP⟩)
 clear hP hE1 hE c1 hsz
 go_enter Tryz.func95, Tryz.ntmps95
 go_wp2_with (go_at_call 53; refine (H1 _).mono ?_; rintro e w' ⟨rfl, n2, rfl⟩)
 clear p1 p2 p3 q1 e1 H1
 go_loopw [7] (fun v7 wr => ∃ (l : List Tok) (t : Tok) (k : Nat), Hid (0 ≤ t.f2 ∧ t.f2 ≤ (s.size : Int) ∧ ((l ++ [t]).length : Int) ≤ t.f2 ∧ (s.size : Int) - t.f2 < k ∧ attrsF s k t.f2 (l ++ [t]) = P) ∧ Hid (Kd.R k51 51 wr w.heap.size (fun _ => True) v7 (l ++ [t])) ∧ Hid (Below w.heap.size w wr)) (fun v7 wr => s.size + 1 - lenV v7)
 case atStart => exact ⟨[], ⟨1, a, E, partB s (a + 1) E, ⟨#[]⟩⟩, s.size + 1, HP, Lib.hid (lit_R (pw_below_drewN (Below.refl w.heap.size w) n2).size _), Lib.hid (below_alloc (pw_below_drewN (Below.refl _ _) _) _)⟩
 case round =>
  clear HP
  obtain ⟨l, t, k, HX, HR, HB⟩ := hrel
  obtain ⟨A7, c7, rfl⟩ := Kd.R_slice HR.out
  obtain ⟨x0, x1, x2, x3, x4⟩ := HX.out
  obtain ⟨k, rfl⟩ : ∃ j, k = j + 1 := ⟨k - 1, by omega⟩
  have hlen : (l ++ [t]).length = l.length + 1 := by rw [List.length_append, List.length_singleton]
  obtain ⟨ad, hA, -, -, r2, -, -⟩ := at_T51 (Kd.R_reads' HR.out).2.2 (l.length : Int) (by omega) (by omega)
  subst hA
  have hrd := rd_last l t (by omega)
  have hcw : wrap64 (((l ++ [t]).length : Int) - 1) = (l.length : Int) := by rw [hlen, cwr _ (by omega) (by omega)]; omega
  rw [hcw] at hrd
  rw [hrd, Int.toNat_natCast] at r2
  obtain ⟨n, hn⟩ : ∃ n, (l ++ [t]).length = n := ⟨_, rfl⟩
  have e2 : IntKind.i64.wrap ((n : Int) - 1) = (l.length : Int) := by rw [wr64 (by omega) (by omega)]; omega
  obtain ⟨A, hAf⟩ : ∃ A, t.f2 = A := ⟨_, rfl⟩
  rw [hAf] at r2 x0 x1 x2 x3 x4
  obtain ⟨I, hI⟩ : ∃ I, skipP s.data.toList A = I := ⟨_, rfl⟩
  have hsz : s.data.toList.length = s.size := (Lib.size_eq s).symm
  have hI1 := skipP_in s.data.toList A x0 (by omega)
  rw [hI] at hI1
  have h1 := skipC hs hI
  obtain ⟨b1, hb1⟩ : ∃ b1, standsB s I ⟨#[62]⟩ = b1 := ⟨_, rfl⟩
  obtain ⟨b2, hb2⟩ : ∃ b2, standsB s I ⟨#[47, 62]⟩ = b2 := ⟨_, rfl⟩
  have h2 := begC (i := I) (by omega) (by omega) (by decide) (by decide) hb1
  have h3 := begC (i := I) (by omega) (by omega) (by decide) (by decide) hb2
  obtain ⟨⟨ax, ay, az, au, av, ab⟩, hsame, h4⟩ := attr_c s A hs x0 x1
  unfold attrsF at x4
  rw [hI, hb1, hb2] at x4
  have e3 : IntKind.i64.wrap (I + 1) = I + 1 := wr64 (by omega) (by omega)
  have e4 : IntKind.i64.wrap (I + 2) = I + 2 := wr64 (by omega) (by omega)
  have p1 : ((0 : Int) ≤ (l.length : Int)) = True := eq_true (by omega)
  have p2 : ((l.length : Int) < (n : Int)) = True := eq_true (by omega)
  have hcase : (b1 = true ∧ some (l ++ [t] ++ [(⟨3, I, I + 1, ⟨#[]⟩, ⟨#[]⟩⟩ : Tok)], I + 1) = P) ∨ (b1 = false ∧ b2 = true ∧ some (l ++ [t] ++ [(⟨4, I, I + 2, ⟨#[]⟩, ⟨#[]⟩⟩ : Tok)], I + 2) = P) ∨ (b1 = false ∧ b2 = false ∧ ab = false ∧ none = P) ∨ (b1 = false ∧ b2 = false ∧ ab = true ∧ Hid (0 ≤ az ∧ az ≤ (s.size : Int) ∧ ((l ++ [t] ++ [(⟨ax, ay, az, au, av⟩ : Tok)]).length : Int) ≤ az ∧ (s.size : Int) - az < k ∧ attrsF s k az (l ++ [t] ++ [⟨ax, ay, az, au, av⟩]) = P)) := by
   cases hb : b1
   ·rw [hb, if_neg (by decide)] at x4
    right
    cases hc : b2
    ·rw [hc, if_neg (by decide)] at x4
     right
     cases hA : attrP s A with
     | none => rw [hA] at x4 hsame; exact .inl ⟨rfl, rfl, hsame, x4⟩
     | some v =>
      obtain ⟨new, a'⟩ := v
      rw [hA] at x4 hsame
      obtain ⟨e5, e6, e7⟩ := hsame
      have hroom := attr_room s A x0 x1 new a' hA
      simp only at e5 e6 e7
      subst e5 e7
      exact .inr ⟨rfl, rfl, e6, Lib.hid ⟨by omega, hroom.2.1, by rw [List.length_append, hlen, List.length_singleton]; rw [hlen] at x2; omega, by omega, x4⟩⟩
    ·rw [hc, if_pos rfl] at x4
     exact .inl ⟨rfl, rfl, x4⟩
   ·rw [hb, if_pos rfl] at x4
    exact .inl ⟨rfl, x4⟩
  have HL := Lib.hid (show (l ++ [t]).length ≤ 1000000 by omega)
  have HS := Lib.hid (show n = l.length + 1 ∧ l.length + 1 ≤ s.size ∧ (l ++ [t]).length = n from ⟨by omega, by omega, hn⟩)
  obtain ⟨m, hm⟩ : ∃ m, l.length = m := ⟨_, rfl⟩
  rw [hn] at HR ⊢
  rw [hm] at r2 e2 p1 p2 HS
  clear hlen hm hn
  clear hI1 hI hb1 hb2 hsame x0 x1 x2 x3 x4 hAf hcw hrd hsz HX
  rcases hcase with ⟨rfl, hp⟩ | ⟨rfl, rfl, hp⟩ | ⟨rfl, rfl, rfl, hp⟩ | ⟨rfl, rfl, rfl, hp⟩
  ·have HP := Lib.hid hp
   clear hp h3 h4 e4
   go_wp2_with (first | (go_at_call 67; refine (h1 _).mono ?_; rintro e w' ⟨rfl, n1, rfl⟩) | (go_at_call 93; (with_reducible first | refine (h2 _).mono ?_ | refine (h3 _).mono ?_); rintro e w' ⟨rfl, n3, rfl⟩) | (at_builtin; refine app_t ⟨3, I, I + 1, ⟨#[]⟩, ⟨#[]⟩⟩ (.tmp 42) (.tmp 47) rfl rfl rfl rfl (Kd.R_drewN HR.out _) (pw_below_drewN HB.out _) HL.out ?_; intro v1 w2 ho hb; have HO := Lib.hid ho; have HB2 := Lib.hid hb; clear ho hb))
   go_ret2
   exact TP.yes HP.out HO.out HB2.out
  ·have HP := Lib.hid hp
   clear hp h4 e3
   go_wp2_with (first | (go_at_call 67; refine (h1 _).mono ?_; rintro e w' ⟨rfl, n1, rfl⟩) | (go_at_call 93; (with_reducible first | refine (h2 _).mono ?_ | refine (h3 _).mono ?_); rintro e w' ⟨rfl, n3, rfl⟩) | (at_builtin; refine app_t ⟨4, I, I + 2, ⟨#[]⟩, ⟨#[]⟩⟩ (.tmp 52) (.tmp 57) rfl rfl rfl rfl (Kd.R_drewN HR.out _) (pw_below_drewN HB.out _) HL.out ?_; intro v1 w2 ho hb; have HO := Lib.hid ho; have HB2 := Lib.hid hb; clear ho hb))
   go_ret2
   exact TP.yes HP.out HO.out HB2.out
  ·have HP := Lib.hid hp
   clear hp e3 e4
   go_wp2_with (first | (go_at_call 67; refine (h1 _).mono ?_; rintro e w' ⟨rfl, n1, rfl⟩) | (go_at_call 93; (with_reducible first | refine (h2 _).mono ?_ | refine (h3 _).mono ?_); rintro e w' ⟨rfl, n3, rfl⟩) | (go_at_call 117; refine (h4 _).mono ?_; rintro e w9 ⟨rfl, hb9⟩; have HB9 := Lib.hid (below_step (pw_below_drewN HB.out _) hb9); clear hb9))
   go_ret2
   exact TP.no HP.out (below_alloc HB9.out _)
  ·clear e3 e4
   go_wp2_with (first | (go_at_call 67; refine (h1 _).mono ?_; rintro e w' ⟨rfl, n1, rfl⟩) | (go_at_call 93; (with_reducible first | refine (h2 _).mono ?_ | refine (h3 _).mono ?_); rintro e w' ⟨rfl, n3, rfl⟩) | (go_at_call 117; refine (h4 _).mono ?_; rintro e w9 ⟨rfl, hb9⟩; have HR9 := Lib.hid (Kd.R_alloc (Kd.R_below (Kd.R_drewN HR.out _) hb9) (.cells #[.int .i64 ax, .int .i64 ay, .int .i64 az, .string au, .string av] 51)); have HB9 := Lib.hid (below_alloc (below_step (pw_below_drewN HB.out _) hb9) (.cells #[.int .i64 ax, .int .i64 ay, .int .i64 az, .string au, .string av] 51)); clear hb9) | (at_builtin; refine app_t ⟨ax, ay, az, au, av⟩ (.tmp 67) (.tmp 69) rfl rfl rfl rfl HR9.out HB9.out HL.out ?_; intro v1 w2 ho hb; have HO := Lib.hid ho; have HB2 := Lib.hid hb; clear ho hb))
   obtain ⟨e5, e6, e7⟩ := HS.out
   obtain ⟨A8, c8, rfl⟩ := Kd.R_slice HO.out
   go_roundw
   case rel => exact ⟨l ++ [t], ⟨ax, ay, az, au, av⟩, k, hp, HO, HB2⟩
   case measure => simp [lenV] at *; omega
end Go.Proofs.YtlhhhlimjajnlaaGreat.P12
end
section
set_option linter.unusedVariables false
set_option linter.unusedSimpArgs false
namespace Go.Proofs.YtlhhhlimjajnlaaGreat.P12
open Go Go.RowKit Go.Proofs.YtlhhhlimjajnlaaGreat Go.Proofs.YtlhhhlimjajnlaaGreat.Q Go.Proofs.YtlhhhlimjajnlaaGreatW.PrintWords Go.Proofs.YtlhhhlimjajnlaaGreatW.PrintLast Go.Proofs.YtlhhhlimjajnlaaGreatW.PrintMore Go.Proofs.YtlhhhlimjajnlaaGreat.X Go.Proofs.YtlhhhlimjajnlaaGreat.P11
attribute [local go_sem] max2_int min2_int max_two min_two   
abbrev PO := Option (List Tok × Int)
abbrev cm : ByteArray := ⟨#[60, 33, 45, 45]⟩
abbrev cd : ByteArray := ⟨#[60, 33, 91, 67, 68, 65, 84, 65, 91]⟩
def PW1 (s : ByteArray) (a : Int) (P : PO) : Prop := IntKind.i64.wrap (a + 4) = a + 4 ∧ ∃ T, FindC s (a + 4) ⟨#[45, 45]⟩ T ∧ ((T < 0) = True ∧ none = P ∨ (T < 0) = False ∧ ∃ b, BegC s T ⟨#[45, 45, 62]⟩ b ∧ (b = false ∧ none = P ∨ b = true ∧ IntKind.i64.wrap (T + 3) = T + 3 ∧ ((0 : Int) ≤ a + 4) = True ∧ (a + 4 ≤ T) = True ∧ (T ≤ (s.size : Int)) = True ∧ some ([(⟨7, a, T + 3, ⟨#[]⟩, s.extract (a + 4).toNat T.toNat⟩ : Tok)], T + 3) = P))
def PW2 (s : ByteArray) (a : Int) (P : PO) : Prop := IntKind.i64.wrap (a + 9) = a + 9 ∧ ∃ T, FindC s (a + 9) ⟨#[93, 93, 62]⟩ T ∧ ((T < 0) = True ∧ none = P ∨ (T < 0) = False ∧ IntKind.i64.wrap (T + 3) = T + 3 ∧ ((0 : Int) ≤ a + 9) = True ∧ (a + 9 ≤ T) = True ∧ (T ≤ (s.size : Int)) = True ∧ some ([(⟨6, a, T + 3, ⟨#[]⟩, s.extract (a + 9).toNat T.toNat⟩ : Tok)], T + 3) = P)
def PW3 (s : ByteArray) (a : Int) (P : PO) : Prop := IntKind.i64.wrap (a + 2) = a + 2 ∧ ∃ E I, NameC s (a + 2) E ∧ SkipC s E I ∧ ((E == a + 2) = true ∧ none = P ∨ (E == a + 2) = false ∧ ∃ b, BegC s I ⟨#[62]⟩ b ∧ (b = false ∧ none = P ∨ b = true ∧ IntKind.i64.wrap (I + 1) = I + 1 ∧ ((0 : Int) ≤ a + 2) = True ∧ (a + 2 ≤ E) = True ∧ (E ≤ (s.size : Int)) = True ∧ some ([(⟨5, a, I + 1, s.extract (a + 2).toNat E.toNat, ⟨#[]⟩⟩ : Tok)], I + 1) = P))
def PW5 (s : ByteArray) (a : Int) (P : PO) : Prop := ∃ T E, FindC s a ⟨#[60]⟩ T ∧ ((T < 0) = True ∧ (s.size : Int) = E ∨ (T < 0) = False ∧ T = E) ∧ ((0 : Int) ≤ a) = True ∧ (a ≤ E) = True ∧ (E ≤ (s.size : Int)) = True ∧ ∃ v b, DecC (s.extract a.toNat E.toNat) v b ∧ (b = false ∧ none = P ∨ b = true ∧ some ([(⟨6, a, E, ⟨#[]⟩, v⟩ : Tok)], E) = P)
def PW (s : ByteArray) (a : Int) (P : PO) : Prop := BegC s a cm true ∧ PW1 s a P ∨ BegC s a cm false ∧ (BegC s a cd true ∧ PW2 s a P ∨ BegC s a cd false ∧ (BegC s a ⟨#[60, 47]⟩ true ∧ PW3 s a P ∨ BegC s a ⟨#[60, 47]⟩ false ∧ (BegC s a ⟨#[60]⟩ true ∧ (∀ w, Calls Tryz.prog 95 #[.string s, .int .i64 a] w (TP P w)) ∨ BegC s a ⟨#[60]⟩ false ∧ PW5 s a P)))
theorem TP.one {w W : World} {p : PO} (b : Bool) (t : Tok) (h : b = false ∧ none = p ∨ b = true ∧ some ([t], t.f2) = p) (hb : Below w.heap.size w W) : TP p w (.returned (.tuple #[.slice (some ⟨W.heap.size, 0, none⟩) 1 1, .bool b])) (W.alloc (.cells #[.int .i64 t.f0, .int .i64 t.f1, .int .i64 t.f2, .string t.f3, .string t.f4] 51)) := by
 refine ⟨([t], b), _, rfl, lit_R hb.size t, ?_, below_alloc hb _⟩
 rcases h with ⟨rfl, rfl⟩ | ⟨rfl, rfl⟩
 ·rfl
 ·exact ⟨rfl, t, rfl, rfl⟩
set_option maxHeartbeats 8000000 in
set_option maxRecDepth 100000 in
theorem piece_go {s : ByteArray} {a : Int} {P : PO} (h : PW s a P) (w : World) : Calls Tryz.prog 66 #[.string s, .int .i64 a] w (TP P w) := by
 rcases h with ⟨h1, q1, T, h6, ⟨q2, hp⟩ | ⟨q2, b, h7, ⟨rfl, hp⟩ | ⟨rfl, q3, q4, q5, q6, hp⟩⟩⟩ | ⟨h1, ⟨h2, q1, T, h6, ⟨q2, hp⟩ | ⟨q2, q3, q4, q5, q6, hp⟩⟩ | ⟨h2, ⟨h3, q1, E, I, h8, h9, ⟨q2, hp⟩ | ⟨q2, b, h7, ⟨rfl, hp⟩ | ⟨rfl, q3, q4, q5, q6, hp⟩⟩⟩ | ⟨h3, ⟨h4, hp⟩ | ⟨h4, T, E, h6, ⟨q2, rfl⟩ | ⟨q2, rfl⟩, q4, q5, q6, v, b, h5, hp⟩⟩⟩⟩
 all_goals
  have HP := Lib.hid hp
  clear hp
  go_enter Tryz.func66, Tryz.ntmps66
  go_wp2_with (first | (go_at_call 93; (with_reducible first | refine (h1 _).mono ?_ | refine (h2 _).mono ?_ | refine (h3 _).mono ?_ | refine (h4 _).mono ?_ | refine (h7 _).mono ?_); rintro e w' ⟨rfl, n1, rfl⟩) | (go_at_call 94; refine (h6 _).mono ?_; rintro e w' ⟨rfl, n2, rfl⟩) | (go_at_call 53; refine (h8 _).mono ?_; rintro e w' ⟨rfl, n3, rfl⟩) | (go_at_call 67; refine (h9 _).mono ?_; rintro e w' ⟨rfl, n4, rfl⟩) | (go_at_call 96; refine (h5 _).mono ?_; rintro e w9 ⟨rfl, hb9⟩; have HB9 := Lib.hid (below_step (pw_below_drewN (Below.refl w.heap.size w) _) hb9); clear hb9) | (go_at_call 95; refine (HP.out _).mono ?_; rintro e w9 ⟨⟨r1, r2⟩, v, rfl, hr, hs, hb9⟩; have HT := Lib.hid hr; have HS := Lib.hid hs; have HB9 := Lib.hid (below_step (pw_below_drewN (Below.refl w.heap.size w) _) hb9); clear hr hs hb9))
  go_ret2
  first
  | exact TP.no HP.out (pw_below_drewN (Below.refl _ _) _)
  | exact TP.one true ⟨_, _, _, _, _⟩ (.inr ⟨rfl, HP.out⟩) (pw_below_drewN (Below.refl _ _) _)
  | exact TP.one b ⟨_, _, _, _, _⟩ HP.out HB9.out
  | exact ⟨(r1, r2), v, rfl, Kd.R_lower HT.out (Nat.le_of_eq (by simp)), HS.out, HB9.out⟩
theorem beg_or {s t : ByteArray} {a : Int} (h0 : 0 ≤ a) (h1 : a ≤ 4294967296) (ht : 0 < t.size) (hts : t.size ≤ 4294967296) {A B : Prop} (hA : standsB s a t = true → A) (hB : ¬ standsB s a t = true → B) : BegC s a t true ∧ A ∨ BegC s a t false ∧ B := by
 by_cases c : standsB s a t = true
 ·exact .inl ⟨begC h0 h1 ht hts c, hA c⟩
 ·exact .inr ⟨begC h0 h1 ht hts (by simpa using c), hB c⟩
theorem piece_C (s : ByteArray) (a : Int) (hs : s.size ≤ 65536) (h0 : 0 ≤ a) (h1 : a < (s.size : Int)) : PW s a (stepP s a) := by
 have hsz : s.data.toList.length = s.size := (Lib.size_eq s).symm
 refine beg_or h0 (by omega) (by decide) (by decide) (fun c1 => ?_) fun c1 => beg_or h0 (by omega) (by decide) (by decide) (fun c2 => ?_) fun c2 => beg_or h0 (by omega) (by decide) (by decide) (fun c3 => ?_) fun c3 => beg_or h0 (by omega) (by decide) (by decide) (fun c4 => ?_) fun c4 => ?_
 ·have hr := stands_room2 s a _ h0 (by decide) c1
  rw [show (cm.size : Int) = 4 from rfl] at hr
  have hP : stepP s a = commentP s.data.toList a := by unfold stepP; rw [if_pos c1]
  rw [hP]
  unfold commentP
  have hle := Lib.index_le (s.data.toList.drop (a.toNat + 4)) [45, 45]
  rw [List.length_drop] at hle
  have hT : findN s.data.toList (⟨#[45, 45]⟩ : ByteArray).data.toList (a + 4).toNat = if Lib.index (s.data.toList.drop (a.toNat + 4)) [45, 45] < 0 then -1 else a + 4 + Lib.index (s.data.toList.drop (a.toNat + 4)) [45, 45] := by
   unfold findN
   rw [show (a + 4).toNat = a.toNat + 4 from by omega, show (⟨#[45, 45]⟩ : ByteArray).data.toList = [45, 45] from rfl]
   split
   ·rfl
   ·omega
  obtain ⟨i, hi⟩ : ∃ i, Lib.index (s.data.toList.drop (a.toNat + 4)) [45, 45] = i := ⟨_, rfl⟩
  rw [hi] at hT hle
  simp only [hi]
  refine ⟨wr64 (by omega) (by omega), _, findC hs (by omega) (by omega) (by decide) (by decide) hT, ?_⟩
  by_cases c : i < 0
  ·rw [if_pos c, if_pos c]
   exact .inl ⟨eq_true (by omega), rfl⟩
  rw [if_neg c, if_neg c]
  have hst : standsB s (a + 4 + i) ⟨#[45, 45, 62]⟩ = Lib.hasPrefix ((s.data.toList.drop (a.toNat + 4)).drop i.toNat) [45, 45, 62] := by
   unfold standsB
   rw [List.drop_drop, show (a + 4 + i).toNat = a.toNat + 4 + i.toNat from by omega]
  refine .inr ⟨eq_false (by omega), _, begC (by omega) (by omega) (by decide) (by decide) hst, ?_⟩
  cases hb : Lib.hasPrefix ((s.data.toList.drop (a.toNat + 4)).drop i.toNat) [45, 45, 62]
  ·exact .inl ⟨rfl, by rw [if_neg (by decide)]⟩
  ·refine .inr ⟨rfl, wr64 (by omega) (by omega), eq_true (by omega), eq_true (by omega), eq_true (by omega), ?_⟩
   rw [if_pos rfl, part_eq s (a + 4) (a + 4 + i) (by omega) ((s.data.toList.drop (a.toNat + 4)).take i.toNat) (by rw [show (a + 4).toNat = a.toNat + 4 from by omega]; congr 1; omega) (by omega)]
 ·have hr := stands_room2 s a _ h0 (by decide) c2
  rw [show (cd.size : Int) = 9 from rfl] at hr
  have hP : stepP s a = plainP s.data.toList a := by unfold stepP; rw [if_neg c1, if_pos c2]
  rw [hP]
  unfold plainP
  have hcf := cut_find s.data.toList [93, 93, 62] (a + 9).toNat
  obtain ⟨T, hT⟩ : ∃ T, findN s.data.toList [93, 93, 62] (a + 9).toNat = T := ⟨_, rfl⟩
  rw [hT] at hcf
  refine ⟨wr64 (by omega) (by omega), T, findC hs (by omega) (by omega) (by decide) (by decide) hT, ?_⟩
  rw [show (a + 9).toNat = a.toNat + 9 from by omega] at hcf
  obtain ⟨c, hc⟩ : ∃ c, Lib.cut (s.data.toList.drop (a.toNat + 9)) [93, 93, 62] = c := ⟨_, rfl⟩
  rw [hc] at hcf
  simp only [hc]
  by_cases c5 : T < 0
  ·have e5 : ¬ c.2.2 = true := by rw [hcf.1, decide_eq_false (by omega)]; decide
   rw [if_neg e5]
   exact .inl ⟨eq_true c5, rfl⟩
  ·have e5 : c.2.2 = true := by rw [hcf.1, decide_eq_true (by omega)]
   obtain ⟨hT1, hc1⟩ := hcf.2 (by omega)
   have hcl : (c.1.length : Int) ≤ (s.size : Int) - (a + 9) := by
    rw [hc1, List.length_take, List.length_drop]; omega
   rw [if_pos e5]
   refine .inr ⟨eq_false c5, wr64 (by omega) (by omega), eq_true (by omega), eq_true (by omega), eq_true (by omega), ?_⟩
   rw [part_eq s (a + 9) T (by omega) c.1 (by rw [show (a + 9).toNat = a.toNat + 9 from by omega, hc1]; congr 1; omega) (by omega), show T + 3 = a + 9 + (c.1.length : Int) + 3 from by omega]
 ·have hr := stands_room2 s a _ h0 (by decide) c3
  rw [show ((⟨#[60, 47]⟩ : ByteArray).size : Int) = 2 from rfl] at hr
  have hP : stepP s a = closingP s a := by unfold stepP; rw [if_neg c1, if_neg c2, if_pos c3]
  rw [hP]
  unfold closingP
  obtain ⟨E, hE⟩ : ∃ E, nameEndP s.data.toList (a + 2) = E := ⟨_, rfl⟩
  obtain ⟨T, hT⟩ : ∃ T, skipP s.data.toList E = T := ⟨_, rfl⟩
  have hE1 := nameEndP_in s.data.toList (a + 2) (by omega) (by omega)
  rw [hE] at hE1
  have hT1 := skipP_in s.data.toList E (by omega) (by omega)
  rw [hT] at hT1
  simp only [hE, hT]
  refine ⟨wr64 (by omega) (by omega), E, T, nameC hs hE, skipC hs hT, ?_⟩
  by_cases c : E = a + 2
  ·rw [if_pos c]
   exact .inl ⟨by simpa using c, rfl⟩
  rw [if_neg c]
  refine .inr ⟨beq_eq_false_iff_ne.2 c, _, begC (by omega) (by omega) (by decide) (by decide) rfl, ?_⟩
  cases hb : standsB s T ⟨#[62]⟩
  ·exact .inl ⟨rfl, by rw [if_neg (by decide)]⟩
  ·exact .inr ⟨rfl, wr64 (by omega) (by omega), eq_true (by omega), eq_true (by omega), eq_true (by omega), by rw [if_pos rfl]; rfl⟩
 ·have hP : stepP s a = tagP s a := by unfold stepP; rw [if_neg c1, if_neg c2, if_neg c3, if_pos c4]
  rw [hP]
  exact fun w => tag_c s a hs h0 (by omega) w
 have hP : stepP s a = textP s.data.toList a := by unfold stepP; rw [if_neg c1, if_neg c2, if_neg c3, if_neg c4]
 rw [hP]
 unfold textP
 have hcf := cut_find s.data.toList [60] a.toNat
 obtain ⟨T, hT⟩ : ∃ T, findN s.data.toList [60] a.toNat = T := ⟨_, rfl⟩
 obtain ⟨c, hc⟩ : ∃ c, Lib.cut (s.data.toList.drop a.toNat) [60] = c := ⟨_, rfl⟩
 rw [hT, hc] at hcf
 simp only [hc]
 have hcl : c.1.length ≤ (s.data.toList.drop a.toNat).length := by rw [← hc]; exact cut_le _ _
 rw [List.length_drop] at hcl
 have hE : ((T < 0) = True ∧ (s.size : Int) = a + (c.1.length : Int) ∨ (T < 0) = False ∧ T = a + (c.1.length : Int)) ∧ (s.extract a.toNat (a + (c.1.length : Int)).toNat).data.toList = c.1 := by
  by_cases c5 : T < 0
  ·have hcu : c.1 = s.data.toList.drop a.toNat := by
    rw [← hc]
    unfold Lib.cut
    rw [if_neg]
    intro hi
    have : (Lib.cut (s.data.toList.drop a.toNat) [60]).2.2 = true := by unfold Lib.cut; rw [if_pos hi]
    rw [hc, hcf.1, decide_eq_true_eq] at this
    omega
   have hlen : (s.size : Int) = a + (c.1.length : Int) := by rw [hcu, List.length_drop]; omega
   exact ⟨.inl ⟨eq_true c5, hlen⟩, by rw [← hlen, Lib.extract_data, hcu, List.take_of_length_le (by rw [List.length_drop]; omega)]⟩
  ·obtain ⟨hT1, hc1⟩ := hcf.2 (by omega)
   have hTa : T = a + (c.1.length : Int) := by omega
   have hx : (s.extract a.toNat T.toNat).data.toList = c.1 := by rw [Lib.extract_data, hc1]; congr 1; omega
   exact ⟨.inr ⟨eq_false c5, hTa⟩, by rw [← hTa]; exact hx⟩
 obtain ⟨hE, hR⟩ := hE
 have hRs : (s.extract a.toNat (a + (c.1.length : Int)).toNat).size ≤ 65536 := by rw [Lib.size_eq, hR]; omega
 refine ⟨T, _, findC hs h0 (by omega) (by decide) (by decide) hT, hE, eq_true h0, eq_true (by omega), eq_true (by omega), _, _, decC hRs rfl, ?_⟩
 rw [hR]
 cases hd : dec c.1 with
 | none => exact .inl ⟨rfl, rfl⟩
 | some v =>
  have hv : (⟨#[]⟩ : ByteArray) ++ (⟨v.toArray⟩ : ByteArray) = ⟨v.toArray⟩ := by
   apply ByteArray.ext; apply Array.ext'; simp [ByteArray.data_append]
  refine .inr ⟨rfl, ?_⟩
  show some ([(⟨6, a, _, _, (⟨#[]⟩ : ByteArray) ++ (⟨v.toArray⟩ : ByteArray)⟩ : Tok)], _) = _
  rw [hv]
theorem piece_c (s : ByteArray) (a : Int) (hs : s.size ≤ 65536) (h0 : 0 ≤ a) (h1 : a < (s.size : Int)) (w : World) : Calls Tryz.prog 66 #[.string s, .int .i64 a] w (TP (stepP s a) w) := piece_go (piece_C s a hs h0 h1) w
theorem lex_end {l : List Tok} {n : Nat} (hn : l.length = n) {t : Tok} (ht : l.getLast? = some t) (h : n ≤ 4294967296) {W : World} {A : Option Addr} (hC : Kd.C k51 W A n l) : ∃ (ad : Addr) (m : Nat), A = some ad ∧ IntKind.i64.wrap ((n : Int) - 1) = (m : Int) ∧ ((0 : Int) ≤ (m : Int)) = True ∧ ((m : Int) < (n : Int)) = True ∧ W.cell? ⟨(ad.add (m * 5)).block, (ad.add (m * 5)).off + 2, none⟩ = some (.int .i64 t.f2) := by
 obtain ⟨pre, rfl⟩ := List.getLast?_eq_some_iff.1 ht
 rw [List.length_append, List.length_singleton] at hn
 obtain ⟨ad, hA, -, -, r2, -, -⟩ := at_T51 hC (pre.length : Int) (by omega) (by omega)
 have hrd : rd_T51 (pre ++ [t]) (pre.length : Int) = t := by unfold rd_T51; rw [Int.toNat_natCast]; simp
 rw [hrd, Int.toNat_natCast] at r2
 exact ⟨ad, pre.length, hA, by rw [wr64 (by omega) (by omega)]; omega, eq_true (by omega), eq_true (by omega), r2⟩
def LP (p : List Tok × Int) (w : World) (e : Ending) (w' : World) : Prop := ∃ v : Value, e = .returned (.tuple #[v, .int .i64 p.2]) ∧ Kd.R k51 51 w' w.heap.size (fun _ => True) v p.1 ∧ Below w.heap.size w w'
theorem LP.no {w w' : World} {p : List Tok × Int} {n : Int} (h : ([], n) = p) (hb : Below w.heap.size w w') : LP p w (.returned (.tuple #[.slice none 0 0, .int .i64 n])) w' := by
 subst h
 exact ⟨_, rfl, Kd.R_nil _ _ _ _ _, hb⟩
set_option maxHeartbeats 8000000 in
set_option maxRecDepth 100000 in
theorem lexref_c (s : ByteArray) (w : World) : Calls Tryz.prog 32 #[.string s] w (LP (lexV s) w) := by
 obtain ⟨P, hP⟩ : ∃ P, lexV s = P := ⟨_, rfl⟩
 rw [hP]
 unfold lexV at hP
 by_cases c1 : (65536 : Int) < (s.size : Int)
 ·rw [if_pos c1] at hP
  have HP := Lib.hid hP
  have q1 : ((65536 : Int) < (s.size : Int)) = True := eq_true c1
  clear hP c1
  go_enter Tryz.func32, Tryz.ntmps32
  go_wp2
  go_ret2
  exact LP.no HP.out (Below.refl _ _)
 rw [if_neg c1] at hP
 have q1 : ((65536 : Int) < (s.size : Int)) = False := eq_false c1
 have hv := fun W => R1_Valid.calls _ s _ W (ref_valid_f s (by omega) 0)
 obtain ⟨b, hb⟩ : ∃ b, validL s.data.toList = b := ⟨_, rfl⟩
 rw [hb] at hv hP
 have HV := Lib.hid hv
 have HS := Lib.hid (show s.size ≤ 65536 by omega)
 have HP := Lib.hid hP
 clear hv hP hb c1
 cases b
 ·go_enter Tryz.func32, Tryz.ntmps32
  go_wp2_with (go_at_call 65; refine (HV.out _).mono ?_; rintro e w1 ⟨rfl, hb1⟩; have HB := Lib.hid hb1; clear hb1)
  go_ret2
  exact LP.no HP.out HB.out
 have HQ := Lib.hid (show (match lexF s (s.size + 1) 0 [] with | some l => (l, 0) | none => ([], 15)) = P from HP.out)
 clear HP
 go_enter Tryz.func32, Tryz.ntmps32
 go_wp2_with (go_at_call 65; refine (HV.out _).mono ?_; rintro e w1 ⟨rfl, hb1⟩; have HB := Lib.hid hb1; clear hb1)
 clear q1 HV
 go_loopw [5, 6] (fun v5 v6 wr => ∃ (l : List Tok) (a : Int) (k : Nat), v6 = .int .i64 a ∧ Hid (0 ≤ a ∧ a ≤ (s.size : Int) ∧ (l.length : Int) ≤ a ∧ (s.size : Int) - a < k ∧ (match lexF s k a l with | some l => (l, (0 : Int)) | none => ([], 15)) = P) ∧ Hid (Kd.R k51 51 wr w.heap.size (fun _ => True) v5 l) ∧ Hid (Below w.heap.size w wr)) (fun v5 v6 wr => s.size - (intOf v6).toNat)
 case atStart => exact ⟨[], 0, s.size + 1, rfl, Lib.hid ⟨by omega, by omega, by simp, by omega, HQ.out⟩, Lib.hid (Kd.R_nil _ _ _ _ _), HB⟩
 case round =>
  clear HQ HB
  obtain ⟨l, a, k, rfl, HX, HR, HB⟩ := hrel
  obtain ⟨x0, x1, x2, x3, x4⟩ := HX.out
  obtain ⟨k, rfl⟩ : ∃ j, k = j + 1 := ⟨k - 1, by omega⟩
  unfold lexF at x4
  by_cases hlt : a < (s.size : Int)
  ·rw [if_pos hlt] at x4
   have q1 : (a < (s.size : Int)) = True := eq_true hlt
   have hpc := fun W => piece_c s a HS.out x0 hlt W
   cases hst : stepP s a with
   | none =>
    rw [hst] at x4 hpc
    have HP := Lib.hid x4
    have HPC := Lib.hid hpc
    clear hpc x0 x1 x2 x3 x4 hlt hst HX
    go_wp2_with (go_at_call 66; refine (HPC.out _).mono ?_; rintro e w2 ⟨⟨r1, r2⟩, v, rfl, hr, hs2, hb2⟩; obtain rfl : r2 = false := hs2; have HB2 := Lib.hid (below_step HB.out hb2); clear hr hb2)
    go_ret2
    exact LP.no HP.out HB2.out
   | some p =>
    obtain ⟨new, a'⟩ := p
    have hroom := step_room s a x0 hlt new a' hst
    rw [hst] at x4 hpc
    have HPC := Lib.hid hpc
    have HX2 := Lib.hid (show 0 ≤ a ∧ 0 ≤ a' ∧ a' ≤ (s.size : Int) ∧ ((l ++ new).length : Int) ≤ a' ∧ (s.size : Int) - a' < k ∧ a < a' ∧ (match lexF s k a' (l ++ new) with | some l => (l, (0 : Int)) | none => ([], 15)) = P from ⟨x0, by omega, hroom.2.1, zz39, by omega, hroom.1, x4⟩)
    have HLn := Lib.hid (show new.length ≤ 65536 ∧ (l.length + new.length) * 56 ≤ 140737488355328 by have := HS.out; omega)
    clear hpc x0 x1 x2 x3 x4 hlt hst hroom HX
    obtain ⟨A5, c5, rfl⟩ := Kd.R_slice HR.out
    obtain ⟨n9, hn9⟩ : ∃ n9, new.length = n9 := ⟨_, rfl⟩
    rw [hn9] at HLn
    go_wp2_with (first | (go_at_call 66; refine (HPC.out _).mono ?_; rintro e w2 ⟨⟨r1, r2⟩, v, rfl, hr, ⟨hs1, t, ht, hta⟩, hb2⟩; obtain ⟨rfl, rfl⟩ := Prod.mk.inj hs1; obtain ⟨A9, c9, e9⟩ := Kd.R_slice hr; rw [hn9] at e9; subst e9; have HO := Lib.hid (Kd.R_mono (Kd.R_elder' HR.out (Kd.R_base hr) hb2) (fun _ hk => hk.2)); have HP9 := Lib.hid (Kd.R_lower (Kd.R_new' hr (Kd.R_lt HR.out)) HB.out.size); have HB2 := Lib.hid (below_step HB.out hb2); have q2 : ((n9 : Int) == 0) = false := (by obtain ⟨pre, rfl⟩ := List.getLast?_eq_some_iff.1 ht; rw [List.length_append, List.length_singleton] at hn9; rw [beq_eq_false_iff_ne]; omega); have HTL := Lib.hid ht; have HTA := Lib.hid hta; clear hr hb2 hs1 ht hta) | (at_builtin; refine Kd.R_append_rows k51 (w0 := w) w.heap.size rfl (.tmp 33) (.tmp 34) 43 51 (.agg #[.int .i64 0, .int .i64 0, .int .i64 0, .string ⟨#[]⟩, .string ⟨#[]⟩]) 56 rfl Tryz.underlying43 info51 rfl (by decide) (by omega) (.slice A5 l.length c5) l r1 _ _ _ (fun k_ => some k_ ≠ (.slice A9 n9 c9 : Value).ownBlock) (fun _ => False) rfl rfl ?aO ?aR (fun _ _ h => h) (fun _ h => h.elim) ?aF ?aB ?aS ?aL ?_; (case aR => have := (Kd.R_reads' HP9.out).2.2; rw [hn9] at this; exact this); (case aB => exact HB2.out); (case aF => exact fun k_ hk => Kd.fresh' (Kd.R_lt HP9.out) k_ hk); (case aO => exact HO.out); (case aS => exact HB2.out.size); (case aL => exact HLn.out.2); intro v1 w3 ho hb hg hat; have hpr := (Kd.R_reads' (Kd.R_after (ok := fun _ => True) HP9.out hg hat)).2.2; rw [hn9] at hpr; have HO3 := Lib.hid (Kd.R_mono ho (fun _ _ => trivial)); have HB3 := Lib.hid hb; obtain ⟨ad, m, rfl, e2, p1, p2, r2⟩ := lex_end hn9 HTL.out (by have := HLn.out; omega) hpr; clear ho hb hg hat hpr))
    obtain ⟨z1, z2, z3, z4, z5, z6, z7⟩ := HX2.out
    have hta := HTA.out
    go_roundw
    case rel => exact ⟨l ++ r1, _, k, rfl, by rw [hta]; exact Lib.hid ⟨z2, z3, z4, z5, z7⟩, HO3, HB3⟩
    case measure => simp [intOf]; omega
  ·rw [if_neg hlt] at x4
   have q1 : (a < (s.size : Int)) = False := eq_false hlt
   have HP := Lib.hid x4
   clear x0 x1 x2 x3 x4 hlt HX
   go_wp2
   go_ret2
   rw [← HP.out]
   exact ⟨_, rfl, HR.out, HB.out⟩
end Go.Proofs.YtlhhhlimjajnlaaGreat.P12
end
section
set_option linter.unusedVariables false
set_option linter.unusedSimpArgs false
namespace Go.Proofs.YtlhhhlimjajnlaaGreat.P14
open Go.RowKit Go.Proofs.YtlhhhlimjajnlaaGreat Go.Proofs.YtlhhhlimjajnlaaGreat.Q Go.Proofs.YtlhhhlimjajnlaaGreatW.PrintWords Go.Proofs.YtlhhhlimjajnlaaGreat.X Go.Proofs.YtlhhhlimjajnlaaGreat.Ck Go.Proofs.YtlhhhlimjajnlaaGreat.P11
theorem evN {α : Type} {g : Nat → Option α} {r : α} (n : Nat) (h : ∀ k, g (k + n) = some r) : Ev g r := ⟨n, fun k hk => by rw [show k = (k - n) + n from by omega]; exact h _⟩
theorem evU {α : Type} {g f : Nat → Option α} {r : α} (n : Nat) (e : Ev f r) (h : ∀ k, g (k + n) = f k) : Ev g r := by
 obtain ⟨K, hK⟩ := e
 exact ⟨K + n, fun k hk => by rw [show k = (k - n) + n from by omega, h]; exact hK _ (by omega)⟩
theorem rdT (D : List Nod) (i : Nat) : rd_T41 D (i : Int) = D.getD i nz := rfl
theorem rdI (D : List Nod) (i : Int) : rd_T41 D i = D.getD i.toNat nz := rfl
theorem wrUp (i : Nat) (h : i ≤ 9000000000000000000) : wrap64 ((i : Int) + 1) = ((i + 1 : Nat) : Int) := by unfold wrap64; omega
theorem wrDown (i : Nat) (h : i ≤ 9000000000000000000) : wrap64 (((i + 1 : Nat) : Int) - 1) = (i : Int) := by unfold wrap64; omega
section
variable {N : List ByteArray} {D : List Nod}
end
section
variable {N : List ByteArray} {D : List Nod}
theorem take_get {i k : Nat} (hk : k < i) (hi : i ≤ D.length) : (D.take i).getD k nz = D.getD k nz := by
 rw [List.getD_eq_getElem?_getD, List.getD_eq_getElem?_getD, List.getElem?_take_of_lt hk]
theorem take_len {i : Nat} (hi : i ≤ D.length) : (D.take i).length = i := by rw [List.length_take]; omega
theorem take_one {i : Nat} (hi : i < D.length) : D.take (i + 1) = D.take i ++ [D.getD i nz] := by
 rw [List.take_add_one, List.getD_eq_getElem?_getD, List.getElem?_eq_getElem hi]; rfl
theorem drop_one {i : Nat} (hi : i < D.length) : D.drop i = D.getD i nz :: D.drop (i + 1) := by
 rw [List.drop_eq_getElem_cons hi, List.getD_eq_getElem?_getD, List.getElem?_eq_getElem hi]; rfl
theorem around_op {i : Nat} {op : List Int} (hi : i ≤ D.length) (h : Rw (D.take i) op) (p : Int) : ∀ (j : Nat) (z : Int), op[j]? = some z → Ev (fun k => R4_around.l0 k p z N D) (decide (p ∈ op.take (j + 1))) := by
 intro j
 induction j with
 | zero =>
  intro z hz
  obtain ⟨z1, z2, z3, z4⟩ := h.at hz
  rw [take_len hi] at z2
  rw [take_get z2 hi, if_pos rfl] at z4
  have ht : op.take (0 + 1) = [z] := by rw [List.take_add_one, hz]; simp
  rw [ht]
  by_cases e : z = p
  ·refine evN 1 fun k => ?_
   show R4_around.l0 (k + 1) p z N D = _
   rw [R4_around.l0, if_pos z1, if_pos e, e]; simp
  ·refine evN 2 fun k => ?_
   show R4_around.l0 (k + 1 + 1) p z N D = _
   rw [R4_around.l0, if_pos z1, if_neg e, if_pos z1, if_pos (by omega), rdI, z4, R4_around.l0, if_neg (by omega)]
   simp; exact fun e' => e e'.symm
 | succ j ih =>
  intro z hz
  obtain ⟨z1, z2, z3, z4⟩ := h.at hz
  rw [take_len hi] at z2
  rw [take_get z2 hi, if_neg (by omega), Nat.add_sub_cancel] at z4
  have hjl := (List.getElem?_eq_some_iff.1 hz).1
  have hg : op[j]? = some op[j] := List.getElem?_eq_getElem (by omega)
  rw [show op.getD j 0 = op[j] from by rw [List.getD_eq_getElem?_getD, hg]; rfl] at z4
  have ht : op.take (j + 1 + 1) = op.take (j + 1) ++ [z] := by rw [List.take_add_one, hz]; rfl
  by_cases e : z = p
  ·refine evN 1 fun k => ?_
   show R4_around.l0 (k + 1) p z N D = _
   rw [R4_around.l0, if_pos z1, if_pos e, ht, e]; simp
  ·have hd : decide (p ∈ op.take (j + 1 + 1)) = decide (p ∈ op.take (j + 1)) := by
    rw [ht, decide_eq_decide, List.mem_append, List.mem_singleton]
    exact ⟨fun h => h.resolve_right fun h => e h.symm, fun h => .inl h⟩
   rw [hd]
   refine evU 1 (ih _ hg) fun k => ?_
   show R4_around.l0 (k + 1) p z N D = _
   rw [R4_around.l0, if_pos z1, if_neg e, if_pos z1, if_pos (by omega), rdI, z4]
theorem depth_op {i : Nat} {op : List Int} (hi : i ≤ D.length) (h : Rw (D.take i) op) : ∀ (j : Nat) (z : Int) (n : Nat), n + j ≤ 1000000 → op[j]? = some z → Ev (fun k => R4_depth.l0 k z n N D) ((n + j : Nat) : Int) := by
 intro j
 induction j with
 | zero =>
  intro z n hn hz
  obtain ⟨z1, z2, z3, z4⟩ := h.at hz
  rw [take_len hi] at z2
  rw [take_get z2 hi, if_pos rfl] at z4
  refine evN 1 fun k => ?_
  show R4_depth.l0 (k + 1) z n N D = _
  rw [R4_depth.l0, if_pos z1, if_pos (by omega), rdI, z4, if_neg (by omega)]; rfl
 | succ j ih =>
  intro z n hn hz
  obtain ⟨z1, z2, z3, z4⟩ := h.at hz
  rw [take_len hi] at z2
  rw [take_get z2 hi, if_neg (by omega), Nat.add_sub_cancel] at z4
  have hjl := (List.getElem?_eq_some_iff.1 hz).1
  have hg : op[j]? = some op[j] := List.getElem?_eq_getElem (by omega)
  rw [show op.getD j 0 = op[j] from by rw [List.getD_eq_getElem?_getD, hg]; rfl] at z4
  obtain ⟨y1, -, -, -⟩ := h.at hg
  have hn1 : n ≤ 9000000000000000000 := by omega
  refine evU 1 (by rw [show n + (j + 1) = n + 1 + j from by omega]; exact ih op[j] (n + 1) (by omega) hg) fun k => ?_
  show R4_depth.l0 (k + 1) z n N D = _
  rw [R4_depth.l0, if_pos z1, if_pos (by omega), rdI, z4, if_pos y1, wrUp n hn1]
theorem depth_ev {i : Nat} {op : List Int} (hi : i < D.length) (h : Rw (D.take i) op) (hl : op.length ≤ 100000) {j : Nat} (hz : op[j]? = some (D.getD i nz).f2) : Ev (fun k => R4_depth.f k N D (i : Int)) ((j + 1 : Nat) : Int) := by
 obtain ⟨z1, z2, z3, z4⟩ := h.at hz
 have hjl := (List.getElem?_eq_some_iff.1 hz).1
 refine evU 1 (by rw [show j + 1 = 1 + j from by omega]; exact depth_op (N := N) (by omega) h j _ 1 (by omega) hz) fun k => ?_
 show R4_depth.l0 (k + 1) (i : Int) 0 N D = _
 rw [R4_depth.l0, if_pos (by omega), if_pos (by omega), rdT, if_pos z1, show wrap64 (0 + 1) = ((1 : Nat) : Int) from by unfold wrap64; omega]
theorem last_op {P : List Nod} {x : Nod} {op : List Int} (h : rows (prK (P ++ [x])) = some op) : ∃ o, op.getLast? = some o ∧ (x.f0 = 1 → o = (P.length : Int)) ∧ (¬ x.f0 = 1 → o = x.f2 ∧ 0 < P.length) := by
 rw [prK_app, show prK [x] = [(x, x.f1)] from rfl] at h
 obtain ⟨o, o', h1, h2, h3⟩ := rows_at (prK P) [] (x, x.f1) op h
 rw [h3] at h
 obtain rfl := Option.some.inj h
 obtain ⟨p1, p2⟩ := rows_path _ _ _ rfl h1
 unfold right at h2
 by_cases hl : prK P = []
 ·rw [if_pos hl] at h2
  have hP : P = [] := prK_nil.1 hl
  subst hP
  by_cases c : x.f0 = 1 ∧ x.f2 = -1
  ·rw [if_pos c] at h2
   obtain rfl := Option.some.inj h2
   exact ⟨0, rfl, fun _ => rfl, fun e => absurd c.1 e⟩
  ·rw [if_neg c] at h2; cases h2
 ·rw [if_neg hl] at h2
  have hpos : 0 < P.length := List.length_pos_iff.2 fun e => hl (prK_nil.2 e)
  by_cases hm : x.f2 ∈ o
  ·rw [if_pos hm] at h2
   simp only at h2
   have hlt := List.idxOf_lt_length_of_mem hm
   have hlast : (o.take (o.idxOf x.f2 + 1)).getLast? = some x.f2 := by
    rw [List.take_add_one, List.getElem?_eq_getElem hlt, List.getElem_idxOf]; simp
   split at h2
   ·rename_i c1
    split at h2
    ·cases h2
    ·obtain rfl := Option.some.inj h2
     refine ⟨_, List.getLast?_concat .., fun _ => by rw [prK_len], fun e => absurd c1 e⟩
   ·rename_i c1
    have : o' = o.take (o.idxOf x.f2 + 1) := by
     split at h2
     ·split at h2
      ·cases h2
      ·exact (Option.some.inj h2).symm
     ·split at h2
      ·cases h2
      ·exact (Option.some.inj h2).symm
    rw [this]
    exact ⟨_, hlast, fun e => absurd e c1, fun _ => ⟨rfl, hpos⟩⟩
  ·rw [if_neg hm] at h2; cases h2
theorem around_ev {i : Nat} {op : List Int} (hb : D.length ≤ 1000000) (hi : i < D.length) (h0 : 0 < i) (h : Rw (D.take i) op) {p : Int} (hp : (D.getD p.toNat nz).f0 = 1) (hp0 : 0 ≤ p) : Ev (fun k => R4_around.f k N D p (wrap64 ((i : Int) - 1))) (decide (p ∈ op)) := by
 obtain ⟨m, rfl⟩ : ∃ m, i = m + 1 := ⟨i - 1, by omega⟩
 have hbig : m ≤ 9000000000000000000 := by omega
 rw [wrDown m hbig]
 obtain ⟨o, l1, l2, l3⟩ := last_op (P := D.take m) (x := D.getD m nz) (op := op) (by rw [← take_one (by omega)]; exact h.r)
 rw [take_len (by omega)] at l2 l3
 have hne : 0 < op.length := by
  cases op with
  | nil => cases l1
  | cons a t => simp
 have hlast : op[op.length - 1]? = some o := by rw [← List.getLast?_eq_getElem?]; exact l1
 have hall : op.take (op.length - 1 + 1) = op := by rw [show op.length - 1 + 1 = op.length from by omega, List.take_length]
 have key := around_op (N := N) (by omega) h p _ o hlast
 rw [hall] at key
 unfold R4_around.f
 by_cases c1 : (D.getD m nz).f0 = 1
 ·rw [← l2 c1]; exact key
 ·obtain ⟨e1, e2⟩ := l3 c1
  refine evU 1 key fun k => ?_
  show R4_around.l0 (k + 1) p (m : Int) N D = _
  rw [R4_around.l0, if_pos (by omega), if_neg (fun e => c1 (by rw [← hp, ← e]; rfl)), if_pos (by omega), if_pos (by omega), rdT, e1]
end
def bef (D : List Nod) (p : Int) : Nat → Int
 | 0 => -1
 | m + 1 => if (m : Int) > p then (if (D.getD m nz).f2 = p then (m : Int) else bef D p m) else -1
theorem wrM (m : Nat) (h : m ≤ 9000000000000000000) : wrap64 ((m : Int) - 1) = (m : Int) - 1 := by unfold wrap64; omega
section
variable {N : List ByteArray} {D : List Nod}
theorem before_l {i : Nat} (hb : D.length ≤ 1000000) (hi : i < D.length) (hp : 0 ≤ (D.getD i nz).f2) : ∀ m : Nat, m ≤ i → Ev (fun k => R4_before.l0 k i ((m : Int) - 1) N D) (bef D (D.getD i nz).f2 m)
 | 0, _ => by
  refine evN 1 fun k => ?_
  show R4_before.l0 (k + 1) (i : Int) (((0 : Nat) : Int) - 1) N D = some (-1)
  rw [R4_before.l0, if_pos (by omega), if_pos (by omega), rdT, if_neg (by omega)]
 | m + 1, h => by
  have ih := before_l hb hi hp m (by omega)
  have em : ((m + 1 : Nat) : Int) - 1 = (m : Int) := by omega
  rw [em]
  unfold bef
  by_cases c : (m : Int) > (D.getD i nz).f2
  ·rw [if_pos c]
   by_cases c2 : (D.getD m nz).f2 = (D.getD i nz).f2
   ·rw [if_pos c2]
    refine evN 1 fun k => ?_
    show R4_before.l0 (k + 1) (i : Int) (m : Int) N D = _
    rw [R4_before.l0, if_pos (by omega), if_pos (by omega), rdT, if_pos c, if_pos (by omega), if_pos (by omega), rdT, if_pos c2]
   ·rw [if_neg c2]
    refine evU 1 ih fun k => ?_
    show R4_before.l0 (k + 1) (i : Int) (m : Int) N D = _
    rw [R4_before.l0, if_pos (by omega), if_pos (by omega), rdT, if_pos c, if_pos (by omega), if_pos (by omega), rdT, if_neg c2, wrM m (by omega)]
  ·rw [if_neg c]
   refine evN 1 fun k => ?_
   show R4_before.l0 (k + 1) (i : Int) (m : Int) N D = _
   rw [R4_before.l0, if_pos (by omega), if_pos (by omega), rdT, if_neg c]
theorem before_ev {i : Nat} (hb : D.length ≤ 1000000) (hi : i < D.length) (hp : 0 ≤ (D.getD i nz).f2) : Ev (fun k => R4_before.f k N D (i : Int)) (bef D (D.getD i nz).f2 i) := by
 unfold R4_before.f
 rw [wrM i (by omega)]
 exact before_l hb hi hp i (Nat.le_refl _)
theorem bef_kids {i : Nat} {op : List Int} (hi : i ≤ D.length) (h : Rw (D.take i) op) {p : Int} (hp : 0 ≤ p) : ∀ m : Nat, m ≤ i → (bef D p m = -1 ∧ kids (prK (D.take m)) p = []) ∨ ∃ b : Nat, b < m ∧ bef D p m = (b : Int) ∧ (kids (prK (D.take m)) p).getLast? = some (D.getD b nz, (D.getD b nz).f1)
 | 0, _ => .inl ⟨rfl, rfl⟩
 | m + 1, hm => by
  have ih := bef_kids hi h hp m (by omega)
  unfold bef
  by_cases c : (m : Int) > p
  ·rw [if_pos c, take_one (by omega), prK_app, show prK [D.getD m nz] = [(D.getD m nz, (D.getD m nz).f1)] from rfl, kids_snoc]
   by_cases c2 : (D.getD m nz).f2 = p
   ·rw [if_pos c2, if_pos c2]
    exact .inr ⟨m, by omega, rfl, List.getLast?_concat ..⟩
   ·rw [if_neg c2, if_neg c2]
    rcases ih with ih | ⟨b, h1, h2⟩
    ·exact .inl ih
    ·exact .inr ⟨b, by omega, h2⟩
  ·rw [if_neg c]
   refine .inl ⟨rfl, ?_⟩
   have hsp : prK (D.take i) = prK (D.take (m + 1)) ++ prK ((D.take i).drop (m + 1)) := by
    rw [← prK_app, show D.take (m + 1) = (D.take i).take (m + 1) from by rw [List.take_take, Nat.min_eq_left hm], List.take_append_drop]
   have hr := h.r
   rw [hsp] at hr
   obtain ⟨o, ho⟩ := rows_take _ _ _ hr
   cases hk : kids (prK (D.take (m + 1))) p with
   | nil => rfl
   | cons d t =>
    obtain ⟨j, h1, h2, -⟩ := kids_behind _ o ho p hp d (by rw [hk]; exact List.mem_cons_self ..)
    have := (List.getElem?_eq_some_iff.1 h1).1
    rw [prK_len, take_len (by omega)] at this
    omega
end
theorem right_in {l : List (Nd × Int)} {op : List Int} {m : Nd} {k : Int} (hl : ¬ l = []) (hm : m.f2 ∈ op) : right l op m k = (if m.f0 = 1 then (if 64 < (op.take (op.idxOf m.f2 + 1)).length then none else some (op.take (op.idxOf m.f2 + 1) ++ [(l.length : Int)]))
 else if m.f0 = 2 then (if more l m.f2 = true ∨ twice l m.f2 k = true then none else some (op.take (op.idxOf m.f2 + 1))) else if textLast l m.f2 = true then none else some (op.take (op.idxOf m.f2 + 1))) := by
 unfold right; rw [if_neg hl, if_pos hm]
theorem right_out {l : List (Nd × Int)} {op : List Int} {m : Nd} {k : Int} (hl : ¬ l = []) (hm : ¬ m.f2 ∈ op) : right l op m k = none := by
 unfold right; rw [if_neg hl, if_neg hm]
theorem attr_last : ∀ (n : Nat) (l : List (Nd × Int)) (op : List Int), l.length = n → rows l = some op → ∀ (p : Int) (c : Nd × Int), (kids l p).getLast? = some c → c.1.f0 = 2 → more l p = false
 | 0, l, op, hn, h, p, c, hc, h2 => by
  have : l = [] := List.eq_nil_of_length_eq_zero hn
  rw [this] at hc; cases hc
 | n + 1, l, op, hn, h, p, c, hc, h2 => by
  rcases List.eq_nil_or_concat l with h' | ⟨pre, d, h'⟩
  ·rw [h'] at hn; exact absurd hn (by simp)
  rw [List.concat_eq_append] at h'
  subst h'
  obtain ⟨o, o', h1, hr, h3⟩ := rows_at pre [] d op h
  have hpre : pre.length = n := by rw [List.length_append, List.length_singleton] at hn; omega
  rw [kids_snoc] at hc
  rw [more_snoc]
  by_cases e : d.1.f2 = p
  ·rw [if_pos e, List.getLast?_concat] at hc
   obtain rfl := Option.some.inj hc
   rw [if_pos e]
   have hm : more pre p = false := by
    by_cases hl : pre = []
    ·rw [hl]; rfl
    ·by_cases hmm : d.1.f2 ∈ o
     ·rw [right_in hl hmm, if_neg (show ¬ d.1.f0 = 1 from by omega), if_pos h2] at hr
      cases hmr : more pre p with
      | false => rfl
      | true => rw [if_pos (.inl (by rw [e]; exact hmr))] at hr; cases hr
     ·rw [right_out hl hmm] at hr; cases hr
   rw [hm]; simp [h2]
  ·rw [if_neg e] at hc
   rw [if_neg e]
   exact attr_last n pre o hpre h1 p c hc h2
section
variable {N : List ByteArray} {D : List Nod}
def dup (D : List Nod) (x : Nod) (k : Nat) : Prop := (D.getD k nz).f0 = 2 ∧ (D.getD k nz).f2 = x.f2 ∧ (D.getD k nz).f1 = x.f1
theorem dup_twice {i : Nat} {op : List Int} (hi : i ≤ D.length) (h : Rw (D.take i) op) {x : Nod} (hp : 0 ≤ x.f2) : twice (prK (D.take i)) x.f2 x.f1 = true ↔ ∃ k, k < i ∧ x.f2 < (k : Int) ∧ dup D x k := by
 unfold twice
 rw [List.any_eq_true]
 constructor
 ·rintro ⟨c, hc, h2⟩
  rw [Bool.and_eq_true, decide_eq_true_eq, decide_eq_true_eq] at h2
  obtain ⟨j, j1, j2, j3⟩ := kids_behind _ op h.r _ hp c hc
  have hj := (List.getElem?_eq_some_iff.1 j1).1
  rw [prK_len, take_len hi] at hj
  rw [prK_get _ _ (by rw [take_len hi]; exact hj), take_get hj hi] at j1
  obtain rfl := Option.some.inj j1
  exact ⟨j, hj, j2, h2.1, j3, h2.2⟩
 ·rintro ⟨k, k1, k2, k3, k4, k5⟩
  refine ⟨(D.getD k nz, (D.getD k nz).f1), ?_, by rw [Bool.and_eq_true, decide_eq_true_eq, decide_eq_true_eq]; exact ⟨k3, k5⟩⟩
  unfold kids
  rw [List.mem_filter]
  refine ⟨?_, by simpa using k4⟩
  have := prK_get (D.take i) k (by rw [take_len hi]; exact k1)
  rw [take_get k1 hi] at this
  exact List.mem_of_getElem? this
def okName (N : List ByteArray) (D : List Nod) (k : Nat) : Bool := (D.any fun x => decide (x.f1 = (k : Int))) && ((!(N.getD k ⟨#[]⟩).data.toList.isEmpty && (nameEndP (N.getD k ⟨#[]⟩).data.toList 0 == ((N.getD k ⟨#[]⟩).size : Int))) && (decide (k = 0) || decide ((N.getD (k - 1) ⟨#[]⟩).data.toList < (N.getD k ⟨#[]⟩).data.toList)))
theorem names_all : namesC N D = (List.range' 0 N.length).all (okName N D) := by
 unfold namesC; rw [List.range_eq_range']; rfl
end
end Go.Proofs.YtlhhhlimjajnlaaGreat.P14
end
section
set_option linter.unusedVariables false
set_option linter.unusedSimpArgs false
namespace Go.Proofs.YtlhhhlimjajnlaaGreat.P14
open Go.RowKit Go.Proofs.YtlhhhlimjajnlaaGreat Go.Proofs.YtlhhhlimjajnlaaGreat.Q Go.Proofs.YtlhhhlimjajnlaaGreatW.PrintWords Go.Proofs.YtlhhhlimjajnlaaGreat.X Go.Proofs.YtlhhhlimjajnlaaGreat.Ck Go.Proofs.YtlhhhlimjajnlaaGreat.P11
def nmR (N : List ByteArray) (D : List Nod) : Int := if namesC N D = true then 0 else 1
def rsV (N : List ByteArray) (D : List Nod) (i : Nat) (op : List Int) : Int := if ((D.drop i).all (okNod N.length) && (run (prK (D.take i)) (prK (D.drop i)) op).isSome) = true then nmR N D else 1
def rnV (N : List ByteArray) (D : List Nod) (i : Nat) : Option (List Int) → Int
 | none => 1
 | some o => rsV N D (i + 1) o
def Lp (N : List ByteArray) (D : List Nod) (res : Int) : Nat → Prop
 | 0 => (okNod N.length (D.getD 0 nz) = false → res = 1) ∧ (okNod N.length (D.getD 0 nz) = true → Rw (D.take 1) [0] ∧ rsV N D 1 [0] = res)
 | i + 1 => ∃ op, Rw (D.take (i + 1)) op ∧ rsV N D (i + 1) op = res
def jb (D : List Nod) (b x0 : Int) : Bool := if b ≥ 0 then (if x0 = 2 then !((D.getD b.toNat nz).f0 == 2) else if x0 = 3 then (D.getD b.toNat nz).f0 == 3 else false) else false
section
variable {N : List ByteArray} {D : List Nod} {res : Int}
theorem rsV_step {i : Nat} {op : List Int} (hi : i < D.length) : rsV N D i op = if okNod N.length (D.getD i nz) = true then rnV N D i (right (prK (D.take i)) op (D.getD i nz) (D.getD i nz).f1) else 1 := by
 unfold rsV
 rw [drop_one hi, List.all_cons]
 by_cases c : okNod N.length (D.getD i nz) = true
 ·rw [if_pos c, c, Bool.true_and, show prK (D.getD i nz :: D.drop (i + 1)) = (D.getD i nz, (D.getD i nz).f1) :: prK (D.drop (i + 1)) from rfl, run]
  simp only
  cases hr : right (prK (D.take i)) op (D.getD i nz) (D.getD i nz).f1 with
  | none => simp [rnV]
  | some o =>
   show _ = rsV N D (i + 1) o
   unfold rsV
   rw [take_one hi, prK_app]; rfl
 ·rw [if_neg c]
  have : okNod N.length (D.getD i nz) = false := by simpa using c
  rw [this]; simp
theorem rw_next {i : Nat} {op o : List Int} (hi : i < D.length) (h : Rw (D.take i) op) (hr : right (prK (D.take i)) op (D.getD i nz) (D.getD i nz).f1 = some o) : Rw (D.take (i + 1)) o := by
 refine ⟨?_⟩
 rw [take_one hi, prK_app, show prK [D.getD i nz] = [(D.getD i nz, (D.getD i nz).f1)] from rfl, rows_snoc _ _ _ h.r]
 exact hr
theorem op_short {i : Nat} {op : List Int} (hb : D.length ≤ 5000) (hi : i ≤ D.length) (h : Rw (D.take i) op) : op.length ≤ 100000 := by
 by_cases hc : op.length ≤ 100000
 ·exact hc
 ·exfalso
  have hge : ∀ n : Nat, n < op.length → ∀ z, op[n]? = some z → (n : Int) ≤ z := by
   intro n
   induction n with
   | zero => intro _ z hz; exact (h.at hz).1
   | succ n ihn =>
    intro hn z hz
    have hg : op[n]? = some op[n] := List.getElem?_eq_getElem (by omega)
    have h1 := ihn (by omega) _ hg
    have h2 := h.path.lt 0 n _ z hg hz
    omega
  have hg : op[100000]? = some op[100000] := List.getElem?_eq_getElem (by omega)
  have h1 := hge 100000 (by omega) _ hg
  have h2 := (h.at hg).2.1
  rw [take_len hi] at h2
  omega
theorem take_ne {i : Nat} (hi : i ≤ D.length) (h0 : 0 < i) : ¬ prK (D.take i) = [] := by
 intro e
 have := congrArg List.length e
 rw [prK_len, take_len hi, List.length_nil] at this
 omega
theorem step_out {i : Nat} {op : List Int} (hi : i < D.length) (h0 : 0 < i) (hr : rsV N D i op = res) (ho : ¬ (D.getD i nz).f2 ∈ op) : res = 1 := by
 rw [← hr, rsV_step hi, right_out (take_ne (by omega) h0) ho]
 split <;> rfl
theorem step_bad {i : Nat} {op : List Int} (hi : i < D.length) (hr : rsV N D i op = res) (hk : okNod N.length (D.getD i nz) = false) : res = 1 := by
 rw [← hr, rsV_step hi, hk]; rfl
theorem step_in {i : Nat} {op : List Int} (hi : i < D.length) (h0 : 0 < i) (h : Rw (D.take i) op) (hr : rsV N D i op = res) (hk : okNod N.length (D.getD i nz) = true) {j : Nat} (hj : op[j]? = some (D.getD i nz).f2) :
 ((D.getD i nz).f0 = 1 → 64 < j + 1 → res = 1) ∧ (jb D (bef D (D.getD i nz).f2 i) (D.getD i nz).f0 = true → res = 1) ∧
 ((D.getD i nz).f0 = 2 → (∃ k, k < i ∧ (D.getD i nz).f2 < (k : Int) ∧ dup D (D.getD i nz) k) → res = 1) ∧
 (¬ ((D.getD i nz).f0 = 1 ∧ 64 < j + 1) → jb D (bef D (D.getD i nz).f2 i) (D.getD i nz).f0 = false → ¬ ((D.getD i nz).f0 = 2 ∧ ∃ k, k < i ∧ (D.getD i nz).f2 < (k : Int) ∧ dup D (D.getD i nz) k) → Lp N D res (i + 1)) := by
 have hm : (D.getD i nz).f2 ∈ op := List.mem_of_getElem? hj
 obtain ⟨p1, p2, p3, p4⟩ := h.at hj
 rw [take_len (by omega)] at p2
 have hjl := (List.getElem?_eq_some_iff.1 hj).1
 have hbk := fun _ : Unit => bef_kids (by omega) h p1 i (Nat.le_refl _)
 have hidx : op.idxOf (D.getD i nz).f2 = j := h.path.idx j _ hj
 have hlen : (op.take (j + 1)).length = j + 1 := by rw [List.length_take]; omega
 have htw := fun _ : Unit => dup_twice (x := D.getD i nz) (by omega) h p1
 have hal := attr_last _ _ _ rfl h.r (D.getD i nz).f2
 have hkind : (D.getD i nz).f0 = 1 ∨ (D.getD i nz).f0 = 2 ∨ (D.getD i nz).f0 = 3 := by
  unfold okNod at hk
  rw [Bool.and_eq_true] at hk
  exact named_kinds hk.1
 have hnx : ∀ o, right (prK (D.take i)) op (D.getD i nz) (D.getD i nz).f1 = some o → rnV N D i (some o) = res → Lp N D res (i + 1) := fun o ho e => ⟨o, rw_next hi h ho, e⟩
 rw [rsV_step hi, if_pos hk] at hr
 rw [right_in (take_ne (by omega) h0) hm, hidx] at hr hnx
 clear hm hidx hj p4 hk
 generalize hB : bef D (D.getD i nz).f2 i = b at *
 have hmore : jb D b 2 = true → more (prK (D.take i)) (D.getD i nz).f2 = true := by
  intro e
  unfold jb at e
  rcases hbk () with ⟨e0, hkid⟩ | ⟨q, hq, e0, hlast⟩
  ·rw [e0, if_neg (by omega)] at e; cases e
  ·rw [e0, if_pos (by omega), if_pos rfl, Int.toNat_natCast] at e
   unfold more
   rw [List.any_eq_true]
   exact ⟨_, List.mem_of_getLast? hlast, by simpa using e⟩
 have hmore' : jb D b 2 = false → more (prK (D.take i)) (D.getD i nz).f2 = false := by
  intro e
  unfold jb at e
  rcases hbk () with ⟨e0, hkid⟩ | ⟨q, hq, e0, hlast⟩
  ·unfold more; rw [hkid]; rfl
  ·rw [e0, if_pos (by omega), if_pos rfl, Int.toNat_natCast] at e
   exact hal _ hlast (by simpa using e)
 have htext : textLast (prK (D.take i)) (D.getD i nz).f2 = jb D b 3 := by
  unfold textLast jb
  rcases hbk () with ⟨e0, hkid⟩ | ⟨q, hq, e0, hlast⟩
  ·rw [e0, hkid, if_neg (by omega)]; rfl
  ·rw [e0, hlast, if_pos (by omega), if_neg (by decide), if_pos rfl, Int.toNat_natCast]
   show decide ((D.getD q nz).f0 = 3) = ((D.getD q nz).f0 == 3)
   by_cases c : (D.getD q nz).f0 = 3
   ·rw [decide_eq_true c, c]; rfl
   ·rw [decide_eq_false c]; simpa using c
 clear hbk hal
 generalize D.getD i nz = x at *
 rcases hkind with k | k | k
 ·rw [if_pos k, hlen] at hr hnx
  have ej : jb D b x.f0 = false := by unfold jb; rw [if_neg (show ¬ x.f0 = 2 from by omega), if_neg (show ¬ x.f0 = 3 from by omega)]; split <;> rfl
  refine ⟨fun _ c => ?_, fun e => ?_, fun e => by omega, fun c _ _ => ?_⟩
  ·rw [if_pos c] at hr; exact hr.symm
  ·rw [ej] at e; cases e
  ·have c' : ¬ 64 < j + 1 := fun e => c ⟨k, e⟩
   rw [if_neg c'] at hr hnx
   exact hnx _ rfl hr
 ·rw [if_neg (by omega), if_pos k] at hr hnx
  rw [k]
  refine ⟨fun e => by omega, fun e => ?_, fun _ e => ?_, fun _ e1 e2 => ?_⟩
  ·rw [if_pos (.inl (hmore e))] at hr; exact hr.symm
  ·rw [if_pos (.inr ((htw ()).2 e))] at hr; exact hr.symm
  ·rw [if_neg (fun e => e.elim (by rw [hmore' e1]; decide) fun e => e2 ⟨rfl, (htw ()).1 e⟩)] at hr hnx
   exact hnx _ rfl hr
 ·rw [if_neg (by omega), if_neg (by omega), htext] at hr hnx
  rw [k]
  refine ⟨fun e => by omega, fun e => ?_, fun e => by omega, fun _ e1 _ => ?_⟩
  ·rw [if_pos e] at hr; exact hr.symm
  ·rw [if_neg (by rw [e1]; decide)] at hr hnx
   exact hnx _ rfl hr
theorem threeB (a b c : Bool) (x : Int) : (if (!(a && b && c)) = true then (1 : Int) else x) = if a = true then (if (b && c) = true then x else 1) else 1 := by cases a <;> cases b <;> cases c <;> rfl
theorem check_begin (c1 : 0 < D.length) (c2 : D.length ≤ 5000) (c3 : N.length ≤ 1000) : (¬ ((D.getD 0 nz).f0 = 1 ∧ (D.getD 0 nz).f2 = -1) → checkV N D = 1) ∧ ((D.getD 0 nz).f0 = 1 ∧ (D.getD 0 nz).f2 = -1 → Lp N D (checkV N D) 0) := by
 have hD0 : D = D.getD 0 nz :: D.drop 1 := by have := drop_one (D := D) (i := 0) c1; rw [List.drop_zero] at this; exact this
 have ht1 : D.take 1 = [D.getD 0 nz] := by have := take_one (D := D) (i := 0) c1; simpa using this
 have hroot : right ([] : List (Nd × Int)) [] (D.getD 0 nz) (D.getD 0 nz).f1 = if (D.getD 0 nz).f0 = 1 ∧ (D.getD 0 nz).f2 = -1 then some [0] else none := by unfold right; rw [if_pos rfl]
 have hrows : (rows (prK D)).isSome = (match right [] [] (D.getD 0 nz) (D.getD 0 nz).f1 with | none => false | some o => (run (prK (D.take 1)) (prK (D.drop 1)) o).isSome) := by
  have e : rows (prK D) = (run [] (prK (D.getD 0 nz :: D.drop 1)) []).map Prod.snd := by rw [← hD0]; rfl
  rw [e, show prK (D.getD 0 nz :: D.drop 1) = (D.getD 0 nz, (D.getD 0 nz).f1) :: prK (D.drop 1) from rfl, run]
  simp only
  cases hr : right [] [] (D.getD 0 nz) (D.getD 0 nz).f1 with
  | none => rfl
  | some o =>
   rw [ht1]
   show (Option.map Prod.snd (run [(D.getD 0 nz, (D.getD 0 nz).f1)] (prK (D.drop 1)) o)).isSome = (run [(D.getD 0 nz, (D.getD 0 nz).f1)] (prK (D.drop 1)) o).isSome
   cases run [(D.getD 0 nz, (D.getD 0 nz).f1)] (prK (D.drop 1)) o <;> rfl
 have hall : D.all (okNod N.length) = (okNod N.length (D.getD 0 nz) && (D.drop 1).all (okNod N.length)) := by rw [← List.all_cons, ← hD0]
 have e : (nodesC N.length D 0 (zeroC D.length)).isNone = !(nodesC N.length D 0 (zeroC D.length)).isSome := by cases nodesC N.length D 0 (zeroC D.length) <;> rfl
 have hval : checkV N D = if (!(okNod N.length (D.getD 0 nz) && (D.drop 1).all (okNod N.length) && (rows (prK D)).isSome)) = true then (1 : Int) else nmR N D := by
  unfold checkV nmR
  rw [if_neg (by omega), e, nodes_rows, hall]
 rw [hroot] at hrows
 refine ⟨fun c => ?_, fun c => ?_⟩
 ·rw [if_neg c] at hrows
  rw [hval, hrows]; simp
 ·rw [if_pos c] at hrows hroot
  rw [hrows, threeB] at hval
  refine ⟨fun hk => ?_, fun hk => ⟨⟨?_⟩, ?_⟩⟩
  ·rw [hval, hk]; rfl
  ·rw [ht1]
   show (Option.map Prod.snd (run [] [(D.getD 0 nz, (D.getD 0 nz).f1)] [])) = _
   rw [run]
   simp only [hroot]; rfl
  ·rw [hval, hk, if_pos rfl]; rfl
theorem check_names {i : Nat} (h : Lp N D res i) (h0 : 0 < i) (hi : i = D.length) : (if (List.range' 0 N.length).all (okName N D) = true then (0 : Int) else 1) = res := by
 obtain ⟨j, rfl⟩ : ∃ j, i = j + 1 := ⟨i - 1, by omega⟩
 obtain ⟨op, -, hr⟩ := h
 rw [← hr, ← names_all]
 unfold rsV
 rw [List.drop_of_length_le (by omega)]; rfl
end
end Go.Proofs.YtlhhhlimjajnlaaGreat.P14
end
section
set_option linter.unusedVariables false
set_option linter.unusedSimpArgs false
namespace Go.Proofs.YtlhhhlimjajnlaaGreat.X
open Go.RowKit Go.Proofs.YtlhhhlimjajnlaaGreat Go.Proofs.YtlhhhlimjajnlaaGreat.Q Go.Proofs.YtlhhhlimjajnlaaGreat.P11 Go.Proofs.YtlhhhlimjajnlaaGreat.P14 Go.Proofs.YtlhhhlimjajnlaaGreat.Ck Go.Proofs.YtlhhhlimjajnlaaGreatW.PrintWords Go.Proofs.YtlhhhlimjajnlaaGreatW.PrintLast Go.Proofs.YtlhhhlimjajnlaaGreatW.PrintMore
attribute [local go_sem] max2_int min2_int max_two min_two   
theorem nd_cases (nn : Nat) (x0 x1 x2 : Int) (x3 : ByteArray) {v R : Bool} (hv : validL x3.data.toList = v) (hR : okNod nn ⟨x0, x1, x2, x3⟩ = R) :
 (x0 == 1) = true ∧ (((0 : Int) ≤ x1) = False ∧ R = false ∨ ((0 : Int) ≤ x1) = True ∧ ((x1 < (nn : Int)) = False ∧ R = false ∨ (x1 < (nn : Int)) = True ∧ ∃ e, (x3.toList == []) = e ∧ x3.toList.isEmpty = e ∧ R = e)) ∨
 (x0 == 1) = false ∧ ((x0 == 2) = true ∧ (((0 : Int) ≤ x1) = False ∧ R = false ∨ ((0 : Int) ≤ x1) = True ∧ ((x1 < (nn : Int)) = False ∧ R = false ∨ (x1 < (nn : Int)) = True ∧ R = v)) ∨
 (x0 == 2) = false ∧ ((x0 == 3) = true ∧ ((x1 == -1) = true ∧ ((0 : Int) ≤ x1) = False ∧ ((x3.toList == []) = true ∧ x3.toList.isEmpty = true ∧ R = false ∨ (x3.toList == []) = false ∧ x3.toList.isEmpty = false ∧ R = v) ∨ (x1 == -1) = false ∧ (((0 : Int) ≤ x1) = False ∨ ((0 : Int) ≤ x1) = True ∧ ((x1 < (nn : Int)) = False ∨ (x1 < (nn : Int)) = True)) ∧ R = false) ∨
 (x0 == 3) = false ∧ (((0 : Int) ≤ x1) = False ∨ ((0 : Int) ≤ x1) = True ∧ ((x1 < (nn : Int)) = False ∨ (x1 < (nn : Int)) = True)) ∧ R = false)) := by
 subst hR
 unfold okNod namedP
 rw [hv]
 simp only
 have he : x3.toList = x3.data.toList := Lib.toList_data x3
 have hA : ((0 : Int) ≤ x1) = False ∨ ((0 : Int) ≤ x1) = True ∧ ((x1 < (nn : Int)) = False ∨ (x1 < (nn : Int)) = True) := by
  by_cases a : 0 ≤ x1
  ·refine .inr ⟨eq_true a, ?_⟩
   by_cases b : x1 < (nn : Int)
   ·exact .inr (eq_true b)
   ·exact .inl (eq_false b)
  ·exact .inl (eq_false a)
 by_cases k1 : x0 = 1
 ·subst k1
  refine .inl ⟨rfl, ?_⟩
  rw [if_neg (by omega)]
  rcases hA with a | ⟨a, b | b⟩
  ·exact .inl ⟨a, by simp [a]⟩
  ·exact .inr ⟨a, .inl ⟨b, by simp [b]⟩⟩
  ·refine .inr ⟨a, .inr ⟨b, (x3.data.toList == []), by rw [he], by rw [he]; cases x3.data.toList <;> rfl, ?_⟩⟩
   cases hc : (x3.data.toList == [])
   ·simp [a, b]
   ·have : x3.data.toList = [] := by simpa using hc
    rw [this] at hv
    have hv' : v = true := by rw [← hv]; rfl
    simp [a, b, hv']
 refine .inr ⟨beq_eq_false_iff_ne.2 k1, ?_⟩
 by_cases k2 : x0 = 2
 ·subst k2
  refine .inl ⟨rfl, ?_⟩
  rw [if_neg (by omega)]
  rcases hA with a | ⟨a, b | b⟩
  ·exact .inl ⟨a, by simp [a]⟩
  ·exact .inr ⟨a, .inl ⟨b, by simp [b]⟩⟩
  ·exact .inr ⟨a, .inr ⟨b, by simp [a, b]⟩⟩
 refine .inr ⟨beq_eq_false_iff_ne.2 k2, ?_⟩
 by_cases k3 : x0 = 3
 ·subst k3
  refine .inl ⟨rfl, ?_⟩
  rw [if_pos rfl]
  by_cases c : x1 = -1
  ·refine .inl ⟨by simpa using c, eq_false (by omega), ?_⟩
   cases hc : (x3.data.toList == [])
   ·exact .inr ⟨by rw [he]; exact hc, by rw [he, ← hc]; cases x3.data.toList <;> rfl, by simp [c]⟩
   ·exact .inl ⟨by rw [he]; exact hc, by rw [he, ← hc]; cases x3.data.toList <;> rfl, by simp⟩
  ·exact .inr ⟨beq_eq_false_iff_ne.2 c, hA, by simp [c]⟩
 ·refine .inr ⟨beq_eq_false_iff_ne.2 k3, hA, ?_⟩
  rw [if_neg k3]
  simp [k1, k2]
set_option maxHeartbeats 8000000 in
set_option maxRecDepth 100000 in
theorem node_h {D : List Nod} {nn n cN cD i : Nat} {AN AD : Option Addr} {w : World} (hnD : D.length = n) (hD : Kd.C k41 w AD n D) (hi : i < n) (hx : (D.getD i nz).f3.size ≤ 1000000000) :
 Calls Tryz.prog 49 #[.agg #[.slice AN nn cN, .slice AD n cD], .int .i64 i] w fun e w' => e = .returned (.bool (okNod nn (D.getD i nz))) ∧ Below w.heap.size w w' := by
 obtain ⟨ad, hA, r0, r1, r2, r3⟩ := at_T41 hD (i : Int) (by omega) (by omega)
 subst hA
 rw [show rd_T41 D (i : Int) = D.getD i nz from rfl, Int.toNat_natCast] at r0 r1 r2 r3
 obtain ⟨⟨x0, x1, x2, x3⟩, hxx⟩ : ∃ x, D.getD i nz = x := ⟨_, rfl⟩
 rw [hxx] at r0 r1 r2 r3 hx ⊢
 dsimp only at r0 r1 r2 r3 hx
 have hva := fun W => R1_Valid.calls _ x3 _ W (ref_valid_f x3 (by omega) 0)
 obtain ⟨v, hv⟩ : ∃ v, validL x3.data.toList = v := ⟨_, rfl⟩
 rw [hv] at hva
 obtain ⟨R, hR⟩ : ∃ R, okNod nn ⟨x0, x1, x2, x3⟩ = R := ⟨_, rfl⟩
 have hc := nd_cases nn x0 x1 x2 x3 hv hR
 rw [hR]
 have p1 : ((0 : Int) ≤ (i : Int)) = True := eq_true (by omega)
 have p2 : ((i : Int) < (n : Int)) = True := eq_true (by omega)
 have hk := blk_new w (.cells #[.slice AN nn cN, .slice (some ad) n cD] 27)
 have hb := below_alloc (Below.refl w.heap.size w) (.cells #[.slice AN nn cN, .slice (some ad) n cD] 27)
 replace r0 := (hb.cell (World.block_lt_of_cell? w _ r0)).trans r0
 replace r1 := (hb.cell (World.block_lt_of_cell? w _ r1)).trans r1
 replace r2 := (hb.cell (World.block_lt_of_cell? w _ r2)).trans r2
 replace r3 := (hb.cell (World.block_lt_of_cell? w _ r3)).trans r3
 have HV := Lib.hid hva
 clear hva hv hR hxx hx hD hnD
 go_enter Tryz.func49, Tryz.ntmps49
 go_upto_region 1 with (fail)
 generalize w.alloc (.cells #[.slice AN nn cN, .slice (some ad) n cD] 27) = w1 at hk hb r0 r1 r2 r3 ⊢
 have x0' := (blk_cell hk 0).trans (show _ = some (Value.slice AN nn cN) from rfl)
 have x1' := (blk_cell hk 1).trans (show _ = some (Value.slice (some ad) n cD) from rfl)
 go_upto_region 2 with (fail)
 have hk2 := blk_new w1 (.cells #[.int .i64 x0, .int .i64 x1, .int .i64 x2, .string x3] 41)
 have hb2 := below_alloc (Below.refl w1.heap.size w1) (.cells #[.int .i64 x0, .int .i64 x1, .int .i64 x2, .string x3] 41)
 generalize w1.alloc (.cells #[.int .i64 x0, .int .i64 x1, .int .i64 x2, .string x3] 41) = w2 at hk2 hb2 ⊢
 have HB2 := Lib.hid (below_step hb hb2)
 have HK2 := Lib.hid hk2
 have y0 := (blk_cell (blk_below hk hb2) 0).trans (show _ = some (Value.slice AN nn cN) from rfl)
 have c0 := (blk_cell hk2 0).trans (show _ = some (Value.int .i64 x0) from rfl)
 have c1 := (blk_cell hk2 1).trans (show _ = some (Value.int .i64 x1) from rfl)
 have c3 := (blk_cell hk2 3).trans (show _ = some (Value.string x3) from rfl)
 clear hk hb hk2 hb2 r0 r1 r2 r3 x0' x1' p1 p2
 rcases hc with ⟨k1, ⟨a, rfl⟩ | ⟨a, ⟨b, rfl⟩ | ⟨b, e, e1, e2, rfl⟩⟩⟩ | ⟨k1, ⟨k2, ⟨a, rfl⟩ | ⟨a, ⟨b, rfl⟩ | ⟨b, rfl⟩⟩⟩ | ⟨k2, ⟨k3, ⟨c, a, ⟨e1, e2, rfl⟩ | ⟨e1, e2, rfl⟩⟩ | ⟨c, a | ⟨a, b | b⟩, rfl⟩⟩ | ⟨k3, a | ⟨a, b | b⟩, rfl⟩⟩⟩
 all_goals
  go_wp2_with (go_at_call 65; refine (HV.out _).mono ?_; rintro e' w3 ⟨rfl, hb3⟩; have HB3 := Lib.hid (below_step HB2.out hb3); have d0 := (blk_cell (blk_below HK2.out hb3) 0).trans (show _ = some (Value.int .i64 x0) from rfl); have d1 := (blk_cell (blk_below HK2.out hb3) 1).trans (show _ = some (Value.int .i64 x1) from rfl); have d3 := (blk_cell (blk_below HK2.out hb3) 3).trans (show _ = some (Value.string x3) from rfl); clear hb3)
  go_ret
  exact ⟨by first | rfl | (cases v <;> rfl), HB3.out⟩
end Go.Proofs.YtlhhhlimjajnlaaGreat.X
end
