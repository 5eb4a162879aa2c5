/- Parts of the proof of canonSpoilt_holds, kept and merged by a program of mine (wip/tools/slim.py) out of my texts: REm R13i R13j -/
import Derived.Test.YtlhhhlimjajnlaaGreatSSp0
import Derived.Deep.RegionHeld3
import Derived.Test.YtlhhhlimjajnlaaGreatSSp35
import Derived.Test.YtlhhhlimjajnlaaGreatSSp33
import Derived.Test.YtlhhhlimjajnlaaGreatSSp27
section
set_option linter.unusedVariables false
set_option linter.unusedSimpArgs false
namespace Go.Proofs.YtlhhhlimjajnlaaGreat.X
open Go.RowKit Go.Proofs.YtlhhhlimjajnlaaGreat Go.Proofs.YtlhhhlimjajnlaaGreat.Q Go.Proofs.YtlhhhlimjajnlaaGreat.P11 Go.Proofs.YtlhhhlimjajnlaaGreat.P12 Go.Proofs.YtlhhhlimjajnlaaGreat.P13 Go.Proofs.YtlhhhlimjajnlaaGreat.R13 Go.Proofs.YtlhhhlimjajnlaaGreat.Ck Go.Proofs.YtlhhhlimjajnlaaGreatW.PrintWords Go.Proofs.YtlhhhlimjajnlaaGreatW.PrintLast Go.Proofs.YtlhhhlimjajnlaaGreatW.PrintMore
attribute [local go_sem] max2_int min2_int max_two min_two   
section
variable {ops : Array Oper} {rest : List Oper} {o : Oper} {a : Act} {Q : Exit → Act → World → Prop} {Kc : Act → World → Prop} {w0 W W2 : World} {v : Value}
theorem app_m {xs : List Nm} (x : Nm) (s y : Operand) (hgd : o.guard = none) (ho : o.op = .call { callee := .builtin .append, args := #[s, y], argTypes := #[58, 58] }) (hs : a.eval s = v)
 (hW : W2 = W.alloc (.cells #[.int .i64 x.f0.f0, .int .i64 x.f0.f1, .int .i64 x.f0.f2, .string x.f0.f3, .string x.f1] 104)) (HO : Kd.R k104 104 W w0.heap.size (fun _ => True) v xs) (HB : Below w0.heap.size w0 W) (hl : xs.length ≤ 1000000)
 (h : ∀ v1 w1, Kd.R k104 104 w1 w0.heap.size (fun _ => True) v1 (xs ++ [x]) → Below w0.heap.size w0 w1 → wpList Tryz.prog ops Q rest (a.put o.dst v1) w1) (hy : a.eval y = .slice (some ⟨W.heap.size, 0, none⟩) 1 1 := by first | rfl | exact congrArg (fun n => Value.slice (some ⟨n, 0, none⟩) 1 1) (by simp)) : wpList Tryz.prog ops Q (o :: rest) a W2 := by
 subst hW
 exact Kd.R_append k104 (w0 := w0) w0.heap.size hgd s y 58 104 (.agg #[.int .i64 0, .int .i64 0, .int .i64 0, .string ⟨#[]⟩, .string ⟨#[]⟩]) 56 ho Tryz.underlying58 info104 rfl (by decide) (by omega) v xs x [.int .i64 x.f0.f0, .int .i64 x.f0.f1, .int .i64 x.f0.f2, .string x.f0.f3, .string x.f1] (fun _ => True) (fun _ => False) hs hy (k104_mkM _ _ _ x) (fun _ hk => hk.elim) (fun _ _ => trivial) HO HB HB.size (by omega) fun v1 w1 h1 h2 _ _ => h v1 w1 h1 h2
theorem app_ms {xs : List Nm} (x : Nm) (s y : Operand) (hw : Region.wanted o (yielded ops a.tmps) = true) (ho : o.op = .call { callee := .builtin .append, args := #[s, y], argTypes := #[58, 58] }) (hs : a.eval s = v)
 (hW : W2 = W.alloc (.cells #[.int .i64 x.f0.f0, .int .i64 x.f0.f1, .int .i64 x.f0.f2, .string x.f0.f3, .string x.f1] 104)) (HO : Kd.R k104 104 W w0.heap.size (fun _ => True) v xs) (HB : Below w0.heap.size w0 W) (hl : xs.length ≤ 1000000)
 (h : ∀ v1 w1, Kd.R k104 104 w1 w0.heap.size (fun _ => True) v1 (xs ++ [x]) → Below w0.heap.size w0 w1 → Kc (a.put o.dst v1) w1) (hy : a.eval y = .slice (some ⟨W.heap.size, 0, none⟩) 1 1 := by first | rfl | exact congrArg (fun n => Value.slice (some ⟨n, 0, none⟩) 1 1) (by simp)) : if Region.wanted o (yielded ops a.tmps) = true then Oper.wp Tryz.prog o a W2 Kc Q else Kc (a.put o.dst undef) W2 := by
 subst hW
 exact Kd.R_append_step k104 (w0 := w0) w0.heap.size hw s y 58 104 (.agg #[.int .i64 0, .int .i64 0, .int .i64 0, .string ⟨#[]⟩, .string ⟨#[]⟩]) 56 ho Tryz.underlying58 info104 rfl (by decide) (by omega) v xs x [.int .i64 x.f0.f0, .int .i64 x.f0.f1, .int .i64 x.f0.f2, .string x.f0.f3, .string x.f1] (fun _ => True) (fun _ => False) hs hy (k104_mkM _ _ _ x) (fun _ hk => hk.elim) (fun _ _ => trivial) HO HB HB.size (by omega) fun v1 w1 h1 h2 _ _ => h v1 w1 h1 h2
end
def EP (l : List Tok) (w0 : World) (i : Nat) (q : PS) (o : List Int) (e : Ending) (w' : World) : Prop :=
 ∃ (res : List Nm × Int × Bool) (v' : Value), e = .returned (.tuple #[v', .int .i64 res.2.1, .bool res.2.2]) ∧ Kd.R k104 104 w' w0.heap.size (fun _ => True) v' res.1 ∧ Below w0.heap.size w0 w' ∧ Res l i q o res
theorem EP.of {l : List Tok} {w0 : World} {i : Nat} {q : PS} {o : List Int} {w' : World} {x1 : List Nm} {x2 : Int} {b : Bool} {v : Value} (hr : Kd.R k104 104 w' w0.heap.size (fun _ => True) v x1) (hb : Below w0.heap.size w0 w') (h : Res l i q o (x1, x2, b)) : EP l w0 i q o (.returned (.tuple #[v, .int .i64 x2, .bool b])) w' :=
 ⟨(x1, x2, b), v, rfl, hr, hb, h⟩
def ElW (l : List Tok) (nl cl : Nat) (AL : Option Addr) (w0 : World) (m : Nat) : Prop :=
 ∀ (i : Nat) (p : PS) (deep : Nat) (t : Tok) (r : List Tok) (W : World) (v : Value), l.drop i = t :: r → t.f0 = 1 → Alt false (l.drop i) → l.length - i ≤ m → p.x = nob → p.wr = false → (p.o = [] → p.n = []) → (∀ z, z ∈ p.o → 0 ≤ z) → p.s.length = p.n.length → p.n.length ≤ i → deep ≤ i → Kd.R k104 104 W w0.heap.size (fun _ => True) v (zipN p) → Below w0.heap.size w0 W →
 Calls Tryz.prog 35 #[.slice AL nl cl, .int .i64 i, .int .i64 (topP p.o), v, .int .i64 deep] W fun e w' => ∃ (res : List Nm × Int × Bool) (v' : Value), e = .returned (.tuple #[v', .int .i64 res.2.1, .bool res.2.2]) ∧ Kd.R k104 104 w' w0.heap.size (fun _ => True) v' res.1 ∧ Below w0.heap.size w0 w' ∧ Res l i p p.o res ∧ (res.2.2 = true → (i : Int) < res.2.1 ∧ 0 < res.1.length)
section
variable {l : List Tok} {nl cl : Nat} {AL : Option Addr} {w0 : World}
set_option maxHeartbeats 8000000 in
set_option maxRecDepth 100000 in
theorem elw_step (hnl : l.length = nl) (hl : nl ≤ 2900) (hL : Kd.C k51 w0 AL nl l) (hcl : nl ≤ cl) (hts : tsize l ≤ 9000000000000000000) (m : Nat) (hE : ElW l nl cl AL w0 m) : ElW l nl cl AL w0 (m + 1) := by
 intro i p deep t r W v hr c1 ha hm hx hwr hroot hpos hlen hsm hd hR hB
 obtain ⟨hil, e1, e3⟩ := drop_lt hr
 obtain ⟨q0, hI0, hz0, hfin⟩ := elem p hr c1 hx hwr hroot hpos hlen hsm
 have ha1 : Alt true (l.drop (i + 1)) := by
  rw [hr] at ha
  rw [e3, show true = opens t.f0 from by rw [c1]; rfl]; exact ha.2.2
 have key : Calls Tryz.prog 35 #[.slice AL nl cl, .int .i64 i, .int .i64 (topP p.o), v, .int .i64 deep] W (EP l w0 (i + 1) q0 p.o) := by
  have hz := zipN_len hlen
  obtain ⟨A3, c3, rfl⟩ := Kd.R_slice hR
  rw [hz] at hR ⊢
  obtain ⟨al, hA, r0, r1, r2, r3, r4⟩ := at_T51 (Kd.C_below hL hB) (i : Int) (by omega) (by omega)
  subst hA
  rw [e1, Int.toNat_natCast] at r0 r1 r2 r3 r4
  rw [c1] at r0
  obtain ⟨me, hme⟩ : ∃ me, p.n.length = me := ⟨_, rfl⟩
  obtain ⟨o, ho⟩ : ∃ o, p.o = o := ⟨_, rfl⟩
  obtain ⟨tp, htp⟩ : ∃ tp, topP p.o = tp := ⟨_, rfl⟩
  obtain ⟨name, hname⟩ : ∃ name, t.f3 = name := ⟨_, rfl⟩
  rw [htp, hname] at hz0
  rw [hme, ho, hname] at hI0
  rw [hme] at hR hsm ⊢
  rw [htp, ho]
  rw [hname] at r3
  have p1 : ((nl : Int) ≤ (i : Int)) = False := eq_false (by omega)
  have p2 : ((i : Int) < (nl : Int)) = True := eq_true (by omega)
  have p3 : ((0 : Int) ≤ (i : Int)) = True := eq_true (by omega)
  have p4 : ((3000 : Int) < (deep : Int)) = False := eq_false (by omega)
  have i1 : IntKind.i64.wrap ((i : Int) + 1) = ((i + 1 : Nat) : Int) := zz15
  have i2 : IntKind.i64.wrap ((me : Int) + 1) = ((me + 1 : Nat) : Int) := zz15
  have i3 : IntKind.i64.wrap ((deep : Int) + 1) = ((deep + 1 : Nat) : Int) := zz15
  have HR := Lib.hid hR
  have HB := Lib.hid hB
  have HL := Lib.hid hL
  have HNL := Lib.hid hnl
  have HLL := Lib.hid (show nl ≤ 2900 ∧ me ≤ i ∧ i < nl ∧ deep ≤ i by omega)
  have HM := Lib.hid (show l.length ≤ i + (m + 1) by omega)
  have HE := Lib.hid hE
  have HTS := Lib.hid hts
  have HCL := Lib.hid hcl
  have HX : Hid (In q0 o me name (i + 1) ∧ Alt true (l.drop (i + 1)) ∧ ∀ res, Res l (i + 1) q0 o res → Res l (i + 1) q0 o res) := Lib.hid ⟨hI0, ha1, fun _ h => h⟩
  have HZ := Lib.hid hz0
  have hzl : (zipN p).length ≤ 1000000 := by omega
  have HZL := Lib.hid hzl
  clear hz0 hI0 ha1 hE hts hnl hL hB hR hfin hroot hpos hlen hsm hz hm ha hr c1 e1 e3 hil hd hx hwr ho htp hname hme hl hcl hzl r1 r2 r4
  go_enter Tryz.func35, Tryz.ntmps35
  go_wp2_with (at_builtin; refine app_m ⟨⟨1, 0, tp, ⟨#[]⟩⟩, name⟩ (.tmp 46) (.tmp 51) rfl rfl rfl rfl HR.out HB.out HZL.out ?_; intro v1 w1 ho hb; have ho2 : Kd.R k104 104 w1 w0.heap.size (fun _ => True) v1 (zipN q0) := (by rw [HZ.out]; exact ho); have HR1 := Lib.hid ho2; have HB1 := Lib.hid hb; clear ho hb ho2)
  clear r0 r3 p1 p2 p3 p4 i1 HR HB HZ HZL
  go_loopw [1, 3] (fun v1 v3 wr => ∃ (j : Nat) (q : PS), v1 = .int .i64 j ∧ Hid (i < j ∧ j ≤ nl) ∧ Hid (In q o me name j ∧ Alt true (l.drop j) ∧ ∀ res, Res l j q o res → Res l (i + 1) q0 o res) ∧ Hid (Kd.R k104 104 wr w0.heap.size (fun _ => True) v3 (zipN q)) ∧ Hid (Below w0.heap.size w0 wr)) (fun v1 v3 wr => nl - (intOf v1).toNat)
  case atStart => exact ⟨i + 1, q0, by first | rfl | go_num, Lib.hid (by have := HLL.out; omega), HX, HR1, HB1⟩
  case round =>
   clear HX HR1 HB1
   obtain ⟨j, q, rfl, HJ, HX, HR, HB⟩ := hrel
   obtain ⟨hI, ha, hres⟩ := HX.out
   obtain ⟨t1, r1, hr1, hk, ha1⟩ := alt_tag ha
   obtain ⟨hjl, e1, -⟩ := drop_lt hr1
   rw [HNL.out] at hjl
   obtain ⟨al', hA', r0, -, -, r3, r4⟩ := at_T51 HL.out (j : Int) (by omega) (by omega)
   obtain rfl := Option.some.inj hA'
   rw [e1, Int.toNat_natCast] at r0 r3 r4
   obtain ⟨A4, c4, rfl⟩ := Kd.R_slice HR.out
   have hzq := zipN_len hI.len
   rw [hzq] at HR ⊢
   obtain ⟨nq, hnq⟩ : ∃ nq, q.n.length = nq := ⟨_, rfl⟩
   have hqs := hI.small
   have hlt := hI.lt
   rw [hnq] at HR hzq hqs hlt ⊢
   have s0 := (HB.out.cell (World.block_lt_of_cell? w0 _ r0)).trans r0
   have p1 : ((nl : Int) ≤ (j : Int)) = False := eq_false (by omega)
   have p2 : ((j : Int) < (nl : Int)) = True := eq_true (by omega)
   have p3 : ((0 : Int) ≤ (j : Int)) = True := eq_true (by omega)
   have i1 : IntKind.i64.wrap ((j : Int) + 1) = ((j + 1 : Nat) : Int) := by have := HLL.out; rw [IntKind.wrap_i64]; omega
   have HR0 := Lib.hid r0
   have HR3 := Lib.hid r3
   have HR4 := Lib.hid r4
   have HT1 := Lib.hid hr1
   have HA1 := Lib.hid ha1
   have HQ := Lib.hid (show nq ≤ j ∧ me < nq ∧ (zipN q).length = nq ∧ q.n.length = nq ∧ j < nl from ⟨hqs, hlt, hzq, hnq, hjl⟩)
   clear hI ha hres hr1 e1 r0 r3 r4 hqs hlt hzq hnq ha1 hA' hjl
   rcases hk with c2 | c3 | c4
   ·rw [c2] at s0
    have HC2 := Lib.hid c2
    clear c2
    go_wp2
    clear s0
    go_loopw [15] (fun v15 wr2 => ∃ k : Nat, v15 = .int .i64 k ∧ Hid (k ≤ nq) ∧ Hid (dupB q me t1.f3 = (q.s.drop k).any fun a => a.data.toList == t1.f3.data.toList) ∧ Hid (Kd.R k104 104 wr2 w0.heap.size (fun _ => True) (.slice A4 nq c4) (zipN q)) ∧ Hid (Below w0.heap.size w0 wr2)) (fun v15 wr2 => nq - (intOf v15).toNat)
    case atStart => exact ⟨me + 1, by first | rfl | go_num, Lib.hid (by have := HQ.out; omega), Lib.hid rfl, HR, HB⟩
    case round =>
     obtain ⟨k, rfl, HK, HD, HR', HB'⟩ := hrel
     obtain ⟨hI, -, hres⟩ := HX.out
     by_cases hkn : k < nq
     ·obtain ⟨an, hAn, -, -, -, -, n4⟩ := at_T104 (Kd.R_reads' HR'.out).2.2 (k : Int) (by omega) (by have := HQ.out; omega)
      subst hAn
      rw [zipN_at hI.len k (by have := HQ.out; omega), Int.toNat_natCast] at n4
      simp only at n4
      have s3 := (HB'.out.cell (World.block_lt_of_cell? w0 _ HR3.out)).trans HR3.out
      have hds := dup_step (q := q) (k := k) (by have := hI.len; have := HQ.out; omega) t1.f3
      have hdb := HD.out
      rw [hds] at hdb
      obtain ⟨y, hy⟩ : ∃ y, q.s.getD k nob = y := ⟨_, rfl⟩
      rw [hy] at hdb n4
      clear hy hds
      have p5 : ((k : Int) < (nq : Int)) = True := eq_true (by omega)
      have p6 : ((0 : Int) ≤ (k : Int)) = True := eq_true (by omega)
      have i4 : IntKind.i64.wrap ((k : Int) + 1) = ((k + 1 : Nat) : Int) := by have := HLL.out; have := HQ.out; rw [IntKind.wrap_i64]; omega
      have HKN := Lib.hid hkn
      by_cases c : y.data.toList = t1.f3.data.toList
      ·have q1 : (y.toList == t1.f3.toList) = true := by rw [Lib.toList_data, Lib.toList_data, c]; simp
       rw [c] at hdb
       have HEQ := Lib.hid (hres _ (attr_bad hI HT1.out HC2.out (by rw [hdb]; simp) (zipN q, (j : Int))))
       clear hI hres hdb c hkn
       go_wp2
       go_region
       go_wp2
       go_ret3
       exact EP.of (by first | exact HR'.out | exact Kd.R_drew HR'.out | exact Kd.R_drewN HR'.out _) (by first | exact HB'.out | exact below_drew HB'.out | exact pw_below_drewN HB'.out _) HEQ.out
      ·have q1 : (y.toList == t1.f3.toList) = false := by rw [Lib.toList_data, Lib.toList_data]; simpa using c
       rw [show (y.data.toList == t1.f3.data.toList) = false by simpa using c, Bool.false_or] at hdb
       have HDB := Lib.hid hdb
       clear hI hres hdb c hkn
       go_wp2
       go_region
       go_wp2
       go_roundw
       case rel => exact ⟨k + 1, by first | rfl | go_num, Lib.hid (by have := HKN.out; omega), HDB, Lib.hid (by first | exact HR'.out | exact Kd.R_drew HR'.out | exact Kd.R_drewN HR'.out _), Lib.hid (by first | exact HB'.out | exact below_drew HB'.out | exact pw_below_drewN HB'.out _)⟩
       case measure => have := HKN.out; simp [intOf]; omega
     ·have hkq : k = nq := by have := HK.out; omega
      have hdb := HD.out
      rw [List.drop_eq_nil_of_le (by have := hI.len; have := HQ.out; omega)] at hdb
      obtain ⟨q', g1, g2, g3⟩ := attr_ok hI HT1.out HC2.out hdb
      have HG1 := Lib.hid g1
      have HG2 := Lib.hid g2
      have HG3 := Lib.hid (fun res h => hres res (g3 res h))
      have HAL : Hid (Alt true (l.drop (j + 1))) := Lib.hid (by have := HA1.out; rw [HC2.out] at this; exact this)
      have p5 : ((k : Int) < (nq : Int)) = False := eq_false (by omega)
      have s3 := (HB'.out.cell (World.block_lt_of_cell? w0 _ HR3.out)).trans HR3.out
      have s4 := (HB'.out.cell (World.block_lt_of_cell? w0 _ HR4.out)).trans HR4.out
      have HZL := Lib.hid (show (zipN q).length ≤ 1000000 by have := HQ.out; have := HLL.out; omega)
      clear hI hres hdb g1 g2 g3 hkn hkq HD HK
      go_wp2
      go_region_held3 (fun W => W.cell? ⟨(al.add (j * 5)).block, (al.add (j * 5)).off + 3, none⟩ = some (.string t1.f3) ∧ W.cell? ⟨(al.add (j * 5)).block, (al.add (j * 5)).off + 4, none⟩ = some (.string t1.f4)) (first | exact ⟨by assumption, by assumption⟩ | go_keep) (first | (refine app_ms (W := World.drew _) ⟨⟨2, 0, (me : Int), t1.f4⟩, t1.f3⟩ (.tmp 88) (.tmp 102) (by rfl) (by rfl) (by rfl) (by rfl) (Kd.R_drew HR'.out) (below_drew HB'.out) HZL.out ?_; intro v5 w5 ho hb; have ho2 : Kd.R k104 104 w5 w0.heap.size (fun _ => True) v5 (zipN q') := (by rw [HG2.out]; exact ho); have HR5 := Lib.hid ho2; have HB5 := Lib.hid hb; have u3 := (hb.cell (World.block_lt_of_cell? w0 _ HR3.out)).trans HR3.out; have u4 := (hb.cell (World.block_lt_of_cell? w0 _ HR4.out)).trans HR4.out; clear ho hb ho2))
      go_wp2
      go_roundw
      case rel => exact ⟨j + 1, q', by first | rfl | go_num, Lib.hid (by have := HJ.out; have := HQ.out; omega), Lib.hid ⟨HG1.out, HAL.out, HG3.out⟩, HR5, HB5⟩
      case measure => have := HQ.out; simp [intOf]; omega
   ·rw [c3] at s0
    obtain ⟨hI, -, hres⟩ := HX.out
    obtain ⟨g1, g2⟩ := tag_ready hI HT1.out c3
    have hal := HA1.out
    rw [c3] at hal
    have HX2 : Hid (In q o me name (j + 1) ∧ Alt false (l.drop (j + 1)) ∧ ∀ res, Res l (j + 1) q o res → Res l (i + 1) q0 o res) := Lib.hid ⟨g1, hal, fun res h => hres res (g2 res h)⟩
    have HJ2 := Lib.hid (show i < j + 1 ∧ j + 1 ≤ nl by have := HJ.out; have := HQ.out; omega)
    clear hI hres g1 g2 hal c3 HX
    go_wp2
    clear s0 p1 p2 p3 i1 HR0 HR3 HR4 HA1 HT1
    have HRQ : Hid (Kd.R k104 104 wr w0.heap.size (fun _ => True) (.slice A4 nq c4) (zipN q)) := HR
    clear HR
    go_loopw [1, 3] (fun v1 v3 wr => ∃ (j : Nat) (q : PS), v1 = .int .i64 j ∧ Hid (i < j ∧ j ≤ nl) ∧ Hid (In q o me name j ∧ Alt false (l.drop j) ∧ ∀ res, Res l j q o res → Res l (i + 1) q0 o res) ∧ Hid (Kd.R k104 104 wr w0.heap.size (fun _ => True) v3 (zipN q)) ∧ Hid (Below w0.heap.size w0 wr)) (fun v1 v3 wr => nl - (intOf v1).toNat)
    case atStart => exact ⟨j + 1, q, by first | rfl | go_num, HJ2, HX2, HRQ, HB⟩
    case round =>
     clear HX2 HRQ HB HQ HJ HJ2
     obtain ⟨j, q, rfl, HJ, HX, HR, HB⟩ := hrel
     obtain ⟨hI, ha, hres⟩ := HX.out
     obtain ⟨s, c, p', hsc, hjc, hP, hPz, hcase⟩ := cont hI ha (by have := HJ.out; have := HNL.out; omega)
     obtain ⟨K, hK⟩ := texts_f l (by have := HNL.out; have := HLL.out; omega) j (by have := HJ.out; have := HNL.out; omega) (Nat.le_trans (tsize_dr l j) HTS.out)
     have hK := hK K (Nat.le_refl _)
     simp only [hsc] at hK
     have hT := fun W (h : Kd.C k51 W (some al) l.length l) => R3_texts.calls K (some al) cl l j s ((j + c : Nat) : Int) W h (by have := HNL.out; have := HCL.out; omega) hK
     rw [HNL.out] at hT hjc
     have HT := Lib.hid hT
     obtain ⟨A4, c4, rfl⟩ := Kd.R_slice HR.out
     have hzq := zipN_len hI.len
     have hqs := hI.small
     rw [hzq] at HR ⊢
     obtain ⟨nq, hnq⟩ : ∃ nq, q.n.length = nq := ⟨_, rfl⟩
     rw [hnq] at HR hzq hqs ⊢
     obtain ⟨kk, hkk⟩ : ∃ kk, j + c = kk := ⟨_, rfl⟩
     have HZL := Lib.hid (show (zipN q).length ≤ 1000000 by have := HJ.out; have := HLL.out; omega)
     have HJK := Lib.hid (show j ≤ kk ∧ kk ≤ nl by omega)
     have i1 : IntKind.i64.wrap ((kk : Int) + 1) = ((kk + 1 : Nat) : Int) := by have := HLL.out; rw [IntKind.wrap_i64]; omega
     rw [hkk] at HT hP hcase
     have HP := Lib.hid hP
     have hss : ((s.toList.isEmpty = true ∧ (s.toList == []) = true ∧ (s.toList != []) = false) ∧ zipN p' = zipN q) ∨ ((s.toList.isEmpty = false ∧ (s.toList == []) = false ∧ (s.toList != []) = true) ∧ zipN p' = zipN q ++ [⟨⟨3, -1, (me : Int), s⟩, nob⟩]) := by
      rw [Lib.toList_data]
      by_cases h : s.data.toList = []
      ·rw [if_pos h] at hPz
       exact .inl ⟨by rw [h]; exact ⟨rfl, rfl, rfl⟩, hPz⟩
      ·rw [if_neg h] at hPz
       exact .inr ⟨by cases hd : s.data.toList with
        | nil => exact absurd hd h
        | cons x y => exact ⟨rfl, rfl, rfl⟩, hPz⟩
     have HSS := Lib.hid hss
     have HRES := Lib.hid hres
     have HI := Lib.hid hI
     clear hI ha hres hsc hjc hPz hK hT hzq hqs hnq hkk hss hP HX
     rcases hcase with ⟨e5, hbad⟩ | ⟨t1, r1, hr1, k5, hcl⟩ | ⟨t1, r1, hr1, k1, hal, hel⟩
     ·have p4 : ((nl : Int) ≤ (kk : Int)) = True := eq_true (by have := HNL.out; omega)
      have HBAD := Lib.hid (HRES.out _ (hbad (zipN p', (kk : Int))))
      clear hbad e5
      rcases HSS.out with ⟨⟨q1, q2, q3⟩, hpz⟩ | ⟨⟨q1, q2, q3⟩, hpz⟩
      ·have HPZ := Lib.hid hpz
       clear hpz HSS
       go_wp2_with (go_at_call 33; refine (HT.out _ (Kd.C_below HL.out HB.out)).mono ?_; rintro e w2 ⟨rfl, nd, hw⟩; have hR2 : Kd.R k104 104 w2 w0.heap.size (fun _ => True) (.slice A4 nq c4) (zipN q) := (by rw [hw]; exact Kd.R_drewN HR.out nd); have hB2 : Below w0.heap.size w0 w2 := (by rw [hw]; exact pw_below_drewN HB.out nd); have HR2 := Lib.hid hR2; have HB2 := Lib.hid hB2; clear hw hR2 hB2)
       go_ret3
       exact EP.of (by rw [HPZ.out]; exact HR2.out) HB2.out HBAD.out
      ·have HPZ := Lib.hid hpz
       clear hpz HSS
       go_wp2_with (first | (go_at_call 33; refine (HT.out _ (Kd.C_below HL.out HB.out)).mono ?_; rintro e w2 ⟨rfl, nd, hw⟩; have hR2 : Kd.R k104 104 w2 w0.heap.size (fun _ => True) (.slice A4 nq c4) (zipN q) := (by rw [hw]; exact Kd.R_drewN HR.out nd); have hB2 : Below w0.heap.size w0 w2 := (by rw [hw]; exact pw_below_drewN HB.out nd); have HR2 := Lib.hid hR2; have HB2 := Lib.hid hB2; clear hw hR2 hB2) | (at_builtin; refine app_m ⟨⟨3, -1, (me : Int), s⟩, ⟨#[]⟩⟩ (.tmp 131) (.tmp 136) rfl rfl rfl rfl HR2.out HB2.out HZL.out ?_; intro v3 w3 ho hb; have ho2 : Kd.R k104 104 w3 w0.heap.size (fun _ => True) v3 (zipN p') := (by rw [HPZ.out]; exact ho); have HR3 := Lib.hid ho2; have HB3 := Lib.hid hb; clear ho hb ho2))
       go_ret3
       exact EP.of HR3.out HB3.out HBAD.out
     ·obtain ⟨hkl, e1, -⟩ := drop_lt hr1
      rw [HNL.out] at hkl
      obtain ⟨al', hA', r0, -, -, r3, -⟩ := at_T51 HL.out (kk : Int) (by omega) (by omega)
      obtain rfl := Option.some.inj hA'
      rw [e1, Int.toNat_natCast] at r0 r3
      have p4 : ((nl : Int) ≤ (kk : Int)) = False := eq_false (by omega)
      have p5 : ((kk : Int) < (nl : Int)) = True := eq_true (by omega)
      have p6 : ((0 : Int) ≤ (kk : Int)) = True := eq_true (by omega)
      rw [k5] at r0
      have HR0 := Lib.hid r0
      have HR3 := Lib.hid r3
      have HCL2 := Lib.hid (HRES.out _ hcl)
      obtain ⟨bb, hbb⟩ : ∃ bb, (t1.f3.toList == name.toList) = bb := ⟨_, rfl⟩
      rw [hbb] at HCL2
      clear hcl hr1 r0 r3 e1 hA' hkl k5
      rcases HSS.out with ⟨⟨q1, q2, q3⟩, hpz⟩ | ⟨⟨q1, q2, q3⟩, hpz⟩
      ·have HPZ := Lib.hid hpz
       clear hpz HSS
       go_wp2_with (go_at_call 33; refine (HT.out _ (Kd.C_below HL.out HB.out)).mono ?_; rintro e w2 ⟨rfl, nd, hw⟩; have hR2 : Kd.R k104 104 w2 w0.heap.size (fun _ => True) (.slice A4 nq c4) (zipN q) := (by rw [hw]; exact Kd.R_drewN HR.out nd); have hB2 : Below w0.heap.size w0 w2 := (by rw [hw]; exact pw_below_drewN HB.out nd); have HR2 := Lib.hid hR2; have HB2 := Lib.hid hB2; have r0a := (HB2.out.cell (World.block_lt_of_cell? w0 _ HR0.out)).trans HR0.out; have r3a := (HB2.out.cell (World.block_lt_of_cell? w0 _ HR3.out)).trans HR3.out; clear hw hR2 hB2)
       go_region
       go_wp2
       go_ret3
       exact EP.of (by rw [HPZ.out]; first | exact HR2.out | exact Kd.R_drew HR2.out | exact Kd.R_drewN HR2.out _) (by first | exact HB2.out | exact below_drew HB2.out | exact pw_below_drewN HB2.out _) HCL2.out
      ·have HPZ := Lib.hid hpz
       clear hpz HSS
       go_wp2_with (first | (go_at_call 33; refine (HT.out _ (Kd.C_below HL.out HB.out)).mono ?_; rintro e w2 ⟨rfl, nd, hw⟩; have hR2 : Kd.R k104 104 w2 w0.heap.size (fun _ => True) (.slice A4 nq c4) (zipN q) := (by rw [hw]; exact Kd.R_drewN HR.out nd); have hB2 : Below w0.heap.size w0 w2 := (by rw [hw]; exact pw_below_drewN HB.out nd); have HR2 := Lib.hid hR2; have HB2 := Lib.hid hB2; clear hw hR2 hB2) | (at_builtin; refine app_m ⟨⟨3, -1, (me : Int), s⟩, ⟨#[]⟩⟩ (.tmp 131) (.tmp 136) rfl rfl rfl rfl HR2.out HB2.out HZL.out ?_; intro v3 w3 ho hb; have ho2 : Kd.R k104 104 w3 w0.heap.size (fun _ => True) v3 (zipN p') := (by rw [HPZ.out]; exact ho); have HR6 := Lib.hid ho2; have HB3 := Lib.hid hb; have r0a := (HB3.out.cell (World.block_lt_of_cell? w0 _ HR0.out)).trans HR0.out; have r3a := (HB3.out.cell (World.block_lt_of_cell? w0 _ HR3.out)).trans HR3.out; clear ho hb ho2))
       go_region
       go_wp2
       go_ret3
       exact EP.of (by first | exact HR6.out | exact Kd.R_drew HR6.out | exact Kd.R_drewN HR6.out _) (by first | exact HB3.out | exact below_drew HB3.out | exact pw_below_drewN HB3.out _) HCL2.out
     ·obtain ⟨hkl, e1, -⟩ := drop_lt hr1
      rw [HNL.out] at hkl
      obtain ⟨al', hA', r0, -, -, r3, -⟩ := at_T51 HL.out (kk : Int) (by omega) (by omega)
      obtain rfl := Option.some.inj hA'
      rw [e1, Int.toNat_natCast] at r0 r3
      have p4 : ((nl : Int) ≤ (kk : Int)) = False := eq_false (by omega)
      have p5 : ((kk : Int) < (nl : Int)) = True := eq_true (by omega)
      have p6 : ((0 : Int) ≤ (kk : Int)) = True := eq_true (by omega)
      rw [k1] at r0
      have HR0 := Lib.hid r0
      have HEN := Lib.hid hel
      have hpo : ∀ z, z ∈ p'.o → 0 ≤ z := by
       intro z hz
       rw [HP.out.op] at hz
       rcases List.mem_append.1 hz with hz | hz
       ·exact HP.out.pos z hz
       ·rw [List.mem_singleton.1 hz]; omega
      have hEl := fun W v hR hB => HE.out kk p' (deep + 1) t1 r1 W v hr1 k1 hal (by have := HM.out; have := HJ.out; have := HJK.out; omega) HP.out.x HP.out.wr (fun e => by rw [HP.out.op] at e; simp at e) hpo HP.out.len HP.out.small (by have := HLL.out; have := HJ.out; have := HJK.out; omega) hR hB
      rw [HP.out.top] at hEl
      have HEL := Lib.hid hEl
      clear hel hr1 r0 r3 e1 hA' hkl k1 hal hpo hEl
      rcases HSS.out with ⟨⟨q1, q2, q3⟩, hpz⟩ | ⟨⟨q1, q2, q3⟩, hpz⟩
      ·have HPZ := Lib.hid hpz
       clear hpz HSS
       go_wp2_with (first | (go_at_call 33; refine (HT.out _ (Kd.C_below HL.out HB.out)).mono ?_; rintro e w2 ⟨rfl, nd, hw⟩; have hR2 : Kd.R k104 104 w2 w0.heap.size (fun _ => True) (.slice A4 nq c4) (zipN q) := (by rw [hw]; exact Kd.R_drewN HR.out nd); have hB2 : Below w0.heap.size w0 w2 := (by rw [hw]; exact pw_below_drewN HB.out nd); have HR2 := Lib.hid hR2; have HB2 := Lib.hid hB2; have r0a := (HB2.out.cell (World.block_lt_of_cell? w0 _ HR0.out)).trans HR0.out; clear hw hR2 hB2) | (go_at_call 35; refine (HEL.out _ _ (by first | exact HR2.out | (rw [HPZ.out]; exact HR2.out)) HB2.out).mono ?_; rintro e w4 ⟨⟨rn, ri, rb⟩, v4, rfl, hr4, hb4, hq4, hx4⟩; have HR4 := Lib.hid hr4; have HB4 := Lib.hid hb4; have HQ4 := Lib.hid hq4; have HX4 := Lib.hid hx4; clear hr4 hb4 hq4 hx4))
       ·cases rb with
        | true => exact absurd (by assumption) (show ¬ (!true) = true by decide)
        | false =>
         have HBAD := Lib.hid (HRES.out _ ((HEN.out _ HQ4.out).1 rfl (rn, ri)))
         go_ret3
         exact EP.of HR4.out HB4.out HBAD.out
       ·cases rb with
        | false => exact absurd (by assumption) (show ¬ (!false) = false by decide)
        | true =>
         obtain ⟨j2, q2, rfl, h2, h3, h4, h5, h6, h7⟩ := (HEN.out _ HQ4.out).2 rfl (HX4.out rfl).1
         have hj := HJ.out
         have hn := HNL.out
         refine ⟨⟨j2, q2, rfl, Lib.hid (by omega), Lib.hid ⟨h4, h6, fun res h => HRES.out res (h7 res h)⟩, Lib.hid (by rw [h5]; exact HR4.out), HB4⟩, ?_⟩
         simp [intOf]; omega
      ·have HPZ := Lib.hid hpz
       clear hpz HSS
       go_wp2_with (first | (go_at_call 33; refine (HT.out _ (Kd.C_below HL.out HB.out)).mono ?_; rintro e w2 ⟨rfl, nd, hw⟩; have hR2 : Kd.R k104 104 w2 w0.heap.size (fun _ => True) (.slice A4 nq c4) (zipN q) := (by rw [hw]; exact Kd.R_drewN HR.out nd); have hB2 : Below w0.heap.size w0 w2 := (by rw [hw]; exact pw_below_drewN HB.out nd); have HR2 := Lib.hid hR2; have HB2 := Lib.hid hB2; clear hw hR2 hB2) | (at_builtin; refine app_m ⟨⟨3, -1, (me : Int), s⟩, ⟨#[]⟩⟩ (.tmp 131) (.tmp 136) rfl rfl rfl rfl HR2.out HB2.out HZL.out ?_; intro v3 w3 ho hb; have ho2 : Kd.R k104 104 w3 w0.heap.size (fun _ => True) v3 (zipN p') := (by rw [HPZ.out]; exact ho); have HR3 := Lib.hid ho2; have HB3 := Lib.hid hb; have r0a := (HB3.out.cell (World.block_lt_of_cell? w0 _ HR0.out)).trans HR0.out; clear ho hb ho2) | (go_at_call 35; refine (HEL.out _ _ (by first | exact HR3.out | (rw [HPZ.out]; exact HR3.out)) HB3.out).mono ?_; rintro e w4 ⟨⟨rn, ri, rb⟩, v4, rfl, hr4, hb4, hq4, hx4⟩; have HR4 := Lib.hid hr4; have HB4 := Lib.hid hb4; have HQ4 := Lib.hid hq4; have HX4 := Lib.hid hx4; clear hr4 hb4 hq4 hx4))
       ·cases rb with
        | true => exact absurd (by assumption) (show ¬ (!true) = true by decide)
        | false =>
         have HBAD := Lib.hid (HRES.out _ ((HEN.out _ HQ4.out).1 rfl (rn, ri)))
         go_ret3
         exact EP.of HR4.out HB4.out HBAD.out
       ·cases rb with
        | false => exact absurd (by assumption) (show ¬ (!false) = false by decide)
        | true =>
         obtain ⟨j2, q2, rfl, h2, h3, h4, h5, h6, h7⟩ := (HEN.out _ HQ4.out).2 rfl (HX4.out rfl).1
         have hj := HJ.out
         have hn := HNL.out
         refine ⟨⟨j2, q2, rfl, Lib.hid (by omega), Lib.hid ⟨h4, h6, fun res h => HRES.out res (h7 res h)⟩, Lib.hid (by rw [h5]; exact HR4.out), HB4⟩, ?_⟩
         simp [intOf]; omega
   ·rw [c4] at s0
    obtain ⟨hI, -, hres⟩ := HX.out
    have HEQ := Lib.hid (hres _ (tag_empty hI HT1.out c4 (by have := HA1.out; rw [c4] at this; exact this)))
    clear hI hres c4
    go_wp2
    go_ret3
    exact EP.of HR.out HB.out HEQ.out
 exact key.mono fun e w' ⟨res, v', h1, h2, h3, h4⟩ => ⟨res, v', h1, h2, h3, hfin res h4⟩
theorem elw (hnl : l.length = nl) (hl : nl ≤ 2900) (hL : Kd.C k51 w0 AL nl l) (hcl : nl ≤ cl) (hts : tsize l ≤ 9000000000000000000) : ∀ m, ElW l nl cl AL w0 m
 | 0 => fun i p deep t r W v hr _ _ hm => by have := (drop_lt hr).1; omega
 | m + 1 => elw_step hnl hl hL hcl hts m (elw hnl hl hL hcl hts m)
set_option maxHeartbeats 8000000 in
set_option maxRecDepth 100000 in
theorem elem_no (hnl : l.length = nl) (hL : Kd.C k51 w0 AL nl l) (i : Nat) (hi : i ≤ nl) (hl : nl ≤ 2900) (hno : nl ≤ i ∨ ∃ t r, l.drop i = t :: r ∧ ¬ t.f0 = 1) {W : World} (hB : Below w0.heap.size w0 W) :
 Calls Tryz.prog 35 #[.slice AL nl cl, .int .i64 i, .int .i64 (-1), .slice none 0 0, .int .i64 0] W fun e w' => e = .returned (.tuple #[.slice none 0 0, .int .i64 i, .bool false]) ∧ Below W.heap.size W w' := by
 have p3 : ((0 : Int) ≤ (i : Int)) = True := eq_true (by omega)
 rcases hno with hge | ⟨t, r, hr, hk⟩
 ·have p1 : ((nl : Int) ≤ (i : Int)) = True := eq_true (by omega)
  go_enter Tryz.func35, Tryz.ntmps35
  go_wp2
  go_ret3
  exact ⟨rfl, Below.refl _ _⟩
 ·obtain ⟨hil, e1, -⟩ := drop_lt hr
  obtain ⟨al, hA, r0, -, -, -, -⟩ := at_T51 (Kd.C_below hL hB) (i : Int) (by omega) (by omega)
  subst hA
  rw [e1, Int.toNat_natCast] at r0
  have p1 : ((nl : Int) ≤ (i : Int)) = False := eq_false (by omega)
  have p2 : ((i : Int) < (nl : Int)) = True := eq_true (by omega)
  have q1 : (t.f0 != 1) = true := by simpa using hk
  clear hk hr hL hB e1
  go_enter Tryz.func35, Tryz.ntmps35
  go_wp2
  go_ret3
  exact ⟨rfl, Below.refl _ _⟩
end
end Go.Proofs.YtlhhhlimjajnlaaGreat.X
end
section
set_option linter.unusedVariables false
set_option linter.unusedSimpArgs false
namespace Go.Proofs.YtlhhhlimjajnlaaGreat.R13
open Go.RowKit Go.Proofs.YtlhhhlimjajnlaaGreat Go.Proofs.YtlhhhlimjajnlaaGreat.Q Go.Proofs.YtlhhhlimjajnlaaGreat.P11 Go.Proofs.YtlhhhlimjajnlaaGreat.P12 Go.Proofs.YtlhhhlimjajnlaaGreatW.PrintWords Go.Proofs.YtlhhhlimjajnlaaGreat.X Go.Proofs.YtlhhhlimjajnlaaGreat.P13 Go.Proofs.YtlhhhlimjajnlaaGreat.Ck
theorem withL_inc (A : List ByteArray) (hA : Inc A) (s : ByteArray) : Inc (withL A s A [] false) ∧ ∀ x, x ∈ withL A s A [] false ↔ x ∈ A ∨ x = s := by
 have put : ∀ (r X : List ByteArray), (∀ y, y ∈ r → ¬ y.data.toList = s.data.toList) → withL A s r X true = X ++ r := by
  intro r
  induction r with
  | nil => intro X _; unfold withL; rw [if_pos rfl, List.append_nil]
  | cons a r ih =>
   intro X h
   unfold withL
   rw [if_neg (h a List.mem_cons_self), if_neg (fun e => by cases e.1), ih _ (fun y hy => h y (List.mem_cons_of_mem _ hy)), List.append_assoc]; rfl
 have main : ∀ (r X : List ByteArray), X ++ r = A → (∀ y, y ∈ X → y.data.toList < s.data.toList) → Inc (withL A s r X false) ∧ ∀ x, x ∈ withL A s r X false ↔ x ∈ A ∨ x = s := by
  intro r
  induction r with
  | nil =>
   intro X e h
   rw [List.append_nil] at e
   subst e
   unfold withL
   rw [if_neg (by decide)]
   refine ⟨?_, fun x => by rw [List.mem_append, List.mem_singleton]⟩
   unfold Inc
   rw [List.pairwise_append]
   exact ⟨hA, List.pairwise_singleton _ _, fun a ha b hb => by rw [List.mem_singleton.1 hb]; exact h a ha⟩
  | cons a r ih =>
   intro X e h
   have hA' := hA
   rw [← e] at hA'
   unfold Inc at hA'
   rw [List.pairwise_append, List.pairwise_cons] at hA'
   obtain ⟨g1, ⟨g2, g3⟩, g4⟩ := hA'
   unfold withL
   by_cases c : a.data.toList = s.data.toList
   ·rw [if_pos c]
    refine ⟨hA, fun x => ⟨Or.inl, ?_⟩⟩
    rintro (h | rfl)
    ·exact h
    ·rw [← data_inj c, ← e]; simp
   rw [if_neg c]
   by_cases c2 : s.data.toList < a.data.toList
   ·rw [if_pos ⟨rfl, c2⟩, put r _ (fun y hy e2 => by
     have := List.lt_trans c2 (g2 y hy)
     rw [e2] at this; exact u8_lt_irrefl _ this)]
    constructor
    ·rw [show X ++ [s] ++ [a] ++ r = X ++ s :: a :: r by simp]
     unfold Inc
     rw [List.pairwise_append, List.pairwise_cons, List.pairwise_cons]
     refine ⟨g1, ⟨fun b hb => ?_, g2, g3⟩, fun x hx b hb => ?_⟩
     ·rcases List.mem_cons.1 hb with rfl | hb
      ·exact c2
      ·exact List.lt_trans c2 (g2 b hb)
     ·rcases List.mem_cons.1 hb with rfl | hb
      ·exact h x hx
      ·exact g4 x hx b hb
    ·intro x
     rw [← e]
     simp only [List.mem_append, List.mem_cons, List.not_mem_nil, or_false]
     constructor
     ·rintro (((h | h) | h) | h)
      ·exact Or.inl (Or.inl h)
      ·exact Or.inr h
      ·exact Or.inl (Or.inr (Or.inl h))
      ·exact Or.inl (Or.inr (Or.inr h))
     ·rintro ((h | h | h) | h)
      ·exact Or.inl (Or.inl (Or.inl h))
      ·exact Or.inl (Or.inr h)
      ·exact Or.inr h
      ·exact Or.inl (Or.inl (Or.inr h))
   ·rw [if_neg fun e => c2 e.2]
    refine ih (X ++ [a]) (by rw [← e]; simp) fun y hy => ?_
    rcases List.mem_append.1 hy with hy | hy
    ·exact h y hy
    ·rw [List.mem_singleton.1 hy]
     exact Classical.byContradiction fun h => c (List.le_antisymm (List.not_lt.1 c2) (List.not_lt.1 h))
 exact main A [] rfl fun y hy => by cases hy
theorem numL_idx (s : ByteArray) : ∀ (A : List ByteArray) (i : Nat), s ∈ A → numL s A i = ((i + (A.map fun a => a.data.toList).idxOf s.data.toList : Nat) : Int)
 | [], i, h => by cases h
 | a :: r, i, h => by
  unfold numL
  rw [List.map_cons, List.idxOf_cons]
  by_cases c : a.data.toList = s.data.toList
  ·rw [if_pos c, show (a.data.toList == s.data.toList) = true by simpa using c]; rfl
  ·rw [if_neg c, show (a.data.toList == s.data.toList) = false by simpa using c]
   rw [numL_idx s r (i + 1) ((List.mem_cons.1 h).resolve_left fun e => c (by rw [e]))]
   simp only [cond_false]
   omega
theorem lim0_eq {p : PS} (h : Dp p) : ∀ (d i : Nat) (A : List ByteArray), p.n.length - i = d → i ≤ p.n.length → NmsUp p i A → (∀ j, j < i → (p.n.getD j Ck.nz).f0 = 1 → ¬ 64 < (deps p.n).getD j 0) →
 lim0 ((zipN p).drop i) ((deps p.n).take i) A = if p.dp = true then none else some ((sortedP (namesOf p)).map bytesL) := by
 intro d
 have hz := zipN_len h.len
 have hD := deps_len p.n
 induction d with
 | zero =>
  intro i A hd hi hA hdeep
  have hil : i = p.n.length := by omega
  subst hil
  rw [List.drop_eq_nil_of_le (by omega), lim0, names_all h.len A hA, if_neg]
  intro e
  obtain ⟨j, h1, h2, h3⟩ := h.deep.1 e
  exact hdeep j h1 h2 h3
 | succ d ih =>
  intro i A hd hi hA hdeep
  have hil : i < p.n.length := by omega
  have hat := zipN_at h.len i hil
  have hdat := deps_at p.n i hil
  have htake : (deps p.n).take (i + 1) = (deps p.n).take i ++ [(deps p.n).getD i 0] := by
   rw [List.take_succ_eq_append_getElem (by omega), List.getD_eq_getElem?_getD, List.getElem?_eq_getElem (by omega)]; rfl
  rw [drop_cons (by omega : i < (zipN p).length) zm]
  rw [show (zipN p).getD i zm = ⟨p.n.getD i Ck.nz, p.s.getD i nob⟩ from hat]
  have hdl : depL ((deps p.n).take i) ⟨p.n.getD i Ck.nz, p.s.getD i nob⟩ = (deps p.n).getD i 0 := by rw [hdat]; rfl
  unfold lim0
  rw [hdl]
  by_cases c : (p.n.getD i Ck.nz).f0 = 1 ∧ 64 < (deps p.n).getD i 0
  ·rw [if_pos c, if_pos (h.deep.2 ⟨i, hil, c.1, c.2⟩)]
  rw [if_neg c, ← htake]
  have hdeep' : ∀ j, j < i + 1 → (p.n.getD j Ck.nz).f0 = 1 → ¬ 64 < (deps p.n).getD j 0 := by
   intro j hj
   rcases Nat.lt_or_ge j i with hh | hh
   ·exact hdeep j hh
   ·have : j = i := by omega
    subst this; exact fun e e2 => c ⟨e, e2⟩
  refine ih (i + 1) _ (by omega) (by omega) ?_ hdeep'
  have hl := nmsL_len A ⟨p.n.getD i Ck.nz, p.s.getD i nob⟩
  unfold nmsL at hl ⊢
  simp only at hl ⊢
  by_cases c3 : (p.n.getD i Ck.nz).f0 = 3
  ·rw [if_pos c3]
   refine ⟨hA.1, by have := hA.2.1; omega, fun x => ?_⟩
   rw [hA.2.2]
   constructor
   ·rintro ⟨j, h1, h2, h3⟩; exact ⟨j, by omega, h2, h3⟩
   ·rintro ⟨j, h1, h2, h3⟩
    rcases Nat.lt_or_ge j i with hh | hh
    ·exact ⟨j, hh, h2, h3⟩
    ·have : j = i := by omega
     subst this; exact absurd c3 h2
  ·rw [if_neg c3] at hl ⊢
   obtain ⟨b1, b2⟩ := withL_inc A hA.1 (p.s.getD i nob)
   refine ⟨b1, by have := hA.2.1; omega, fun x => ?_⟩
   rw [b2, hA.2.2]
   constructor
   ·rintro (⟨j, h1, h2, h3⟩ | rfl)
    ·exact ⟨j, by omega, h2, h3⟩
    ·exact ⟨i, by omega, c3, rfl⟩
   ·rintro ⟨j, h1, h2, h3⟩
    rcases Nat.lt_or_ge j i with hh | hh
    ·exact Or.inl ⟨j, hh, h2, h3⟩
    ·have : j = i := by omega
     subst this; exact Or.inr h3.symm
theorem limT_eq {p : PS} (h : Dp p) : limT (zipN p) = if 5000 < p.n.length then ([], [], 18) else limR p := by
 have hz := zipN_len h.len
 have h0 := lim0_eq h p.n.length 0 [] rfl (Nat.zero_le _) ⟨List.Pairwise.nil, Nat.le_refl _, fun x => ⟨fun hx => (by cases hx), fun ⟨j, hj, _⟩ => absurd hj (by omega)⟩⟩ (fun j hj => by omega)
 rw [List.drop_zero, List.take_zero] at h0
 unfold limT
 rw [hz, h0]
 by_cases c : 5000 < p.n.length
 ·rw [if_pos c, if_pos c]
 rw [if_neg c, if_neg c]
 unfold limR
 by_cases cd : p.dp = true
 ·rw [if_pos cd, if_pos (Or.inl cd)]
 rw [if_neg cd]
 simp only [List.length_map]
 by_cases c2 : 1000 < (sortedP (namesOf p)).length
 ·rw [if_pos c2, if_pos (Or.inr c2)]
 rw [if_neg c2, if_neg fun e => e.elim cd c2]
 have hT := treeN_len p h.len
 have : (zipN p).map (nodL ((sortedP (namesOf p)).map bytesL)) = treeN p := by
  refine List.ext_getElem (by rw [List.length_map]; omega) fun i h1 h2 => ?_
  have hi : i < p.n.length := by omega
  have e1 := treeN_at p h.len i hi
  rw [List.getD_eq_getElem?_getD, List.getElem?_eq_getElem h2] at e1
  have e1 : (treeN p)[i] = _ := e1
  rw [e1, List.getElem_map]
  have e2 := zipN_at h.len i hi
  have e3 : (zipN p)[i]'(by omega) = rd_T104 (zipN p) (i : Int) := by
   unfold rd_T104
   rw [Int.toNat_natCast, List.getD_eq_getElem?_getD, List.getElem?_eq_getElem (by omega)]; rfl
  rw [e3, e2]
  unfold nodL numbered
  simp only
  by_cases c3 : (p.n.getD i Ck.nz).f0 = 3
  ·rw [if_pos c3, if_pos c3]
  ·rw [if_neg c3, if_neg c3]
   have hm : p.s.getD i nob ∈ (sortedP (namesOf p)).map bytesL := List.mem_map.2 ⟨_, (P13.mem_sorted _ _).2 (mem_names p h.len i hi c3), bytesL_data _⟩
   have hmm : ((sortedP (namesOf p)).map bytesL).map (fun a => a.data.toList) = sortedP (namesOf p) := by
    rw [List.map_map]
    have : ((fun a : ByteArray => a.data.toList) ∘ bytesL) = id := by funext l; show (bytesL l).data.toList = l; unfold bytesL; simp
    rw [this, List.map_id]
   rw [numL_idx _ _ 0 hm, hmm, Nat.zero_add]
 rw [this]
theorem texts_size : ∀ (r : List Tok) (s : ByteArray), (textsL r s).1.size ≤ s.size + tsize r
 | [], s => Nat.le_refl _
 | t :: r, s => by
  unfold textsL tsize
  split
  ·have := texts_size r (s ++ t.f4); rw [ByteArray.size_append] at this; simp only; omega
  split
  ·have := texts_size r s; simp only; omega
  ·simp only; omega
theorem parse_steps (d : ByteArray) (hl : (lexV d).1.length ≤ 2900) (hts : tsize (lexV d).1 ≤ 60000) (he : (lexV d).2 = 0) : ∃ (s1 : ByteArray) (c1 : Nat), textsL (lexV d).1 nob = (s1, c1) ∧ c1 ≤ (lexV d).1.length ∧ s1.size ≤ 60000 ∧
 ((((lexV d).1.length ≤ c1 ∨ ∃ t r, (lexV d).1.drop c1 = t :: r ∧ ¬ t.f0 = 1) ∧ parseV d = (([], []), 15)) ∨
 ∃ t r, (lexV d).1.drop c1 = t :: r ∧ t.f0 = 1 ∧ Alt false ((lexV d).1.drop c1) ∧ ∀ res, Res (lexV d).1 c1 psZero [] res → (res.2.2 = true → (c1 : Int) < res.2.1 ∧ 0 < res.1.length) →
  ((spacesB s1 = false ∨ res.2.2 = false) → parseV d = (([], []), 15)) ∧
  (spacesB s1 = true → res.2.2 = true → ∃ (j : Nat) (q : PS) (s2 : ByteArray) (c2 : Nat), res.2.1 = (j : Int) ∧ j ≤ (lexV d).1.length ∧ textsL ((lexV d).1.drop j) nob = (s2, c2) ∧ j + c2 ≤ (lexV d).1.length ∧ s2.size ≤ 60000 ∧
   ((spacesB s2 = false ∨ j + c2 < (lexV d).1.length) → parseV d = (([], []), 15)) ∧
   (spacesB s2 = true → ¬ j + c2 < (lexV d).1.length → zipN q = res.1 ∧ Dp q ∧ q.n.length ≤ 2900 ∧ parseV d = (((limT res.1).1, (limT res.1).2.1), (limT res.1).2.2)))) := by
 have halt := lexV_alt d he
 have hpv : parseV d = treeP (flushP ((lexV d).1.foldl X.stepT psZero)) := by unfold parseV; rw [if_pos he]
 rw [hpv]
 generalize hlV : (lexV d).1 = l at *
 have hm1 := texts_machine l psZero
 obtain ⟨ha1, ha2⟩ := texts_alt l nob halt
 have hle1 := textsL_le l nob
 have hz1 := texts_size l nob
 rw [show (nob : ByteArray).size = 0 from rfl] at hz1
 rw [show psZero.x = nob from rfl] at hm1
 obtain ⟨s1, hs1⟩ : ∃ s1, (textsL l nob).1 = s1 := ⟨_, rfl⟩
 obtain ⟨c1, hc1⟩ : ∃ c1, (textsL l nob).2 = c1 := ⟨_, rfl⟩
 have hsc : textsL l nob = (s1, c1) := by rw [← hs1, ← hc1]
 rw [hs1] at hz1
 rw [hs1, hc1] at hm1
 rw [hc1] at ha1 ha2 hle1
 obtain ⟨f1, f2, f3, f4⟩ := flush_out psZero rfl rfl rfl s1
 have bad : Bad (l.foldl X.stepT psZero) ∨ treeP (flushP (l.foldl X.stepT psZero)) = (([], []), 15) → treeP (flushP (l.foldl X.stepT psZero)) = (([], []), 15) := fun h => h.elim bad_tree id
 refine ⟨s1, c1, hsc, hle1, by omega, ?_⟩
 cases hr : l.drop c1 with
 | nil =>
  refine .inl ⟨.inl ?_, bad (.inr ?_)⟩
  ·rcases Nat.lt_or_ge c1 l.length with h | h
   ·rw [List.drop_eq_getElem_cons h] at hr; cases hr
   ·exact h
  ·rw [hm1, hr]
   show treeP (flushP { psZero with x := s1 }) = _
   unfold treeP
   rw [if_pos]
   right; right
   rw [f4]; rfl
 | cons t r =>
  obtain ⟨hil, e1, e3⟩ := drop_lt hr
  rw [hr] at ha1 ha2 hm1
  rcases ha2 t r rfl with k1 | k5
  rotate_left
  ·exact .inl ⟨.inr ⟨t, r, rfl, by omega⟩, bad (.inl (by rw [hm1]; exact out_end _ rfl t r k5))⟩
  refine .inr ⟨t, r, rfl, k1, ha1, fun res r2 r3 => ?_⟩
  by_cases hsp : spacesB s1 = true
  rotate_left
  ·have hsp' : spacesB s1 = false := by simpa using hsp
   exact ⟨fun _ => bad (.inl (by rw [hm1]; exact out_begin _ t r k1 (Or.inl (f2 hsp')))), fun h => absurd h hsp⟩
  have hst : X.stepT { psZero with x := s1 } t = X.stepT psZero t := by
   unfold X.stepT
   rw [if_neg (by omega), if_neg (by omega), if_pos k1, if_neg (by omega), if_neg (by omega), if_pos k1, ← begin_flush { psZero with x := s1 }, f1 hsp]
  have hfold : l.foldl X.stepT psZero = (l.drop c1).foldl X.stepT psZero := by rw [hm1, hr, List.foldl_cons, List.foldl_cons, hst]
  refine ⟨fun h => bad (.inl ?_), fun _ hres => ?_⟩
  ·rcases h with h | h
   ·rw [h] at hsp; cases hsp
   ·rw [hfold]; exact r2.2 h
  have hlt := (r3 hres).1
  have hpos := (r3 hres).2
  obtain ⟨j, q, h1, h2, h3, h4, h5, h6, h7, h8, h9, h10, ⟨un, us, h11, h12⟩, h13⟩ := r2.1 hres
  rw [h1] at hlt
  have h6 : q.o = [] := h6
  have hm2 := texts_machine (l.drop j) q
  obtain ⟨hb1, hb2⟩ := texts_alt (l.drop j) nob h13
  have hle2 := textsL_le (l.drop j) nob
  have hz2 := texts_size (l.drop j) nob
  have htd := tsize_dr l j
  rw [show (nob : ByteArray).size = 0 from rfl] at hz2
  rw [h7] at hm2
  rw [List.drop_drop] at hm2 hb1 hb2
  rw [List.length_drop] at hle2
  obtain ⟨s2, hs2⟩ : ∃ s2, (textsL (l.drop j) nob).1 = s2 := ⟨_, rfl⟩
  obtain ⟨c2, hc2⟩ : ∃ c2, (textsL (l.drop j) nob).2 = c2 := ⟨_, rfl⟩
  have hsc2 : textsL (l.drop j) nob = (s2, c2) := by rw [← hs2, ← hc2]
  rw [hs2] at hz2
  rw [hs2, hc2] at hm2
  rw [hc2] at hb1 hb2 hle2
  obtain ⟨u1, u2, u3, u4⟩ := flush_out q h6 h7 h8 s2
  have hnz : 0 < q.n.length := by
   rw [← h5, zipN_len h9] at hpos
   exact hpos
  have hf : l.foldl X.stepT psZero = (l.drop j).foldl X.stepT q := by rw [hfold, h4]
  refine ⟨j, q, s2, c2, h1, h3, hsc2, by omega, by omega, fun h => bad ?_, fun hs2' hge => ?_⟩
  ·rw [hf]
   cases hr2 : l.drop (j + c2) with
   | nil =>
    right
    have hs2' : spacesB s2 = false := h.resolve_right fun e => by rw [List.drop_eq_getElem_cons e] at hr2; cases hr2
    rw [hm2, hr2]
    show treeP (flushP { q with x := s2 }) = _
    unfold treeP
    rw [if_pos (Or.inl (u2 hs2'))]
   | cons t2 r2' =>
    left
    rw [hm2, hr2]
    rcases hb2 t2 r2' hr2 with k1' | k5'
    ·refine out_begin _ t2 r2' k1' ?_
     cases hsb : spacesB s2 with
     | false => exact Or.inl (u2 hsb)
     | true => exact Or.inr ⟨u3, by rw [u4]; exact hnz⟩
    ·exact out_end { q with x := s2 } h6 t2 r2' k5'
  ·have hr2 : l.drop (j + c2) = [] := List.drop_eq_nil_of_le (by omega)
   have hq : flushP ((l.drop j).foldl X.stepT q) = q := by
    rw [hm2, hr2]
    exact u1 hs2'
   have hDq : Dp q := by
    have := (Dp.run l dp_zero).flush
    rw [hf, hq] at this
    exact this
   refine ⟨h5, hDq, by omega, ?_⟩
   have hlt := lim_tree q hDq h8 h6 hnz
   rw [← limT_eq hDq] at hlt
   rw [hf, hq, ← h5, hlt]
end Go.Proofs.YtlhhhlimjajnlaaGreat.R13
end
