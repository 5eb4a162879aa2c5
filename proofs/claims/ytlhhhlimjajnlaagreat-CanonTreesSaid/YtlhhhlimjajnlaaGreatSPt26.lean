/- Parts of the proof of canonTrees_holds, kept and merged by a program of mine (wip/tools/slim.py) out of my texts: RefE Q14 -/
import Derived.Test.YtlhhhlimjajnlaaGreatSPt0
import Derived.Handy
import Derived.WalkMore
import Derived.Lib.Hide
import Derived.BigQuiet
import Derived.Deep.QuietTactic
import Derived.Deep.RegionHeld3
import Derived.Deep.RegionWith
import Derived.Test.YtlhhhlimjajnlaaGreatSPt25
import Derived.Test.YtlhhhlimjajnlaaGreatSPt4
import Derived.Test.YtlhhhlimjajnlaaGreatSPt23
import Derived.Test.YtlhhhlimjajnlaaGreatSPt24
section
set_option linter.unusedVariables false
set_option linter.unusedSimpArgs false
namespace Go.Proofs.YtlhhhlimjajnlaaGreat.RefE
open Go Go.RowKit Go.Proofs.YtlhhhlimjajnlaaGreat Go.Proofs.YtlhhhlimjajnlaaGreat.Q Go.Proofs.YtlhhhlimjajnlaaGreat.P11 Go.Proofs.YtlhhhlimjajnlaaGreatW.PrintWords
def entNames : List (List UInt8) := [[38, 108, 116, 59], [38, 103, 116, 59], [38, 97, 109, 112, 59], [38, 113, 117, 111, 116, 59], [38, 97, 112, 111, 115, 59]]
def entChars : List UInt8 := [60, 62, 38, 34, 39]
def entMarks : List (List UInt8) := [[38, 35, 120], [38, 35]]
def entBase (j : Nat) : Int := if j = 0 then 16 else 10
def numAt (l : List UInt8) (i : Int) (j : Nat) : Int × Int := numS l (i + (entMarks.getD j []).length) (entBase j)
def goodAt (l : List UInt8) (i : Int) (j : Nat) : Bool := decide (0 < (numAt l i j).2) && allowedB (numAt l i j).1
def markFrom (l : List UInt8) (i : Int) : Nat → Nat → List UInt8 × Int
 | 0, _ => ([], 0)
 | d + 1, j => if begB l i (entMarks.getD j []) && goodAt l i j then (encL (numAt l i j).1, ((entMarks.getD j []).length : Int) + (numAt l i j).2 + 1) else markFrom l i d (j + 1)
def nameFrom (l : List UInt8) (i : Int) : Nat → Nat → List UInt8 × Int
 | 0, _ => markFrom l i 2 0
 | d + 1, j => if begB l i (entNames.getD j []) then ([entChars.getD j 0], (entNames.getD j []).length) else nameFrom l i d (j + 1)
def refEnt (l : List UInt8) (i : Int) : List UInt8 × Int := nameFrom l i 5 0
theorem begins_c (s : ByteArray) (i : Int) (t : ByteArray) (b : Bool) (w : World) (hs : s.size ≤ 4294967296) (ht : t.size ≤ 4294967296) (h : begB s.data.toList i t.data.toList = b) :
 Calls Tryz.prog 137 #[.string s, .int .i64 i, .string t] w fun e w' => e = .returned (.bool b) ∧ Drawn0 w w' :=
 R1_begins.calls s i t b w (by rw [begins_f s i t hs ht, h])
theorem number_c (s : ByteArray) (i base n k : Int) (w : World) (hb : 0 < base ∧ base ≤ 16) (hs : s.size ≤ 4294967296) (h0 : 0 ≤ i) (h1 : i ≤ s.size) (h : numS s.data.toList i base = (n, k)) :
 Calls Tryz.prog 138 #[.string s, .int .i64 i, .int .i64 base] w fun e w' => e = .returned (.tuple #[.int .i64 n, .int .i64 k]) ∧ Drawn0 w w' :=
 R1_number.calls 64 s i base n k w (by rw [number_f s i base hb hs h0 h1, h])
end Go.Proofs.YtlhhhlimjajnlaaGreat.RefE
namespace Go.Proofs.YtlhhhlimjajnlaaGreat.X
open Go.RowKit Go.Proofs.YtlhhhlimjajnlaaGreatW.PrintWords
def R1_Entity.f (a0 : ByteArray) (a1 : Int) : Option (ByteArray × Int) := if a0.size ≤ 4294967296 then some (⟨(RefE.refEnt a0.data.toList a1).1.toArray⟩, (RefE.refEnt a0.data.toList a1).2) else none
end Go.Proofs.YtlhhhlimjajnlaaGreat.X
end
section
namespace Go.Proofs.YtlhhhlimjajnlaaGreat.X
end Go.Proofs.YtlhhhlimjajnlaaGreat.X
namespace Go.Proofs.YtlhhhlimjajnlaaGreat.Q
open Go.RowKit Go.Proofs.YtlhhhlimjajnlaaGreatW.PrintWords Go.Proofs.YtlhhhlimjajnlaaGreatW.PrintLast Go.Proofs.YtlhhhlimjajnlaaGreatW.PrintMore
attribute [local go_sem] max2_int min2_int max_two min_two max_three min_three max_four min_four   
open Go.Proofs.YtlhhhlimjajnlaaGreat.X
set_option linter.unusedVariables false
set_option linter.unusedSimpArgs false
def R2_decoded.l0 : Nat → ByteArray → ByteArray → Int → Option (ByteArray × Bool)
 | 0, _, _, _ => none
 | k + 1, x0, x4, x5 => if x5 < (x0.size : Int) then (if 0 ≤ x5 then (if (bt x0 x5) = 38 then ((R1_Entity.f x0 x5).bind fun bt172 => (if bt172.2 = 0 then (some ((⟨#[]⟩ : ByteArray), false)) else (if x4.size + bt172.1.size ≤ 9223372036854775807 then (R2_decoded.l0 k x0 (x4 ++ bt172.1) (wrap64 (x5 + bt172.2))) else (none)))) else (if x5 ≤ (wrap64 (x5 + 1)) then (if (wrap64 (x5 + 1)) ≤ (x0.size : Int) then (if x4.size + (x0.extract (x5 : Int).toNat ((wrap64 (x5 + 1)) : Int).toNat).size ≤ 9223372036854775807 then (R2_decoded.l0 k x0 (x4 ++ (x0.extract (x5 : Int).toNat ((wrap64 (x5 + 1)) : Int).toNat)) (wrap64 (x5 + 1))) else (none)) else (none)) else (none))) else (none)) else (some (x4, true))
def R2_decoded.f (k : Nat) (a0 : ByteArray) : Option (ByteArray × Bool) := R2_decoded.l0 k a0 (⟨#[]⟩ : ByteArray) 0
theorem R2_decoded.mono_l : ∀ k, (∀ y0 y1 y2, LeO (R2_decoded.l0 k y0 y1 y2) (R2_decoded.l0 (k + 1) y0 y1 y2))
 | 0 => fun _ _ _ r h => by simp [R2_decoded.l0] at h
 | k + 1 => by
  have ih0 := R2_decoded.mono_l k
  ·intro y0 y1 y2
   unfold R2_decoded.l0
   exact leT
theorem R2_decoded.mono : ∀ a0 k, LeO (R2_decoded.f k a0) (R2_decoded.f (k + 1) a0) := by
 intro a0 k
 have ih0 := R2_decoded.mono_l k
 unfold R2_decoded.f
 exact leT
mutual
def R2_attr.j0 : Nat → ByteArray → Int → Int → Bool → Option (Int × Int × Int × ByteArray × ByteArray × Bool)
 | 0, _, _, _, _ => none
 | k + 1, x0, x6, x7, x27 => if x27 = true then (some (0, 0, 0, (⟨#[]⟩ : ByteArray), (⟨#[]⟩ : ByteArray), false)) else ((R1_Skip.f k x0 x7).bind fun t177 => ((R2_begins.f x0 t177 (⟨#[61]⟩ : ByteArray)).bind fun t178 => (if t178 = true then ((R1_Skip.f k x0 (wrap64 (t177 + 1))).bind fun t179 => ((R2_begins.f x0 t179 (⟨#[34]⟩ : ByteArray)).bind fun t180 => (if t180 = true then (R2_attr.j1 k x0 x6 x7 t179 false) else ((R2_begins.f x0 t179 (⟨#[39]⟩ : ByteArray)).bind fun t181 => (R2_attr.j1 k x0 x6 x7 t179 (!t181)))))) else (some (0, 0, 0, (⟨#[]⟩ : ByteArray), (⟨#[]⟩ : ByteArray), false)))))
def R2_attr.j1 : Nat → ByteArray → Int → Int → Int → Bool → Option (Int × Int × Int × ByteArray × ByteArray × Bool)
 | 0, _, _, _, _, _ => none
 | k + 1, x0, x6, x7, x9, x50 => if x50 = true then (some (0, 0, 0, (⟨#[]⟩ : ByteArray), (⟨#[]⟩ : ByteArray), false)) else (if 0 ≤ x9 then (if x9 ≤ (wrap64 (x9 + 1)) then (if (wrap64 (x9 + 1)) ≤ (x0.size : Int) then ((R2_find.f k x0 (wrap64 (x9 + 1)) (x0.extract (x9 : Int).toNat ((wrap64 (x9 + 1)) : Int).toNat)).bind fun t182 => (if t182 < 0 then (some (0, 0, 0, (⟨#[]⟩ : ByteArray), (⟨#[]⟩ : ByteArray), false)) else (if 0 ≤ (wrap64 (x9 + 1)) then (if (wrap64 (x9 + 1)) ≤ t182 then (if t182 ≤ (x0.size : Int) then ((R2_find.f k (x0.extract ((wrap64 (x9 + 1)) : Int).toNat (t182 : Int).toNat) 0 (⟨#[60]⟩ : ByteArray)).bind fun t183 => (if t183 ≥ 0 then (some (0, 0, 0, (⟨#[]⟩ : ByteArray), (⟨#[]⟩ : ByteArray), false)) else ((R2_decoded.f k (x0.extract ((wrap64 (x9 + 1)) : Int).toNat (t182 : Int).toNat)).bind fun bt184 => (if 0 ≤ x6 then (if x6 ≤ x7 then (if x7 ≤ (x0.size : Int) then (some (2, x6, wrap64 (t182 + 1), x0.extract (x6 : Int).toNat (x7 : Int).toNat, bt184.1, bt184.2)) else (none)) else (none)) else (none))))) else (none)) else (none)) else (none)))) else (none)) else (none)) else (none))
end
def R2_attr.f (k : Nat) (a0 : ByteArray) (a1 : Int) : Option (Int × Int × Int × ByteArray × ByteArray × Bool) := (R1_Skip.f k a0 a1).bind fun t175 => ((R1_NameEnd.f k a0 t175).bind fun t176 => (if t175 = a1 then (R2_attr.j0 k a0 t175 t176 true) else (R2_attr.j0 k a0 t175 t176 (t176 == t175))))
theorem R2_attr.mono_l : ∀ k, (∀ y0 y1 y2 y3, LeO (R2_attr.j0 k y0 y1 y2 y3) (R2_attr.j0 (k + 1) y0 y1 y2 y3)) ∧ (∀ y0 y1 y2 y3 y4, LeO (R2_attr.j1 k y0 y1 y2 y3 y4) (R2_attr.j1 (k + 1) y0 y1 y2 y3 y4))
 | 0 => ⟨fun _ _ _ _ r h => by simp [R2_attr.j0] at h, fun _ _ _ _ _ r h => by simp [R2_attr.j1] at h⟩
 | k + 1 => by
  obtain ⟨ih0, ih1⟩ := R2_attr.mono_l k
  refine ⟨?_, ?_⟩
  ·intro y0 y1 y2 y3
   unfold R2_attr.j0
   have mo0 := @R1_NameEnd.mono; have mo1 := @R1_Skip.mono; have mo2 := @R2_decoded.mono; have mo3 := @R2_find.mono; exact leT
  ·intro y0 y1 y2 y3 y4
   unfold R2_attr.j1
   have mo0 := @R1_NameEnd.mono; have mo1 := @R1_Skip.mono; have mo2 := @R2_decoded.mono; have mo3 := @R2_find.mono; exact leT
theorem R2_attr.mono : ∀ a0 a1 k, LeO (R2_attr.f k a0 a1) (R2_attr.f (k + 1) a0 a1) := by
 intro a0 a1 k
 obtain ⟨ih0, ih1⟩ := R2_attr.mono_l k
 unfold R2_attr.f
 have mo0 := @R1_NameEnd.mono; have mo1 := @R1_Skip.mono; have mo2 := @R2_decoded.mono; have mo3 := @R2_find.mono; exact leT
def R2_tag.l0 : Nat → ByteArray → List (S51) → Option ((List (S51)) × Bool)
 | 0, _, _ => none
 | k + 1, x0, x7 => if 0 ≤ (wrap64 ((x7.length : Int) - 1)) then (if (wrap64 ((x7.length : Int) - 1)) < (x7.length : Int) then ((R1_Skip.f k x0 ((rd_T51 x7 (wrap64 ((x7.length : Int) - 1))).f2)).bind fun t191 => ((R2_begins.f x0 t191 (⟨#[62]⟩ : ByteArray)).bind fun t192 => (if t192 = true then (if x7.length < 2513169434916 then (some ((x7 ++ [(⟨3, t191, wrap64 (t191 + 1), (⟨#[]⟩ : ByteArray), (⟨#[]⟩ : ByteArray)⟩ : S51)]), true)) else (none)) else ((R2_begins.f x0 t191 (⟨#[47, 62]⟩ : ByteArray)).bind fun t196 => (if t196 = true then (if x7.length < 2513169434916 then (some ((x7 ++ [(⟨4, t191, wrap64 (t191 + 2), (⟨#[]⟩ : ByteArray), (⟨#[]⟩ : ByteArray)⟩ : S51)]), true)) else (none)) else ((R2_attr.f k x0 ((rd_T51 x7 (wrap64 ((x7.length : Int) - 1))).f2)).bind fun bt200 => (if bt200.2.2.2.2.2 = true then (if x7.length < 2513169434916 then (R2_tag.l0 k x0 (x7 ++ [(⟨bt200.1, bt200.2.1, bt200.2.2.1, bt200.2.2.2.1, bt200.2.2.2.2.1⟩ : S51)])) else (none)) else (some (([] : List (S51)), false))))))))) else (none)) else (none)
def R2_tag.f (k : Nat) (a0 : ByteArray) (a1 : Int) : Option ((List (S51)) × Bool) := (R1_NameEnd.f k a0 (wrap64 (a1 + 1))).bind fun t186 => (if t186 = (wrap64 (a1 + 1)) then (some (([] : List (S51)), false)) else (if 0 ≤ (wrap64 (a1 + 1)) then (if (wrap64 (a1 + 1)) ≤ t186 then (if t186 ≤ (a0.size : Int) then (R2_tag.l0 k a0 (([(⟨1, a1, t186, a0.extract ((wrap64 (a1 + 1)) : Int).toNat (t186 : Int).toNat, (⟨#[]⟩ : ByteArray)⟩ : S51)] : List (S51)))) else (none)) else (none)) else (none)))
theorem R2_tag.mono_l : ∀ k, (∀ y0 y1, LeO (R2_tag.l0 k y0 y1) (R2_tag.l0 (k + 1) y0 y1))
 | 0 => fun _ _ r h => by simp [R2_tag.l0] at h
 | k + 1 => by
  have ih0 := R2_tag.mono_l k
  ·intro y0 y1
   unfold R2_tag.l0
   have mo0 := @R1_NameEnd.mono; have mo1 := @R1_Skip.mono; have mo2 := @R2_attr.mono; exact leT
theorem R2_tag.mono : ∀ a0 a1 k, LeO (R2_tag.f k a0 a1) (R2_tag.f (k + 1) a0 a1) := by
 intro a0 a1 k
 have ih0 := R2_tag.mono_l k
 unfold R2_tag.f
 have mo0 := @R1_NameEnd.mono; have mo1 := @R1_Skip.mono; have mo2 := @R2_attr.mono; exact leT
def R2_piece.f (k : Nat) (a0 : ByteArray) (a1 : Int) : Option ((List (S51)) × Bool) := (R2_begins.f a0 a1 (⟨#[60, 33, 45, 45]⟩ : ByteArray)).bind fun t210 => (if t210 = true then ((R2_find.f k a0 (wrap64 (a1 + 4)) (⟨#[45, 45]⟩ : ByteArray)).bind fun t211 => (if t211 < 0 then (some (([] : List (S51)), false)) else ((R2_begins.f a0 t211 (⟨#[45, 45, 62]⟩ : ByteArray)).bind fun t212 => (if t212 = true then (if 0 ≤ (wrap64 (a1 + 4)) then (if (wrap64 (a1 + 4)) ≤ t211 then (if t211 ≤ (a0.size : Int) then (some ((([(⟨7, a1, wrap64 (t211 + 3), (⟨#[]⟩ : ByteArray), a0.extract ((wrap64 (a1 + 4)) : Int).toNat (t211 : Int).toNat⟩ : S51)] : List (S51))), true)) else (none)) else (none)) else (none)) else (some (([] : List (S51)), false)))))) else ((R2_begins.f a0 a1 (⟨#[60, 33, 91, 67, 68, 65, 84, 65, 91]⟩ : ByteArray)).bind fun t216 => (if t216 = true then ((R2_find.f k a0 (wrap64 (a1 + 9)) (⟨#[93, 93, 62]⟩ : ByteArray)).bind fun t217 => (if t217 < 0 then (some (([] : List (S51)), false)) else (if 0 ≤ (wrap64 (a1 + 9)) then (if (wrap64 (a1 + 9)) ≤ t217 then (if t217 ≤ (a0.size : Int) then (some ((([(⟨6, a1, wrap64 (t217 + 3), (⟨#[]⟩ : ByteArray), a0.extract ((wrap64 (a1 + 9)) : Int).toNat (t217 : Int).toNat⟩ : S51)] : List (S51))), true)) else (none)) else (none)) else (none)))) else ((R2_begins.f a0 a1 (⟨#[60, 47]⟩ : ByteArray)).bind fun t221 => (if t221 = true then ((R1_NameEnd.f k a0 (wrap64 (a1 + 2))).bind fun t222 => ((R1_Skip.f k a0 t222).bind fun t223 => (if t222 = (wrap64 (a1 + 2)) then (some (([] : List (S51)), false)) else ((R2_begins.f a0 t223 (⟨#[62]⟩ : ByteArray)).bind fun t224 => (if t224 = true then (if 0 ≤ (wrap64 (a1 + 2)) then (if (wrap64 (a1 + 2)) ≤ t222 then (if t222 ≤ (a0.size : Int) then (some ((([(⟨5, a1, wrap64 (t223 + 1), a0.extract ((wrap64 (a1 + 2)) : Int).toNat (t222 : Int).toNat, (⟨#[]⟩ : ByteArray)⟩ : S51)] : List (S51))), true)) else (none)) else (none)) else (none)) else (some (([] : List (S51)), false))))))) else ((R2_begins.f a0 a1 (⟨#[60]⟩ : ByteArray)).bind fun t228 => (if t228 = true then ((R2_tag.f k a0 a1).bind fun bt229 => (some (bt229.1, bt229.2))) else ((R2_find.f k a0 a1 (⟨#[60]⟩ : ByteArray)).bind fun t233 => (if t233 < 0 then (if 0 ≤ a1 then (if a1 ≤ (a0.size : Int) then (if (a0.size : Int) ≤ (a0.size : Int) then ((R2_decoded.f k (a0.extract (a1 : Int).toNat ((a0.size : Int) : Int).toNat)).bind fun bt234 => (some ((([(⟨6, a1, (a0.size : Int), (⟨#[]⟩ : ByteArray), bt234.1⟩ : S51)] : List (S51))), bt234.2))) else (none)) else (none)) else (none)) else (if 0 ≤ a1 then (if a1 ≤ t233 then (if t233 ≤ (a0.size : Int) then ((R2_decoded.f k (a0.extract (a1 : Int).toNat (t233 : Int).toNat)).bind fun bt239 => (some ((([(⟨6, a1, t233, (⟨#[]⟩ : ByteArray), bt239.1⟩ : S51)] : List (S51))), bt239.2))) else (none)) else (none)) else (none)))))))))))
theorem R2_piece.mono : ∀ a0 a1 k, LeO (R2_piece.f k a0 a1) (R2_piece.f (k + 1) a0 a1) := by
 intro a0 a1 k
 unfold R2_piece.f
 have mo0 := @R1_NameEnd.mono; have mo1 := @R1_Skip.mono; have mo2 := @R2_decoded.mono; have mo3 := @R2_find.mono; have mo4 := @R2_tag.mono; exact leT
def R2_Lex.l0 : Nat → ByteArray → List (S51) → Int → Option ((List (S51)) × Int)
 | 0, _, _, _ => none
 | k + 1, x0, x5, x6 => if x6 < (x0.size : Int) then ((R2_piece.f k x0 x6).bind fun bt245 => (if bt245.2 = true then (if (bt245.1.length : Int) = 0 then (some (([] : List (S51)), 15)) else (if x5.length + bt245.1.length < 2513169434916 then (if 0 ≤ (wrap64 ((bt245.1.length : Int) - 1)) then (if (wrap64 ((bt245.1.length : Int) - 1)) < (bt245.1.length : Int) then (R2_Lex.l0 k x0 (x5 ++ bt245.1) ((rd_T51 bt245.1 (wrap64 ((bt245.1.length : Int) - 1))).f2)) else (none)) else (none)) else (none))) else (some (([] : List (S51)), 15)))) else (some (x5, 0))
def R2_Lex.f (k : Nat) (a0 : ByteArray) : Option ((List (S51)) × Int) := if (a0.size : Int) > 65536 then (some (([] : List (S51)), 18)) else ((R1_Valid.f k a0).bind fun t244 => (if t244 = true then (R2_Lex.l0 k a0 ([] : List (S51)) 0) else (some (([] : List (S51)), 15))))
theorem R2_Lex.mono_l : ∀ k, (∀ y0 y1 y2, LeO (R2_Lex.l0 k y0 y1 y2) (R2_Lex.l0 (k + 1) y0 y1 y2))
 | 0 => fun _ _ _ r h => by simp [R2_Lex.l0] at h
 | k + 1 => by
  have ih0 := R2_Lex.mono_l k
  ·intro y0 y1 y2
   unfold R2_Lex.l0
   have mo0 := @R1_Valid.mono; have mo1 := @R2_piece.mono; exact leT
theorem R2_Lex.mono : ∀ a0 k, LeO (R2_Lex.f k a0) (R2_Lex.f (k + 1) a0) := by
 intro a0 k
 have ih0 := R2_Lex.mono_l k
 unfold R2_Lex.f
 have mo0 := @R1_Valid.mono; have mo1 := @R2_piece.mono; exact leT
end Go.Proofs.YtlhhhlimjajnlaaGreat.Q
end
