/- Parts of the proof of canonSpoilt_holds, kept and merged by a program of mine (wip/tools/slim.py) out of my texts: Shelf -/
import Derived.Shelf.Strings.Builder1
import Derived.Shelf.Small.Strs
import Derived.Shelf.Small.Wraps
import Derived.Shelf.Strings.BuilderF
import Derived.Shelf.Strings.BuilderK
import Derived.Shelf.Strings.Search1
import Derived.Shelf.Strings.Search2
import Derived.Shelf.Strings.Search3
import Derived.Shelf.Strings.Cut
import Derived.Shelf.LaysM
import Derived.Shelf.Strings.Shaped
import Derived.Shelf.Strings.Prefix
import Derived.Test.YtlhhhlimjajnlaaGreatProg
section
namespace Go.Proofs
open Go.Shelf
def Tryz.lays170_ren : Go.Shelf.Ren := ⟨fun | 170 => 42 | n => n, fun | 70 => 62 | 3 => 3 | 0 => 0 | 72 => 65 | 37 => 63 | 5 => 5 | n => n, fun | n => n⟩
theorem Tryz.lays170 : Go.Proofs.Lays.n170 Tryz.prog Tryz.lays170_ren := {
 mixed := by kernel_rfl
 f170 := Tryz.func42.trans (congrArg some (by kernel_rfl))
 t0 := Tryz.underlying0
 a0 := Tryz.isAgg0
 z0 := Tryz.sizeOf0
 v0 := Tryz.zeroValue0
 t3 := Tryz.underlying3
 a3 := Tryz.isAgg3
 z3 := Tryz.sizeOf3
 v3 := Tryz.zeroValue3
 t37 := Tryz.underlying63
 a37 := Tryz.isAgg63
 z37 := Tryz.sizeOf63
 v37 := Tryz.zeroValue63
 t70 := Tryz.underlying62
 a70 := Tryz.isAgg62
 z70 := Tryz.sizeOf62
 v70 := Tryz.zeroValue62
 t72 := Tryz.underlying65
 a72 := Tryz.isAgg65
 z72 := Tryz.sizeOf65
 v72 := Tryz.zeroValue65 }
open Go.RowKit in
theorem Tryz.Builder_Len (B b : Nat) (bs : List Value) (w : World) (h : Lib.IsBuilder 65 5 B b bs w) :
 Calls Tryz.prog 42 #[.pointer (some ⟨b, 0, none⟩)] w fun e w' => e = .returned (.int .i64 bs.length) ∧ w' = w := Any.Builder_Len Tryz.lays170 B b bs w h
def Tryz.lays169_ren : Go.Shelf.Ren := ⟨fun | 169 => 43 | n => n, fun | 70 => 62 | 9 => 9 | 0 => 0 | 72 => 65 | 37 => 63 | 127 => 108 | 3 => 3 | 5 => 5 | n => n, fun | n => n⟩
theorem Tryz.lays169 : Go.Proofs.Lays.n169 Tryz.prog Tryz.lays169_ren := {
 mixed := by kernel_rfl
 f169 := Tryz.func43.trans (congrArg some (by kernel_rfl))
 t0 := Tryz.underlying0
 a0 := Tryz.isAgg0
 z0 := Tryz.sizeOf0
 v0 := Tryz.zeroValue0
 t3 := Tryz.underlying3
 a3 := Tryz.isAgg3
 z3 := Tryz.sizeOf3
 v3 := Tryz.zeroValue3
 t9 := Tryz.underlying9
 a9 := Tryz.isAgg9
 z9 := Tryz.sizeOf9
 v9 := Tryz.zeroValue9
 t37 := Tryz.underlying63
 a37 := Tryz.isAgg63
 z37 := Tryz.sizeOf63
 v37 := Tryz.zeroValue63
 t70 := Tryz.underlying62
 a70 := Tryz.isAgg62
 z70 := Tryz.sizeOf62
 v70 := Tryz.zeroValue62
 t72 := Tryz.underlying65
 a72 := Tryz.isAgg65
 z72 := Tryz.sizeOf65
 v72 := Tryz.zeroValue65
 t127 := Tryz.underlying108
 a127 := Tryz.isAgg108
 z127 := Tryz.sizeOf108
 v127 := Tryz.zeroValue108 }
theorem Tryz.Builder_Extra_169 : Builder.Extra Tryz.prog Tryz.lays169_ren := {
 sizeBuilder := by kernel_rfl
 liesBuilder := by kernel_rfl
 t5 := Tryz.underlying5
 a5 := Tryz.isAgg5
 z5 := Tryz.sizeOf5
 v5 := Tryz.zeroValue5
 infoByte := by kernel_rfl
 cellsByte := by kernel_rfl
 sizeByte := by kernel_rfl
 neB5 := by decide }
open Go.RowKit in
theorem Tryz.Builder_String_any (B b : Nat) (l : List UInt8) (w : World) (h : Lib.IsBuilder 65 5 B b (Lib.byteCells l) w) (hBw : B ≤ w.heap.size) :
 Calls Tryz.prog 43 #[.pointer (some ⟨b, 0, none⟩)] w fun e w' => e = .returned (.string ⟨l.toArray⟩) ∧ Below B w w' := Any.Builder_String_any Tryz.lays169 Tryz.Builder_Extra_169 B b l w h hBw
def Tryz.lays137_ren : Go.Shelf.Ren := ⟨fun | 137 => 112 | 217 => 124 | 266 => 145 | n => n, fun | 9 => 9 | 5 => 5 | 3 => 3 | n => n, fun | n => n⟩
theorem Tryz.lays137 : Go.Proofs.Lays.n137 Tryz.prog Tryz.lays137_ren := {
 mixed := by kernel_rfl
 f137 := Tryz.func112.trans (congrArg some (by kernel_rfl))
 f217 := Tryz.func124.trans (congrArg some (by kernel_rfl))
 f266 := Tryz.func145.trans (congrArg some (by kernel_rfl))
 t3 := Tryz.underlying3
 a3 := Tryz.isAgg3
 z3 := Tryz.sizeOf3
 v3 := Tryz.zeroValue3
 t5 := Tryz.underlying5
 a5 := Tryz.isAgg5
 z5 := Tryz.sizeOf5
 v5 := Tryz.zeroValue5
 t9 := Tryz.underlying9
 a9 := Tryz.isAgg9
 z9 := Tryz.sizeOf9
 v9 := Tryz.zeroValue9 }
open Go.RowKit in
theorem Tryz.strings_IndexByte (s : ByteArray) (c : Int) (w : World) :
 Calls Tryz.prog 112 #[.string s, .int .u8 c] w fun e w' => e = .returned (.int .i64 (Lib.indexByte s.data.toList c.toNat.toUInt8)) ∧ w' = w := Any.strings_IndexByte Tryz.lays137 s c w
def Tryz.lays219_ren : Go.Shelf.Ren := ⟨fun | 219 => 120 | 217 => 124 | 225 => 139 | 224 => 140 | 267 => 141 | 266 => 145 | 314 => 152 | n => n, fun | 9 => 9 | 3 => 3 | 4 => 4 | 5 => 5 | 46 => 123 | 146 => 161 | 51 => 147 | n => n, fun | 1 => 0 | n => n⟩
theorem Tryz.lays219 : Go.Proofs.Lays.n219 Tryz.prog Tryz.lays219_ren := {
 mixed := by kernel_rfl
 f217 := Tryz.func124.trans (congrArg some (by kernel_rfl))
 f219 := Tryz.func120.trans (congrArg some (by kernel_rfl))
 f224 := Tryz.func140.trans (congrArg some (by kernel_rfl))
 f225 := Tryz.func139.trans (congrArg some (by kernel_rfl))
 f266 := Tryz.func145.trans (congrArg some (by kernel_rfl))
 f267 := Tryz.func141.trans (congrArg some (by kernel_rfl))
 f314 := Tryz.func152.trans (congrArg some (by kernel_rfl))
 t3 := Tryz.underlying3
 a3 := Tryz.isAgg3
 z3 := Tryz.sizeOf3
 v3 := Tryz.zeroValue3
 t4 := Tryz.underlying4
 a4 := Tryz.isAgg4
 z4 := Tryz.sizeOf4
 v4 := Tryz.zeroValue4
 t5 := Tryz.underlying5
 a5 := Tryz.isAgg5
 z5 := Tryz.sizeOf5
 v5 := Tryz.zeroValue5
 t9 := Tryz.underlying9
 a9 := Tryz.isAgg9
 z9 := Tryz.sizeOf9
 v9 := Tryz.zeroValue9
 t46 := Tryz.underlying123
 a46 := Tryz.isAgg123
 z46 := Tryz.sizeOf123
 v46 := Tryz.zeroValue123
 t51 := Tryz.underlying147
 a51 := Tryz.isAgg147
 z51 := Tryz.sizeOf147
 v51 := Tryz.zeroValue147
 t146 := Tryz.underlying161
 a146 := Tryz.isAgg161
 z146 := Tryz.sizeOf161
 v146 := Tryz.zeroValue161
 g1 := by kernel_rfl }
open Go.RowKit Go.Lib in
theorem Tryz.stringslite_Index_one (s : ByteArray) (c : UInt8) (w : World) :
 Calls Tryz.prog 120 #[.string s, .string ⟨#[c]⟩] w fun e w' => e = .returned (.int .i64 (Lib.indexByte s.data.toList c)) ∧ w' = w := Any.stringslite_Index_one Tryz.lays219 s c w
def Tryz.lays143_ren : Go.Shelf.Ren := ⟨fun | 143 => 106 | 219 => 120 | 217 => 124 | 225 => 139 | 224 => 140 | 267 => 141 | 266 => 145 | 314 => 152 | n => n, fun | 9 => 9 | 3 => 3 | 4 => 4 | 5 => 5 | 46 => 123 | 146 => 161 | 51 => 147 | n => n, fun | 1 => 0 | n => n⟩
theorem Tryz.lays143 : Go.Proofs.Lays.n143 Tryz.prog Tryz.lays143_ren := {
 mixed := by kernel_rfl
 f143 := Tryz.func106.trans (congrArg some (by kernel_rfl))
 f217 := Tryz.func124.trans (congrArg some (by kernel_rfl))
 f219 := Tryz.func120.trans (congrArg some (by kernel_rfl))
 f224 := Tryz.func140.trans (congrArg some (by kernel_rfl))
 f225 := Tryz.func139.trans (congrArg some (by kernel_rfl))
 f266 := Tryz.func145.trans (congrArg some (by kernel_rfl))
 f267 := Tryz.func141.trans (congrArg some (by kernel_rfl))
 f314 := Tryz.func152.trans (congrArg some (by kernel_rfl))
 t3 := Tryz.underlying3
 a3 := Tryz.isAgg3
 z3 := Tryz.sizeOf3
 v3 := Tryz.zeroValue3
 t4 := Tryz.underlying4
 a4 := Tryz.isAgg4
 z4 := Tryz.sizeOf4
 v4 := Tryz.zeroValue4
 t5 := Tryz.underlying5
 a5 := Tryz.isAgg5
 z5 := Tryz.sizeOf5
 v5 := Tryz.zeroValue5
 t9 := Tryz.underlying9
 a9 := Tryz.isAgg9
 z9 := Tryz.sizeOf9
 v9 := Tryz.zeroValue9
 t46 := Tryz.underlying123
 a46 := Tryz.isAgg123
 z46 := Tryz.sizeOf123
 v46 := Tryz.zeroValue123
 t51 := Tryz.underlying147
 a51 := Tryz.isAgg147
 z51 := Tryz.sizeOf147
 v51 := Tryz.zeroValue147
 t146 := Tryz.underlying161
 a146 := Tryz.isAgg161
 z146 := Tryz.sizeOf161
 v146 := Tryz.zeroValue161
 g1 := by kernel_rfl }
open Go.RowKit Go.Lib in
theorem Tryz.strings_Index (s sub : ByteArray) (m : Int) (w : World) (hs : s.size < 4294967281) (hm : w.cell? ⟨0, 0, none⟩ = some (.int .i64 m)) :
 Calls Tryz.prog 106 #[.string s, .string sub] w fun e w' => e = .returned (.int .i64 (Lib.index s.data.toList sub.data.toList)) ∧ w' = w := Any.strings_Index Tryz.lays143 s sub m w hs hm
def Tryz.lays144_ren : Go.Shelf.Ren := ⟨fun | 144 => 122 | 143 => 106 | 219 => 120 | 217 => 124 | 225 => 139 | 224 => 140 | 267 => 141 | 266 => 145 | 314 => 152 | n => n, fun | 9 => 9 | 4 => 4 | 3 => 3 | 5 => 5 | 46 => 123 | 146 => 161 | 51 => 147 | n => n, fun | 1 => 0 | n => n⟩
theorem Tryz.lays144 : Go.Proofs.Lays.n144 Tryz.prog Tryz.lays144_ren := {
 mixed := by kernel_rfl
 f143 := Tryz.func106.trans (congrArg some (by kernel_rfl))
 f144 := Tryz.func122.trans (congrArg some (by kernel_rfl))
 f217 := Tryz.func124.trans (congrArg some (by kernel_rfl))
 f219 := Tryz.func120.trans (congrArg some (by kernel_rfl))
 f224 := Tryz.func140.trans (congrArg some (by kernel_rfl))
 f225 := Tryz.func139.trans (congrArg some (by kernel_rfl))
 f266 := Tryz.func145.trans (congrArg some (by kernel_rfl))
 f267 := Tryz.func141.trans (congrArg some (by kernel_rfl))
 f314 := Tryz.func152.trans (congrArg some (by kernel_rfl))
 t3 := Tryz.underlying3
 a3 := Tryz.isAgg3
 z3 := Tryz.sizeOf3
 v3 := Tryz.zeroValue3
 t4 := Tryz.underlying4
 a4 := Tryz.isAgg4
 z4 := Tryz.sizeOf4
 v4 := Tryz.zeroValue4
 t5 := Tryz.underlying5
 a5 := Tryz.isAgg5
 z5 := Tryz.sizeOf5
 v5 := Tryz.zeroValue5
 t9 := Tryz.underlying9
 a9 := Tryz.isAgg9
 z9 := Tryz.sizeOf9
 v9 := Tryz.zeroValue9
 t46 := Tryz.underlying123
 a46 := Tryz.isAgg123
 z46 := Tryz.sizeOf123
 v46 := Tryz.zeroValue123
 t51 := Tryz.underlying147
 a51 := Tryz.isAgg147
 z51 := Tryz.sizeOf147
 v51 := Tryz.zeroValue147
 t146 := Tryz.underlying161
 a146 := Tryz.isAgg161
 z146 := Tryz.sizeOf161
 v146 := Tryz.zeroValue161
 g1 := by kernel_rfl }
open Go.RowKit Go.Lib in
theorem Tryz.strings_Contains_one (s : ByteArray) (c : UInt8) (w : World) :
 Calls Tryz.prog 122 #[.string s, .string ⟨#[c]⟩] w fun e w' => e = .returned (.bool (decide (0 ≤ Lib.indexByte s.data.toList c))) ∧ w' = w := Any.strings_Contains_one Tryz.lays144 s c w
def Tryz.lays145_ren : Go.Shelf.Ren := ⟨fun | 145 => 109 | 220 => 121 | 219 => 120 | 217 => 124 | 225 => 139 | 224 => 140 | 267 => 141 | 266 => 145 | 314 => 152 | n => n, fun | 9 => 9 | 4 => 4 | 59 => 128 | 3 => 3 | 5 => 5 | 46 => 123 | 146 => 161 | 51 => 147 | n => n, fun | 1 => 0 | n => n⟩
theorem Tryz.lays145 : Go.Proofs.Lays.n145 Tryz.prog Tryz.lays145_ren := {
 mixed := by kernel_rfl
 f145 := Tryz.func109.trans (congrArg some (by kernel_rfl))
 f217 := Tryz.func124.trans (congrArg some (by kernel_rfl))
 f219 := Tryz.func120.trans (congrArg some (by kernel_rfl))
 f220 := Tryz.func121.trans (congrArg some (by kernel_rfl))
 f224 := Tryz.func140.trans (congrArg some (by kernel_rfl))
 f225 := Tryz.func139.trans (congrArg some (by kernel_rfl))
 f266 := Tryz.func145.trans (congrArg some (by kernel_rfl))
 f267 := Tryz.func141.trans (congrArg some (by kernel_rfl))
 f314 := Tryz.func152.trans (congrArg some (by kernel_rfl))
 t3 := Tryz.underlying3
 a3 := Tryz.isAgg3
 z3 := Tryz.sizeOf3
 v3 := Tryz.zeroValue3
 t4 := Tryz.underlying4
 a4 := Tryz.isAgg4
 z4 := Tryz.sizeOf4
 v4 := Tryz.zeroValue4
 t5 := Tryz.underlying5
 a5 := Tryz.isAgg5
 z5 := Tryz.sizeOf5
 v5 := Tryz.zeroValue5
 t9 := Tryz.underlying9
 a9 := Tryz.isAgg9
 z9 := Tryz.sizeOf9
 v9 := Tryz.zeroValue9
 t46 := Tryz.underlying123
 a46 := Tryz.isAgg123
 z46 := Tryz.sizeOf123
 v46 := Tryz.zeroValue123
 t51 := Tryz.underlying147
 a51 := Tryz.isAgg147
 z51 := Tryz.sizeOf147
 v51 := Tryz.zeroValue147
 t59 := Tryz.underlying128
 a59 := Tryz.isAgg128
 z59 := Tryz.sizeOf128
 v59 := Tryz.zeroValue128
 t146 := Tryz.underlying161
 a146 := Tryz.isAgg161
 z146 := Tryz.sizeOf161
 v146 := Tryz.zeroValue161
 g1 := by kernel_rfl }
open Go.RowKit Go.Lib in
theorem Tryz.strings_Cut (s sep : ByteArray) (m : Int) (w : World) (hs : s.size < 4294967281) (hm : w.cell? ⟨0, 0, none⟩ = some (.int .i64 m)) :
 Calls Tryz.prog 109 #[.string s, .string sep] w fun e w' => e = .returned (.tuple #[.string ⟨(Lib.cut s.data.toList sep.data.toList).1.toArray⟩, .string ⟨(Lib.cut s.data.toList sep.data.toList).2.1.toArray⟩, .bool (Lib.cut s.data.toList sep.data.toList).2.2]) ∧ ∃ n, w' = w.drewN n := Any.strings_Cut Tryz.lays145 s sep m w hs hm
def Tryz.lays99_ren : Go.Shelf.Ren := ⟨fun | 99 => 104 | 206 => 119 | n => n, fun | 9 => 9 | 4 => 4 | 3 => 3 | n => n, fun | n => n⟩
theorem Tryz.lays99 : Go.Proofs.Lays.n99 Tryz.prog Tryz.lays99_ren := {
 mixed := by kernel_rfl
 f99 := Tryz.func104.trans (congrArg some (by kernel_rfl))
 f206 := Tryz.func119.trans (congrArg some (by kernel_rfl))
 t3 := Tryz.underlying3
 a3 := Tryz.isAgg3
 z3 := Tryz.sizeOf3
 v3 := Tryz.zeroValue3
 t4 := Tryz.underlying4
 a4 := Tryz.isAgg4
 z4 := Tryz.sizeOf4
 v4 := Tryz.zeroValue4
 t9 := Tryz.underlying9
 a9 := Tryz.isAgg9
 z9 := Tryz.sizeOf9
 v9 := Tryz.zeroValue9 }
open Go.RowKit Go.Lib in
theorem Tryz.strings_HasPrefix (s p : ByteArray) (w : World) :
 Calls Tryz.prog 104 #[.string s, .string p] w fun e w' => e = .returned (.bool (Lib.hasPrefix s.data.toList p.data.toList)) ∧ w' = w := Any.strings_HasPrefix Tryz.lays99 s p w
end Go.Proofs
end
