/- Parts of the proof of canonSpoilt_holds, kept and merged by a program of mine (wip/tools/slim.py) out of my texts: Iter -/
import Derived.Shelf.SlGeneric
import Derived.Shelf.SlIter.Nil
import Derived.Shelf.SortM.Plain
import Derived.Shelf.SortM.SortNone
import Derived.Ground.GgzProg
import Derived.Ground.SlgmProg
import Derived.Test.YtlhhhlimjajnlaaGreatProg
section
namespace Go.Proofs
open Go.Shelf
def Tryz.keys63_ren : Go.Shelf.Ren := ⟨fun | 7 => 63 | 10 => 90 | n => n, fun | 23 => 95 | 26 => 9 | 3 => 3 | 28 => 99 | 0 => 0 | 27 => 98 | 33 => 32 | 4 => 4 | n => n, fun | n => n⟩
theorem Tryz.keys63 : Go.Proofs.SlLaysZ.n7 Tryz.prog Tryz.keys63_ren := {
 mixed := by kernel_rfl
 f7 := ⟨Tryz.f63.name, by decide, Tryz.func63.trans (congrArg some (by kernel_rfl))⟩
 f10 := ⟨Tryz.f90.name, by decide, Tryz.func90.trans (congrArg some (by kernel_rfl))⟩
 t0 := Tryz.underlying0
 a0 := Tryz.isAgg0
 z0 := Tryz.sizeOf0
 v0 := Tryz.zeroValue0
 t4 := Tryz.underlying4
 a4 := Tryz.isAgg4
 z4 := Tryz.sizeOf4
 v4 := Tryz.zeroValue4
 t23 := Tryz.underlying95
 a23 := Tryz.isAgg95
 z23 := Tryz.sizeOf95
 v23 := Tryz.zeroValue95
 t26 := Tryz.underlying9
 a26 := Tryz.isAgg9
 z26 := Tryz.sizeOf9
 v26 := Tryz.zeroValue9
 t27 := Tryz.underlying98
 a27 := Tryz.isAgg98
 z27 := Tryz.sizeOf98
 v27 := Tryz.zeroValue98
 t28 := Tryz.underlying99
 a28 := Tryz.isAgg99
 z28 := Tryz.sizeOf99
 v28 := Tryz.zeroValue99
 t33 := Tryz.underlying32
 a33 := Tryz.isAgg32
 z33 := Tryz.sizeOf32
 v33 := Tryz.zeroValue32 }
def Tryz.sorted62_ren : Go.Shelf.Ren := ⟨fun | 6 => 62 | 8 => 88 | 9 => 89 | 11 => 113 | 13 => 115 | 12 => 114 | 23 => 134 | 24 => 135 | 14 => 125 | 15 => 126 | 16 => 127 | 17 => 128 | 18 => 129 | 19 => 130 | 20 => 131 | 21 => 132 | 22 => 133 | 25 => 146 | 26 => 147 | 27 => 148 | 28 => 149 | 29 => 150 | 30 => 151 | 31 => 156 | n => n, fun | 26 => 9 | 28 => 99 | 24 => 24 | 0 => 0 | 3 => 3 | 37 => 123 | 48 => 147 | 50 => 149 | 4 => 4 | 40 => 140 | 39 => 139 | 45 => 144 | 5 => 5 | 9 => 9 | 51 => 155 | 55 => 159 | 57 => 164 | 58 => 109 | 33 => 32 | n => n, fun | n => n⟩
theorem Tryz.sorted62 : Go.Proofs.SlLaysZ.n6 Tryz.prog Tryz.sorted62_ren := {
 mixed := by kernel_rfl
 f6 := ⟨Tryz.f62.name, by decide, Tryz.func62.trans (congrArg some (by kernel_rfl))⟩
 f8 := ⟨Tryz.f88.name, by decide, Tryz.func88.trans (congrArg some (by kernel_rfl))⟩
 f11 := ⟨Tryz.f113.name, by decide, Tryz.func113.trans (congrArg some (by kernel_rfl))⟩
 t0 := Tryz.underlying0
 a0 := Tryz.isAgg0
 z0 := Tryz.sizeOf0
 v0 := Tryz.zeroValue0
 t24 := Tryz.underlying24
 a24 := Tryz.isAgg24
 z24 := Tryz.sizeOf24
 v24 := Tryz.zeroValue24
 t26 := Tryz.underlying9
 a26 := Tryz.isAgg9
 z26 := Tryz.sizeOf9
 v26 := Tryz.zeroValue9
 t28 := Tryz.underlying99
 a28 := Tryz.isAgg99
 z28 := Tryz.sizeOf99
 v28 := Tryz.zeroValue99
 i26 := by kernel_rfl }
def Tryz.sort89_ren : Go.Shelf.Ren := ⟨fun | 6 => 89 | 8 => 115 | 9 => 114 | 19 => 134 | 20 => 135 | 21 => 125 | 22 => 126 | 23 => 127 | 24 => 128 | 25 => 129 | 26 => 130 | 27 => 131 | 28 => 132 | 29 => 133 | 36 => 146 | 31 => 147 | 32 => 148 | 37 => 149 | 38 => 150 | 39 => 151 | 41 => 156 | n => n, fun | 27 => 24 | 29 => 9 | 3 => 3 | 32 => 123 | 26 => 24 | 0 => 0 | 44 => 147 | 46 => 149 | 4 => 4 | 36 => 140 | 35 => 139 | 41 => 144 | 5 => 5 | 9 => 9 | 53 => 155 | 57 => 159 | 63 => 164 | 64 => 109 | n => n, fun | n => n⟩
theorem Tryz.sort89 : Go.Proofs.SlLaysM.n6 Tryz.prog Tryz.sort89_ren := {
 mixed := by kernel_rfl
 f6 := ⟨Tryz.f89.name, by decide, Tryz.func89.trans (congrArg some (by kernel_rfl))⟩
 f8 := Tryz.func115.trans (congrArg some (by kernel_rfl))
 f9 := ⟨Tryz.f114.name, by decide, Tryz.func114.trans (congrArg some (by kernel_rfl))⟩
 f19 := Tryz.func134.trans (congrArg some (by kernel_rfl))
 f20 := Tryz.func135.trans (congrArg some (by kernel_rfl))
 f21 := ⟨Tryz.f125.name, by decide, Tryz.func125.trans (congrArg some (by kernel_rfl))⟩
 f22 := ⟨Tryz.f126.name, by decide, Tryz.func126.trans (congrArg some (by kernel_rfl))⟩
 f23 := ⟨Tryz.f127.name, by decide, Tryz.func127.trans (congrArg some (by kernel_rfl))⟩
 f24 := ⟨Tryz.f128.name, by decide, Tryz.func128.trans (congrArg some (by kernel_rfl))⟩
 f25 := ⟨Tryz.f129.name, by decide, Tryz.func129.trans (congrArg some (by kernel_rfl))⟩
 f26 := ⟨Tryz.f130.name, by decide, Tryz.func130.trans (congrArg some (by kernel_rfl))⟩
 f27 := ⟨Tryz.f131.name, by decide, Tryz.func131.trans (congrArg some (by kernel_rfl))⟩
 f28 := ⟨Tryz.f132.name, by decide, Tryz.func132.trans (congrArg some (by kernel_rfl))⟩
 f29 := ⟨Tryz.f133.name, by decide, Tryz.func133.trans (congrArg some (by kernel_rfl))⟩
 f31 := Tryz.func147.trans (congrArg some (by kernel_rfl))
 f32 := Tryz.func148.trans (congrArg some (by kernel_rfl))
 f36 := ⟨Tryz.f146.name, by decide, Tryz.func146.trans (congrArg some (by kernel_rfl))⟩
 f37 := ⟨Tryz.f149.name, by decide, Tryz.func149.trans (congrArg some (by kernel_rfl))⟩
 f38 := ⟨Tryz.f150.name, by decide, Tryz.func150.trans (congrArg some (by kernel_rfl))⟩
 f39 := ⟨Tryz.f151.name, by decide, Tryz.func151.trans (congrArg some (by kernel_rfl))⟩
 f41 := ⟨Tryz.f156.name, by decide, Tryz.func156.trans (congrArg some (by kernel_rfl))⟩
 t0 := Tryz.underlying0
 a0 := Tryz.isAgg0
 z0 := Tryz.sizeOf0
 v0 := Tryz.zeroValue0
 t3 := Tryz.underlying3
 a3 := Tryz.isAgg3
 z3 := Tryz.sizeOf3
 v3 := Tryz.zeroValue3
 t4 := Tryz.underlying4
 a4 := Tryz.isAgg4
 z4 := Tryz.sizeOf4
 v4 := Tryz.zeroValue4
 t5 := Tryz.underlying5
 a5 := Tryz.isAgg5
 z5 := Tryz.sizeOf5
 v5 := Tryz.zeroValue5
 t9 := Tryz.underlying9
 a9 := Tryz.isAgg9
 z9 := Tryz.sizeOf9
 v9 := Tryz.zeroValue9
 t26 := Tryz.underlying24
 a26 := Tryz.isAgg24
 z26 := Tryz.sizeOf24
 v26 := Tryz.zeroValue24
 t27 := Tryz.underlying24
 a27 := Tryz.isAgg24
 z27 := Tryz.sizeOf24
 v27 := Tryz.zeroValue24
 t29 := Tryz.underlying9
 a29 := Tryz.isAgg9
 z29 := Tryz.sizeOf9
 v29 := Tryz.zeroValue9
 t32 := Tryz.underlying123
 a32 := Tryz.isAgg123
 z32 := Tryz.sizeOf123
 v32 := Tryz.zeroValue123
 t35 := Tryz.underlying139
 a35 := Tryz.isAgg139
 z35 := Tryz.sizeOf139
 v35 := Tryz.zeroValue139
 t36 := Tryz.underlying140
 a36 := Tryz.isAgg140
 z36 := Tryz.sizeOf140
 v36 := Tryz.zeroValue140
 t41 := Tryz.underlying144
 a41 := Tryz.isAgg144
 z41 := Tryz.sizeOf144
 v41 := Tryz.zeroValue144
 t44 := Tryz.underlying147
 a44 := Tryz.isAgg147
 z44 := Tryz.sizeOf147
 v44 := Tryz.zeroValue147
 t46 := Tryz.underlying149
 a46 := Tryz.isAgg149
 z46 := Tryz.sizeOf149
 v46 := Tryz.zeroValue149
 t53 := Tryz.underlying155
 a53 := Tryz.isAgg155
 z53 := Tryz.sizeOf155
 v53 := Tryz.zeroValue155
 t57 := Tryz.underlying159
 a57 := Tryz.isAgg159
 z57 := Tryz.sizeOf159
 v57 := Tryz.zeroValue159
 t63 := Tryz.underlying164
 a63 := Tryz.isAgg164
 z63 := Tryz.sizeOf164
 v63 := Tryz.zeroValue164
 t64 := Tryz.underlying109
 a64 := Tryz.isAgg109
 z64 := Tryz.sizeOf109
 v64 := Tryz.zeroValue109 }
open Go.RowKit Go.Maps Go.Sort Go.Shelf
theorem Tryz.sorts62 (m : Nat) : AnyZ.SortsIn Tryz.prog Tryz.sorted62_ren Fence.wide m :=
 ⟨fun blk off cap ss W hH hblk hsz => callsIn_wide.2 (AnyM.slices_Sort_string Tryz.sort89 blk off cap ss W hH hblk hsz),
  fun p cap W => callsIn_wide.2 (AnyM.slices_Sort_string_none Tryz.sort89 p cap W)⟩
theorem Tryz.maps_Keys_63 (mb : Option Nat) (W : World) : CallsIn Fence.wide 5 Tryz.prog 63 #[.map mb] W fun e w' => e = .returned (.func (.func 90) #[] #[.pointer (some ⟨W.heap.size, 0, none⟩)]) ∧ w' = W.alloc (.cells #[.map mb] 95) :=
 AnyZ.keys_in Tryz.keys63 Fence.wide 5 trivial rfl mb W
set_option maxHeartbeats 1000000 in
theorem Tryz.slices_Sorted_keys_62_63 {H : Type} (b nn : Nat) (D0 : DataW H) (R : Value → Option (DataW H × List MemPlace)) (w : World) (hown : w.ownsMap Tryz.prog 9 R b nn D0) (hmax : Maps.size D0 ≤ maxLen) (hbytes : Maps.size D0 * 16 ≤ 140737488355328) :
 CallsIn Fence.wide 5 Tryz.prog 62 #[.func (.func 90) #[] #[.pointer (some ⟨w.heap.size, 0, none⟩)]] (w.alloc (.cells #[.map (some b)] 95)) fun e w' => ∃ (v : Value) (ss : List (List UInt8)), e = .returned v ∧ ss.Perm (strKeys D0) ∧
  w'.ownsRow (w.alloc (.cells #[.map (some b)] 95)).heap.size 9 1 v ss.length ((ss.mergeSort (fun x y => decide (x ≤ y))).map encStr) ∧ (v = .slice none 0 0 ↔ ss = []) ∧ Below (w.alloc (.cells #[.map (some b)] 95)).heap.size (w.alloc (.cells #[.map (some b)] 95)) w' := by
 have hbl := hown.lt
 have hseq : SeqGives Fence.wide 2 Tryz.prog 90 #[.pointer (some ⟨w.heap.size, 0, none⟩)] encStr (fun ss => ss.Perm (strKeys D0)) (Maps.size D0) (w.alloc (.cells #[.map (some b)] 95)) :=
  AnyZ.keys_gives (ρ := Tryz.keys63_ren) { Tryz.keys63 with } Fence.wide _ trivial rfl (by omega) w.heap.size b nn D0 _ (by simp) (by simp) (by
   obtain ⟨es, clock, hb, Ft, hs, hD⟩ := hown
   exact ⟨es, clock, (Below.heap_alloc _ _ b hbl).trans hb, Ft, hs, hD⟩)
 exact AnyZ.sorted_in Tryz.sorted62 Fence.wide 5 trivial trivial trivial trivial rfl (by omega) (Tryz.sorts62 _) (enters_of Tryz.func89 (by kernel_rfl) rfl) 90 #[.pointer (some ⟨w.heap.size, 0, none⟩)] trivial (enters_of Tryz.func90 (by kernel_rfl) rfl) _ _ hmax hbytes _ hseq
end Go.Proofs
end
