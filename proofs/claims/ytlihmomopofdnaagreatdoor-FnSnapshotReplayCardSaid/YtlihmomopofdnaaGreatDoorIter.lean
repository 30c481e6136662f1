/-
  maps.Keys and slices.Sorted of a map with string keys: the contracts of the library laid at this program.
-/
import Derived.Shelf.SlIter.Nil
import Derived.Shelf.SortM.Plain
import Derived.Shelf.SortM.SortNone
import Derived.Test.YtlihmomopofdnaaGreatDoorProg
namespace Go.Proofs.YtlihmomopofdnaaGreatDoor
open Go.RowKit Go.Maps Go.Sort Go.Shelf

def keys39_ren : Go.Shelf.Ren := ⟨fun | 7 => 39 | 10 => 53 | n => n, fun | 23 => 45 | 26 => 9 | 3 => 3 | 28 => 73 | 0 => 0 | 27 => 72 | 33 => 53 | 4 => 4 | n => n, fun | n => n⟩
theorem keys39 : Go.Proofs.SlLaysZ.n7 Tryz.prog keys39_ren := {
  mixed := by kernel_rfl
  f7 := ⟨Tryz.f39.name, by decide, Tryz.func39.trans (congrArg some (by kernel_rfl))⟩
  f10 := ⟨Tryz.f53.name, by decide, Tryz.func53.trans (congrArg some (by kernel_rfl))⟩
  t0 := Tryz.underlying0
  a0 := Tryz.isAgg0
  z0 := Tryz.sizeOf0
  v0 := Tryz.zeroValue0
  t4 := Tryz.underlying4
  a4 := Tryz.isAgg4
  z4 := Tryz.sizeOf4
  v4 := Tryz.zeroValue4
  t23 := Tryz.underlying45
  a23 := Tryz.isAgg45
  z23 := Tryz.sizeOf45
  v23 := Tryz.zeroValue45
  t26 := Tryz.underlying9
  a26 := Tryz.isAgg9
  z26 := Tryz.sizeOf9
  v26 := Tryz.zeroValue9
  t27 := Tryz.underlying72
  a27 := Tryz.isAgg72
  z27 := Tryz.sizeOf72
  v27 := Tryz.zeroValue72
  t28 := Tryz.underlying73
  a28 := Tryz.isAgg73
  z28 := Tryz.sizeOf73
  v28 := Tryz.zeroValue73
  t33 := Tryz.underlying53
  a33 := Tryz.isAgg53
  z33 := Tryz.sizeOf53
  v33 := Tryz.zeroValue53 }
def sorted38_ren : Go.Shelf.Ren := ⟨fun | 6 => 38 | 8 => 51 | 9 => 52 | 11 => 65 | 13 => 67 | 12 => 66 | 23 => 95 | 24 => 96 | 14 => 86 | 15 => 87 | 16 => 88 | 17 => 89 | 18 => 90 | 19 => 91 | 20 => 92 | 21 => 93 | 22 => 94 | 25 => 107 | 26 => 108 | 27 => 109 | 28 => 110 | 29 => 111 | 30 => 112 | 31 => 117 | n => n, fun | 26 => 9 | 28 => 73 | 24 => 57 | 0 => 0 | 3 => 3 | 37 => 96 | 48 => 124 | 50 => 108 | 4 => 4 | 40 => 118 | 39 => 117 | 45 => 61 | 5 => 5 | 9 => 9 | 51 => 136 | 55 => 140 | 57 => 150 | 58 => 151 | 33 => 53 | n => n, fun | n => n⟩
theorem sorted38 : Go.Proofs.SlLaysZ.n6 Tryz.prog sorted38_ren := {
  mixed := by kernel_rfl
  f6 := ⟨Tryz.f38.name, by decide, Tryz.func38.trans (congrArg some (by kernel_rfl))⟩
  f8 := ⟨Tryz.f51.name, by decide, Tryz.func51.trans (congrArg some (by kernel_rfl))⟩
  f11 := ⟨Tryz.f65.name, by decide, Tryz.func65.trans (congrArg some (by kernel_rfl))⟩
  t0 := Tryz.underlying0
  a0 := Tryz.isAgg0
  z0 := Tryz.sizeOf0
  v0 := Tryz.zeroValue0
  t24 := Tryz.underlying57
  a24 := Tryz.isAgg57
  z24 := Tryz.sizeOf57
  v24 := Tryz.zeroValue57
  t26 := Tryz.underlying9
  a26 := Tryz.isAgg9
  z26 := Tryz.sizeOf9
  v26 := Tryz.zeroValue9
  t28 := Tryz.underlying73
  a28 := Tryz.isAgg73
  z28 := Tryz.sizeOf73
  v28 := Tryz.zeroValue73
  i26 := by kernel_rfl }
def sort52_ren : Go.Shelf.Ren := ⟨fun | 6 => 52 | 8 => 67 | 9 => 66 | 19 => 95 | 20 => 96 | 21 => 86 | 22 => 87 | 23 => 88 | 24 => 89 | 25 => 90 | 26 => 91 | 27 => 92 | 28 => 93 | 29 => 94 | 36 => 107 | 31 => 108 | 32 => 109 | 37 => 110 | 38 => 111 | 39 => 112 | 41 => 117 | n => n, fun | 27 => 57 | 29 => 9 | 3 => 3 | 32 => 96 | 26 => 57 | 0 => 0 | 44 => 124 | 46 => 108 | 4 => 4 | 36 => 118 | 35 => 117 | 41 => 61 | 5 => 5 | 9 => 9 | 53 => 136 | 57 => 140 | 63 => 150 | 64 => 151 | n => n, fun | n => n⟩
theorem sort52 : Go.Proofs.SlLaysM.n6 Tryz.prog sort52_ren := {
  mixed := by kernel_rfl
  f6 := ⟨Tryz.f52.name, by decide, Tryz.func52.trans (congrArg some (by kernel_rfl))⟩
  f8 := Tryz.func67.trans (congrArg some (by kernel_rfl))
  f9 := ⟨Tryz.f66.name, by decide, Tryz.func66.trans (congrArg some (by kernel_rfl))⟩
  f19 := Tryz.func95.trans (congrArg some (by kernel_rfl))
  f20 := Tryz.func96.trans (congrArg some (by kernel_rfl))
  f21 := ⟨Tryz.f86.name, by decide, Tryz.func86.trans (congrArg some (by kernel_rfl))⟩
  f22 := ⟨Tryz.f87.name, by decide, Tryz.func87.trans (congrArg some (by kernel_rfl))⟩
  f23 := ⟨Tryz.f88.name, by decide, Tryz.func88.trans (congrArg some (by kernel_rfl))⟩
  f24 := ⟨Tryz.f89.name, by decide, Tryz.func89.trans (congrArg some (by kernel_rfl))⟩
  f25 := ⟨Tryz.f90.name, by decide, Tryz.func90.trans (congrArg some (by kernel_rfl))⟩
  f26 := ⟨Tryz.f91.name, by decide, Tryz.func91.trans (congrArg some (by kernel_rfl))⟩
  f27 := ⟨Tryz.f92.name, by decide, Tryz.func92.trans (congrArg some (by kernel_rfl))⟩
  f28 := ⟨Tryz.f93.name, by decide, Tryz.func93.trans (congrArg some (by kernel_rfl))⟩
  f29 := ⟨Tryz.f94.name, by decide, Tryz.func94.trans (congrArg some (by kernel_rfl))⟩
  f31 := Tryz.func108.trans (congrArg some (by kernel_rfl))
  f32 := Tryz.func109.trans (congrArg some (by kernel_rfl))
  f36 := ⟨Tryz.f107.name, by decide, Tryz.func107.trans (congrArg some (by kernel_rfl))⟩
  f37 := ⟨Tryz.f110.name, by decide, Tryz.func110.trans (congrArg some (by kernel_rfl))⟩
  f38 := ⟨Tryz.f111.name, by decide, Tryz.func111.trans (congrArg some (by kernel_rfl))⟩
  f39 := ⟨Tryz.f112.name, by decide, Tryz.func112.trans (congrArg some (by kernel_rfl))⟩
  f41 := ⟨Tryz.f117.name, by decide, Tryz.func117.trans (congrArg some (by kernel_rfl))⟩
  t0 := Tryz.underlying0
  a0 := Tryz.isAgg0
  z0 := Tryz.sizeOf0
  v0 := Tryz.zeroValue0
  t3 := Tryz.underlying3
  a3 := Tryz.isAgg3
  z3 := Tryz.sizeOf3
  v3 := Tryz.zeroValue3
  t4 := Tryz.underlying4
  a4 := Tryz.isAgg4
  z4 := Tryz.sizeOf4
  v4 := Tryz.zeroValue4
  t5 := Tryz.underlying5
  a5 := Tryz.isAgg5
  z5 := Tryz.sizeOf5
  v5 := Tryz.zeroValue5
  t9 := Tryz.underlying9
  a9 := Tryz.isAgg9
  z9 := Tryz.sizeOf9
  v9 := Tryz.zeroValue9
  t26 := Tryz.underlying57
  a26 := Tryz.isAgg57
  z26 := Tryz.sizeOf57
  v26 := Tryz.zeroValue57
  t27 := Tryz.underlying57
  a27 := Tryz.isAgg57
  z27 := Tryz.sizeOf57
  v27 := Tryz.zeroValue57
  t29 := Tryz.underlying9
  a29 := Tryz.isAgg9
  z29 := Tryz.sizeOf9
  v29 := Tryz.zeroValue9
  t32 := Tryz.underlying96
  a32 := Tryz.isAgg96
  z32 := Tryz.sizeOf96
  v32 := Tryz.zeroValue96
  t35 := Tryz.underlying117
  a35 := Tryz.isAgg117
  z35 := Tryz.sizeOf117
  v35 := Tryz.zeroValue117
  t36 := Tryz.underlying118
  a36 := Tryz.isAgg118
  z36 := Tryz.sizeOf118
  v36 := Tryz.zeroValue118
  t41 := Tryz.underlying61
  a41 := Tryz.isAgg61
  z41 := Tryz.sizeOf61
  v41 := Tryz.zeroValue61
  t44 := Tryz.underlying124
  a44 := Tryz.isAgg124
  z44 := Tryz.sizeOf124
  v44 := Tryz.zeroValue124
  t46 := Tryz.underlying108
  a46 := Tryz.isAgg108
  z46 := Tryz.sizeOf108
  v46 := Tryz.zeroValue108
  t53 := Tryz.underlying136
  a53 := Tryz.isAgg136
  z53 := Tryz.sizeOf136
  v53 := Tryz.zeroValue136
  t57 := Tryz.underlying140
  a57 := Tryz.isAgg140
  z57 := Tryz.sizeOf140
  v57 := Tryz.zeroValue140
  t63 := Tryz.underlying150
  a63 := Tryz.isAgg150
  z63 := Tryz.sizeOf150
  v63 := Tryz.zeroValue150
  t64 := Tryz.underlying151
  a64 := Tryz.isAgg151
  z64 := Tryz.sizeOf151
  v64 := Tryz.zeroValue151 }
theorem sorts38 (m : Nat) : AnyZ.SortsIn Tryz.prog sorted38_ren Fence.wide m :=
  ⟨fun blk off cap ss W hH hblk hsz => callsIn_wide.2 (AnyM.slices_Sort_string sort52 blk off cap ss W hH hblk hsz),
   fun p cap W => callsIn_wide.2 (AnyM.slices_Sort_string_none sort52 p cap W)⟩

theorem maps_Keys_39 (mb : Option Nat) (W : World) : CallsIn Fence.wide 5 Tryz.prog 39 #[.map mb] W fun e w' => e = .returned (.func (.func 53) #[] #[.pointer (some ⟨W.heap.size, 0, none⟩)]) ∧ w' = W.alloc (.cells #[.map mb] 45) :=
  AnyZ.keys_in keys39 Fence.wide 5 trivial rfl mb W

set_option maxHeartbeats 1000000 in
theorem slices_Sorted_keys_38_39 {H : Type} (b nn : Nat) (D0 : DataW H) (R : Value → Option (DataW H × List MemPlace)) (w : World) (hown : w.ownsMap Tryz.prog 9 R b nn D0) (hmax : Maps.size D0 ≤ maxLen) (hbytes : Maps.size D0 * 16 ≤ 140737488355328) :
    CallsIn Fence.wide 5 Tryz.prog 38 #[.func (.func 53) #[] #[.pointer (some ⟨w.heap.size, 0, none⟩)]] (w.alloc (.cells #[.map (some b)] 45)) fun e w' => ∃ (v : Value) (ss : List (List UInt8)), e = .returned v ∧ ss.Perm (strKeys D0) ∧
      w'.ownsRow (w.alloc (.cells #[.map (some b)] 45)).heap.size 9 1 v ss.length ((ss.mergeSort (fun x y => decide (x ≤ y))).map encStr) ∧ (v = .slice none 0 0 ↔ ss = []) ∧ Below (w.alloc (.cells #[.map (some b)] 45)).heap.size (w.alloc (.cells #[.map (some b)] 45)) w' := by
  have hbl := hown.lt
  have hseq : SeqGives Fence.wide 2 Tryz.prog 53 #[.pointer (some ⟨w.heap.size, 0, none⟩)] encStr (fun ss => ss.Perm (strKeys D0)) (Maps.size D0) (w.alloc (.cells #[.map (some b)] 45)) :=
    AnyZ.keys_gives (ρ := keys39_ren) { keys39 with } Fence.wide _ trivial rfl (by omega) w.heap.size b nn D0 _ (by simp) (by simp) (by
      obtain ⟨es, clock, hb, Ft, hs, hD⟩ := hown
      exact ⟨es, clock, (Below.heap_alloc _ _ b hbl).trans hb, Ft, hs, hD⟩)
  exact AnyZ.sorted_in sorted38 Fence.wide 5 trivial trivial trivial trivial rfl (by omega) (sorts38 _) (enters_of Tryz.func52 (by kernel_rfl) rfl) 53 #[.pointer (some ⟨w.heap.size, 0, none⟩)] trivial (enters_of Tryz.func53 (by kernel_rfl) rfl) _ _ hmax hbytes _ hseq

set_option maxHeartbeats 1000000 in
theorem slices_Sorted_keys_nil_38_39 (w : World) :
    CallsIn Fence.wide 5 Tryz.prog 38 #[.func (.func 53) #[] #[.pointer (some ⟨w.heap.size, 0, none⟩)]] (w.alloc (.cells #[.map none] 45)) fun e w' => ∃ (v : Value) (ss : List (List UInt8)), e = .returned v ∧ ss = [] ∧
      w'.ownsRow (w.alloc (.cells #[.map none] 45)).heap.size 9 1 v ss.length ((ss.mergeSort (fun x y => decide (x ≤ y))).map encStr) ∧ (v = .slice none 0 0 ↔ ss = []) ∧ Below (w.alloc (.cells #[.map none] 45)).heap.size (w.alloc (.cells #[.map none] 45)) w' := by
  have hseq : SeqGives Fence.wide 2 Tryz.prog 53 #[.pointer (some ⟨w.heap.size, 0, none⟩)] encStr (fun ss : List (List UInt8) => ss = []) 0 (w.alloc (.cells #[.map none] 45)) :=
    AnyZ.keys_gives_nil (ρ := keys39_ren) { keys39 with } Fence.wide _ trivial rfl w.heap.size _ (by simp) (by simp)
  exact AnyZ.sorted_in sorted38 Fence.wide 5 trivial trivial trivial trivial rfl (by omega) (sorts38 _) (enters_of Tryz.func52 (by kernel_rfl) rfl) 53 #[.pointer (some ⟨w.heap.size, 0, none⟩)] trivial (enters_of Tryz.func53 (by kernel_rfl) rfl) _ 0 (Nat.zero_le _) (by omega) _ hseq



end Go.Proofs.YtlihmomopofdnaaGreatDoor
