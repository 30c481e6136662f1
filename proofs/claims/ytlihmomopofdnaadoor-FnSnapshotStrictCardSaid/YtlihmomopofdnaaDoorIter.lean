/-
  maps.Keys and slices.Sorted of a map with string keys: the contracts of the library laid at this program.
-/
import Derived.Shelf.SlIter.Nil
import Derived.Shelf.SortM.Plain
import Derived.Shelf.SortM.SortNone
import Derived.Test.YtlihmomopofdnaaDoorProg
namespace Go.Proofs.YtlihmomopofdnaaDoor
open Go.RowKit Go.Maps Go.Sort Go.Shelf

def keys62_ren : Go.Shelf.Ren := ⟨fun | 7 => 62 | 10 => 78 | n => n, fun | 23 => 61 | 26 => 9 | 3 => 3 | 28 => 87 | 0 => 0 | 27 => 86 | 33 => 27 | 4 => 4 | n => n, fun | n => n⟩
theorem keys62 : Go.Proofs.SlLaysZ.n7 Tryd.prog keys62_ren := {
  mixed := by kernel_rfl
  f7 := ⟨Tryd.f62.name, by decide, Tryd.func62.trans (congrArg some (by kernel_rfl))⟩
  f10 := ⟨Tryd.f78.name, by decide, Tryd.func78.trans (congrArg some (by kernel_rfl))⟩
  t0 := Tryd.underlying0
  a0 := Tryd.isAgg0
  z0 := Tryd.sizeOf0
  v0 := Tryd.zeroValue0
  t4 := Tryd.underlying4
  a4 := Tryd.isAgg4
  z4 := Tryd.sizeOf4
  v4 := Tryd.zeroValue4
  t23 := Tryd.underlying61
  a23 := Tryd.isAgg61
  z23 := Tryd.sizeOf61
  v23 := Tryd.zeroValue61
  t26 := Tryd.underlying9
  a26 := Tryd.isAgg9
  z26 := Tryd.sizeOf9
  v26 := Tryd.zeroValue9
  t27 := Tryd.underlying86
  a27 := Tryd.isAgg86
  z27 := Tryd.sizeOf86
  v27 := Tryd.zeroValue86
  t28 := Tryd.underlying87
  a28 := Tryd.isAgg87
  z28 := Tryd.sizeOf87
  v28 := Tryd.zeroValue87
  t33 := Tryd.underlying27
  a33 := Tryd.isAgg27
  z33 := Tryd.sizeOf27
  v33 := Tryd.zeroValue27 }
def sorted61_ren : Go.Shelf.Ren := ⟨fun | 6 => 61 | 8 => 76 | 9 => 77 | 11 => 97 | 13 => 99 | 12 => 98 | 23 => 120 | 24 => 107 | 14 => 111 | 15 => 112 | 16 => 113 | 17 => 114 | 18 => 115 | 19 => 116 | 20 => 117 | 21 => 118 | 22 => 119 | 25 => 125 | 26 => 126 | 27 => 127 | 28 => 128 | 29 => 129 | 30 => 130 | 31 => 131 | n => n, fun | 26 => 9 | 28 => 87 | 24 => 48 | 0 => 0 | 3 => 3 | 37 => 101 | 48 => 120 | 50 => 109 | 4 => 4 | 40 => 134 | 39 => 133 | 45 => 52 | 5 => 5 | 9 => 9 | 51 => 148 | 55 => 152 | 57 => 156 | 58 => 44 | 33 => 27 | n => n, fun | n => n⟩
theorem sorted61 : Go.Proofs.SlLaysZ.n6 Tryd.prog sorted61_ren := {
  mixed := by kernel_rfl
  f6 := ⟨Tryd.f61.name, by decide, Tryd.func61.trans (congrArg some (by kernel_rfl))⟩
  f8 := ⟨Tryd.f76.name, by decide, Tryd.func76.trans (congrArg some (by kernel_rfl))⟩
  f11 := ⟨Tryd.f97.name, by decide, Tryd.func97.trans (congrArg some (by kernel_rfl))⟩
  t0 := Tryd.underlying0
  a0 := Tryd.isAgg0
  z0 := Tryd.sizeOf0
  v0 := Tryd.zeroValue0
  t24 := Tryd.underlying48
  a24 := Tryd.isAgg48
  z24 := Tryd.sizeOf48
  v24 := Tryd.zeroValue48
  t26 := Tryd.underlying9
  a26 := Tryd.isAgg9
  z26 := Tryd.sizeOf9
  v26 := Tryd.zeroValue9
  t28 := Tryd.underlying87
  a28 := Tryd.isAgg87
  z28 := Tryd.sizeOf87
  v28 := Tryd.zeroValue87
  i26 := by kernel_rfl }
def sort77_ren : Go.Shelf.Ren := ⟨fun | 6 => 77 | 8 => 99 | 9 => 98 | 19 => 120 | 20 => 107 | 21 => 111 | 22 => 112 | 23 => 113 | 24 => 114 | 25 => 115 | 26 => 116 | 27 => 117 | 28 => 118 | 29 => 119 | 36 => 125 | 31 => 126 | 32 => 127 | 37 => 128 | 38 => 129 | 39 => 130 | 41 => 131 | n => n, fun | 27 => 48 | 29 => 9 | 3 => 3 | 32 => 101 | 26 => 48 | 0 => 0 | 44 => 120 | 46 => 109 | 4 => 4 | 36 => 134 | 35 => 133 | 41 => 52 | 5 => 5 | 9 => 9 | 53 => 148 | 57 => 152 | 63 => 156 | 64 => 44 | n => n, fun | n => n⟩
theorem sort77 : Go.Proofs.SlLaysM.n6 Tryd.prog sort77_ren := {
  mixed := by kernel_rfl
  f6 := ⟨Tryd.f77.name, by decide, Tryd.func77.trans (congrArg some (by kernel_rfl))⟩
  f8 := Tryd.func99.trans (congrArg some (by kernel_rfl))
  f9 := ⟨Tryd.f98.name, by decide, Tryd.func98.trans (congrArg some (by kernel_rfl))⟩
  f19 := Tryd.func120.trans (congrArg some (by kernel_rfl))
  f20 := Tryd.func107.trans (congrArg some (by kernel_rfl))
  f21 := ⟨Tryd.f111.name, by decide, Tryd.func111.trans (congrArg some (by kernel_rfl))⟩
  f22 := ⟨Tryd.f112.name, by decide, Tryd.func112.trans (congrArg some (by kernel_rfl))⟩
  f23 := ⟨Tryd.f113.name, by decide, Tryd.func113.trans (congrArg some (by kernel_rfl))⟩
  f24 := ⟨Tryd.f114.name, by decide, Tryd.func114.trans (congrArg some (by kernel_rfl))⟩
  f25 := ⟨Tryd.f115.name, by decide, Tryd.func115.trans (congrArg some (by kernel_rfl))⟩
  f26 := ⟨Tryd.f116.name, by decide, Tryd.func116.trans (congrArg some (by kernel_rfl))⟩
  f27 := ⟨Tryd.f117.name, by decide, Tryd.func117.trans (congrArg some (by kernel_rfl))⟩
  f28 := ⟨Tryd.f118.name, by decide, Tryd.func118.trans (congrArg some (by kernel_rfl))⟩
  f29 := ⟨Tryd.f119.name, by decide, Tryd.func119.trans (congrArg some (by kernel_rfl))⟩
  f31 := Tryd.func126.trans (congrArg some (by kernel_rfl))
  f32 := Tryd.func127.trans (congrArg some (by kernel_rfl))
  f36 := ⟨Tryd.f125.name, by decide, Tryd.func125.trans (congrArg some (by kernel_rfl))⟩
  f37 := ⟨Tryd.f128.name, by decide, Tryd.func128.trans (congrArg some (by kernel_rfl))⟩
  f38 := ⟨Tryd.f129.name, by decide, Tryd.func129.trans (congrArg some (by kernel_rfl))⟩
  f39 := ⟨Tryd.f130.name, by decide, Tryd.func130.trans (congrArg some (by kernel_rfl))⟩
  f41 := ⟨Tryd.f131.name, by decide, Tryd.func131.trans (congrArg some (by kernel_rfl))⟩
  t0 := Tryd.underlying0
  a0 := Tryd.isAgg0
  z0 := Tryd.sizeOf0
  v0 := Tryd.zeroValue0
  t3 := Tryd.underlying3
  a3 := Tryd.isAgg3
  z3 := Tryd.sizeOf3
  v3 := Tryd.zeroValue3
  t4 := Tryd.underlying4
  a4 := Tryd.isAgg4
  z4 := Tryd.sizeOf4
  v4 := Tryd.zeroValue4
  t5 := Tryd.underlying5
  a5 := Tryd.isAgg5
  z5 := Tryd.sizeOf5
  v5 := Tryd.zeroValue5
  t9 := Tryd.underlying9
  a9 := Tryd.isAgg9
  z9 := Tryd.sizeOf9
  v9 := Tryd.zeroValue9
  t26 := Tryd.underlying48
  a26 := Tryd.isAgg48
  z26 := Tryd.sizeOf48
  v26 := Tryd.zeroValue48
  t27 := Tryd.underlying48
  a27 := Tryd.isAgg48
  z27 := Tryd.sizeOf48
  v27 := Tryd.zeroValue48
  t29 := Tryd.underlying9
  a29 := Tryd.isAgg9
  z29 := Tryd.sizeOf9
  v29 := Tryd.zeroValue9
  t32 := Tryd.underlying101
  a32 := Tryd.isAgg101
  z32 := Tryd.sizeOf101
  v32 := Tryd.zeroValue101
  t35 := Tryd.underlying133
  a35 := Tryd.isAgg133
  z35 := Tryd.sizeOf133
  v35 := Tryd.zeroValue133
  t36 := Tryd.underlying134
  a36 := Tryd.isAgg134
  z36 := Tryd.sizeOf134
  v36 := Tryd.zeroValue134
  t41 := Tryd.underlying52
  a41 := Tryd.isAgg52
  z41 := Tryd.sizeOf52
  v41 := Tryd.zeroValue52
  t44 := Tryd.underlying120
  a44 := Tryd.isAgg120
  z44 := Tryd.sizeOf120
  v44 := Tryd.zeroValue120
  t46 := Tryd.underlying109
  a46 := Tryd.isAgg109
  z46 := Tryd.sizeOf109
  v46 := Tryd.zeroValue109
  t53 := Tryd.underlying148
  a53 := Tryd.isAgg148
  z53 := Tryd.sizeOf148
  v53 := Tryd.zeroValue148
  t57 := Tryd.underlying152
  a57 := Tryd.isAgg152
  z57 := Tryd.sizeOf152
  v57 := Tryd.zeroValue152
  t63 := Tryd.underlying156
  a63 := Tryd.isAgg156
  z63 := Tryd.sizeOf156
  v63 := Tryd.zeroValue156
  t64 := Tryd.underlying44
  a64 := Tryd.isAgg44
  z64 := Tryd.sizeOf44
  v64 := Tryd.zeroValue44 }
theorem sorts61 (m : Nat) : AnyZ.SortsIn Tryd.prog sorted61_ren Fence.wide m :=
  ⟨fun blk off cap ss W hH hblk hsz => callsIn_wide.2 (AnyM.slices_Sort_string sort77 blk off cap ss W hH hblk hsz),
   fun p cap W => callsIn_wide.2 (AnyM.slices_Sort_string_none sort77 p cap W)⟩

theorem maps_Keys_62 (mb : Option Nat) (W : World) : CallsIn Fence.wide 5 Tryd.prog 62 #[.map mb] W fun e w' => e = .returned (.func (.func 78) #[] #[.pointer (some ⟨W.heap.size, 0, none⟩)]) ∧ w' = W.alloc (.cells #[.map mb] 61) :=
  AnyZ.keys_in keys62 Fence.wide 5 trivial rfl mb W

set_option maxHeartbeats 1000000 in
theorem slices_Sorted_keys_61_62 {H : Type} (b nn : Nat) (D0 : DataW H) (R : Value → Option (DataW H × List MemPlace)) (w : World) (hown : w.ownsMap Tryd.prog 9 R b nn D0) (hmax : Maps.size D0 ≤ maxLen) (hbytes : Maps.size D0 * 16 ≤ 140737488355328) :
    CallsIn Fence.wide 5 Tryd.prog 61 #[.func (.func 78) #[] #[.pointer (some ⟨w.heap.size, 0, none⟩)]] (w.alloc (.cells #[.map (some b)] 61)) fun e w' => ∃ (v : Value) (ss : List (List UInt8)), e = .returned v ∧ ss.Perm (strKeys D0) ∧
      w'.ownsRow (w.alloc (.cells #[.map (some b)] 61)).heap.size 9 1 v ss.length ((ss.mergeSort (fun x y => decide (x ≤ y))).map encStr) ∧ (v = .slice none 0 0 ↔ ss = []) ∧ Below (w.alloc (.cells #[.map (some b)] 61)).heap.size (w.alloc (.cells #[.map (some b)] 61)) w' := by
  have hbl := hown.lt
  have hseq : SeqGives Fence.wide 2 Tryd.prog 78 #[.pointer (some ⟨w.heap.size, 0, none⟩)] encStr (fun ss => ss.Perm (strKeys D0)) (Maps.size D0) (w.alloc (.cells #[.map (some b)] 61)) :=
    AnyZ.keys_gives (ρ := keys62_ren) { keys62 with } Fence.wide _ trivial rfl (by omega) w.heap.size b nn D0 _ (by simp) (by simp) (by
      obtain ⟨es, clock, hb, Ft, hs, hD⟩ := hown
      exact ⟨es, clock, (Below.heap_alloc _ _ b hbl).trans hb, Ft, hs, hD⟩)
  exact AnyZ.sorted_in sorted61 Fence.wide 5 trivial trivial trivial trivial rfl (by omega) (sorts61 _) (enters_of Tryd.func77 (by kernel_rfl) rfl) 78 #[.pointer (some ⟨w.heap.size, 0, none⟩)] trivial (enters_of Tryd.func78 (by kernel_rfl) rfl) _ _ hmax hbytes _ hseq

set_option maxHeartbeats 1000000 in
theorem slices_Sorted_keys_nil_61_62 (w : World) :
    CallsIn Fence.wide 5 Tryd.prog 61 #[.func (.func 78) #[] #[.pointer (some ⟨w.heap.size, 0, none⟩)]] (w.alloc (.cells #[.map none] 61)) fun e w' => ∃ (v : Value) (ss : List (List UInt8)), e = .returned v ∧ ss = [] ∧
      w'.ownsRow (w.alloc (.cells #[.map none] 61)).heap.size 9 1 v ss.length ((ss.mergeSort (fun x y => decide (x ≤ y))).map encStr) ∧ (v = .slice none 0 0 ↔ ss = []) ∧ Below (w.alloc (.cells #[.map none] 61)).heap.size (w.alloc (.cells #[.map none] 61)) w' := by
  have hseq : SeqGives Fence.wide 2 Tryd.prog 78 #[.pointer (some ⟨w.heap.size, 0, none⟩)] encStr (fun ss : List (List UInt8) => ss = []) 0 (w.alloc (.cells #[.map none] 61)) :=
    AnyZ.keys_gives_nil (ρ := keys62_ren) { keys62 with } Fence.wide _ trivial rfl w.heap.size _ (by simp) (by simp)
  exact AnyZ.sorted_in sorted61 Fence.wide 5 trivial trivial trivial trivial rfl (by omega) (sorts61 _) (enters_of Tryd.func77 (by kernel_rfl) rfl) 78 #[.pointer (some ⟨w.heap.size, 0, none⟩)] trivial (enters_of Tryd.func78 (by kernel_rfl) rfl) _ 0 (Nat.zero_le _) (by omega) _ hseq



end Go.Proofs.YtlihmomopofdnaaDoor
