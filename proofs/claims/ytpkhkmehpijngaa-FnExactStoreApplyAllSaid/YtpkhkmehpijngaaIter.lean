/-
  maps.Keys and slices.Sorted of a map with string keys: the contracts of the library laid at this program.
-/
import Derived.Shelf.SlIter.Nil
import Derived.Shelf.SortM.Plain
import Derived.Shelf.SortM.SortNone
import Derived.Test.YtpkhkmehpijngaaProg
namespace Go.Proofs.Ytpkhkmehpijngaa
open Go.RowKit Go.Maps Go.Sort Go.Shelf

def keys65_ren : Go.Shelf.Ren := ⟨fun | 7 => 65 | 10 => 70 | n => n, fun | 23 => 65 | 26 => 9 | 3 => 3 | 28 => 89 | 0 => 0 | 27 => 88 | 33 => 73 | 4 => 4 | n => n, fun | n => n⟩
theorem keys65 : Go.Proofs.SlLaysZ.n7 Try.prog keys65_ren := {
  mixed := by kernel_rfl
  f7 := ⟨Try.f65.name, by decide, Try.func65.trans (congrArg some (by kernel_rfl))⟩
  f10 := ⟨Try.f70.name, by decide, Try.func70.trans (congrArg some (by kernel_rfl))⟩
  t0 := Try.underlying0
  a0 := Try.isAgg0
  z0 := Try.sizeOf0
  v0 := Try.zeroValue0
  t4 := Try.underlying4
  a4 := Try.isAgg4
  z4 := Try.sizeOf4
  v4 := Try.zeroValue4
  t23 := Try.underlying65
  a23 := Try.isAgg65
  z23 := Try.sizeOf65
  v23 := Try.zeroValue65
  t26 := Try.underlying9
  a26 := Try.isAgg9
  z26 := Try.sizeOf9
  v26 := Try.zeroValue9
  t27 := Try.underlying88
  a27 := Try.isAgg88
  z27 := Try.sizeOf88
  v27 := Try.zeroValue88
  t28 := Try.underlying89
  a28 := Try.isAgg89
  z28 := Try.sizeOf89
  v28 := Try.zeroValue89
  t33 := Try.underlying73
  a33 := Try.isAgg73
  z33 := Try.sizeOf73
  v33 := Try.zeroValue73 }
def sorted64_ren : Go.Shelf.Ren := ⟨fun | 6 => 64 | 8 => 68 | 9 => 69 | 11 => 72 | 13 => 74 | 12 => 73 | 23 => 85 | 24 => 86 | 14 => 76 | 15 => 77 | 16 => 78 | 17 => 79 | 18 => 80 | 19 => 81 | 20 => 82 | 21 => 83 | 22 => 84 | 25 => 91 | 26 => 92 | 27 => 93 | 28 => 94 | 29 => 95 | 30 => 96 | 31 => 99 | n => n, fun | 26 => 9 | 28 => 89 | 24 => 85 | 0 => 0 | 3 => 3 | 37 => 98 | 48 => 107 | 50 => 109 | 4 => 4 | 40 => 101 | 39 => 100 | 45 => 35 | 5 => 5 | 9 => 9 | 51 => 111 | 55 => 115 | 57 => 119 | 58 => 120 | 33 => 73 | n => n, fun | n => n⟩
theorem sorted64 : Go.Proofs.SlLaysZ.n6 Try.prog sorted64_ren := {
  mixed := by kernel_rfl
  f6 := ⟨Try.f64.name, by decide, Try.func64.trans (congrArg some (by kernel_rfl))⟩
  f8 := ⟨Try.f68.name, by decide, Try.func68.trans (congrArg some (by kernel_rfl))⟩
  f11 := ⟨Try.f72.name, by decide, Try.func72.trans (congrArg some (by kernel_rfl))⟩
  t0 := Try.underlying0
  a0 := Try.isAgg0
  z0 := Try.sizeOf0
  v0 := Try.zeroValue0
  t24 := Try.underlying85
  a24 := Try.isAgg85
  z24 := Try.sizeOf85
  v24 := Try.zeroValue85
  t26 := Try.underlying9
  a26 := Try.isAgg9
  z26 := Try.sizeOf9
  v26 := Try.zeroValue9
  t28 := Try.underlying89
  a28 := Try.isAgg89
  z28 := Try.sizeOf89
  v28 := Try.zeroValue89
  i26 := by kernel_rfl }
def sort69_ren : Go.Shelf.Ren := ⟨fun | 6 => 69 | 8 => 74 | 9 => 73 | 19 => 85 | 20 => 86 | 21 => 76 | 22 => 77 | 23 => 78 | 24 => 79 | 25 => 80 | 26 => 81 | 27 => 82 | 28 => 83 | 29 => 84 | 36 => 91 | 31 => 92 | 32 => 93 | 37 => 94 | 38 => 95 | 39 => 96 | 41 => 99 | n => n, fun | 27 => 85 | 29 => 9 | 3 => 3 | 32 => 98 | 26 => 85 | 0 => 0 | 44 => 107 | 46 => 109 | 4 => 4 | 36 => 101 | 35 => 100 | 41 => 35 | 5 => 5 | 9 => 9 | 53 => 111 | 57 => 115 | 63 => 119 | 64 => 120 | n => n, fun | n => n⟩
theorem sort69 : Go.Proofs.SlLaysM.n6 Try.prog sort69_ren := {
  mixed := by kernel_rfl
  f6 := ⟨Try.f69.name, by decide, Try.func69.trans (congrArg some (by kernel_rfl))⟩
  f8 := Try.func74.trans (congrArg some (by kernel_rfl))
  f9 := ⟨Try.f73.name, by decide, Try.func73.trans (congrArg some (by kernel_rfl))⟩
  f19 := Try.func85.trans (congrArg some (by kernel_rfl))
  f20 := Try.func86.trans (congrArg some (by kernel_rfl))
  f21 := ⟨Try.f76.name, by decide, Try.func76.trans (congrArg some (by kernel_rfl))⟩
  f22 := ⟨Try.f77.name, by decide, Try.func77.trans (congrArg some (by kernel_rfl))⟩
  f23 := ⟨Try.f78.name, by decide, Try.func78.trans (congrArg some (by kernel_rfl))⟩
  f24 := ⟨Try.f79.name, by decide, Try.func79.trans (congrArg some (by kernel_rfl))⟩
  f25 := ⟨Try.f80.name, by decide, Try.func80.trans (congrArg some (by kernel_rfl))⟩
  f26 := ⟨Try.f81.name, by decide, Try.func81.trans (congrArg some (by kernel_rfl))⟩
  f27 := ⟨Try.f82.name, by decide, Try.func82.trans (congrArg some (by kernel_rfl))⟩
  f28 := ⟨Try.f83.name, by decide, Try.func83.trans (congrArg some (by kernel_rfl))⟩
  f29 := ⟨Try.f84.name, by decide, Try.func84.trans (congrArg some (by kernel_rfl))⟩
  f31 := Try.func92.trans (congrArg some (by kernel_rfl))
  f32 := Try.func93.trans (congrArg some (by kernel_rfl))
  f36 := ⟨Try.f91.name, by decide, Try.func91.trans (congrArg some (by kernel_rfl))⟩
  f37 := ⟨Try.f94.name, by decide, Try.func94.trans (congrArg some (by kernel_rfl))⟩
  f38 := ⟨Try.f95.name, by decide, Try.func95.trans (congrArg some (by kernel_rfl))⟩
  f39 := ⟨Try.f96.name, by decide, Try.func96.trans (congrArg some (by kernel_rfl))⟩
  f41 := ⟨Try.f99.name, by decide, Try.func99.trans (congrArg some (by kernel_rfl))⟩
  t0 := Try.underlying0
  a0 := Try.isAgg0
  z0 := Try.sizeOf0
  v0 := Try.zeroValue0
  t3 := Try.underlying3
  a3 := Try.isAgg3
  z3 := Try.sizeOf3
  v3 := Try.zeroValue3
  t4 := Try.underlying4
  a4 := Try.isAgg4
  z4 := Try.sizeOf4
  v4 := Try.zeroValue4
  t5 := Try.underlying5
  a5 := Try.isAgg5
  z5 := Try.sizeOf5
  v5 := Try.zeroValue5
  t9 := Try.underlying9
  a9 := Try.isAgg9
  z9 := Try.sizeOf9
  v9 := Try.zeroValue9
  t26 := Try.underlying85
  a26 := Try.isAgg85
  z26 := Try.sizeOf85
  v26 := Try.zeroValue85
  t27 := Try.underlying85
  a27 := Try.isAgg85
  z27 := Try.sizeOf85
  v27 := Try.zeroValue85
  t29 := Try.underlying9
  a29 := Try.isAgg9
  z29 := Try.sizeOf9
  v29 := Try.zeroValue9
  t32 := Try.underlying98
  a32 := Try.isAgg98
  z32 := Try.sizeOf98
  v32 := Try.zeroValue98
  t35 := Try.underlying100
  a35 := Try.isAgg100
  z35 := Try.sizeOf100
  v35 := Try.zeroValue100
  t36 := Try.underlying101
  a36 := Try.isAgg101
  z36 := Try.sizeOf101
  v36 := Try.zeroValue101
  t41 := Try.underlying35
  a41 := Try.isAgg35
  z41 := Try.sizeOf35
  v41 := Try.zeroValue35
  t44 := Try.underlying107
  a44 := Try.isAgg107
  z44 := Try.sizeOf107
  v44 := Try.zeroValue107
  t46 := Try.underlying109
  a46 := Try.isAgg109
  z46 := Try.sizeOf109
  v46 := Try.zeroValue109
  t53 := Try.underlying111
  a53 := Try.isAgg111
  z53 := Try.sizeOf111
  v53 := Try.zeroValue111
  t57 := Try.underlying115
  a57 := Try.isAgg115
  z57 := Try.sizeOf115
  v57 := Try.zeroValue115
  t63 := Try.underlying119
  a63 := Try.isAgg119
  z63 := Try.sizeOf119
  v63 := Try.zeroValue119
  t64 := Try.underlying120
  a64 := Try.isAgg120
  z64 := Try.sizeOf120
  v64 := Try.zeroValue120 }
theorem sorts64 (m : Nat) : AnyZ.SortsIn Try.prog sorted64_ren Fence.wide m :=
  ⟨fun blk off cap ss W hH hblk hsz => callsIn_wide.2 (AnyM.slices_Sort_string sort69 blk off cap ss W hH hblk hsz),
   fun p cap W => callsIn_wide.2 (AnyM.slices_Sort_string_none sort69 p cap W)⟩

theorem maps_Keys_65 (mb : Option Nat) (W : World) : CallsIn Fence.wide 5 Try.prog 65 #[.map mb] W fun e w' => e = .returned (.func (.func 70) #[] #[.pointer (some ⟨W.heap.size, 0, none⟩)]) ∧ w' = W.alloc (.cells #[.map mb] 65) :=
  AnyZ.keys_in keys65 Fence.wide 5 trivial rfl mb W

set_option maxHeartbeats 1000000 in
theorem slices_Sorted_keys_64_65 {H : Type} (b nn : Nat) (D0 : DataW H) (R : Value → Option (DataW H × List MemPlace)) (w : World) (hown : w.ownsMap Try.prog 9 R b nn D0) (hmax : Maps.size D0 ≤ maxLen) (hbytes : Maps.size D0 * 16 ≤ 140737488355328) :
    CallsIn Fence.wide 5 Try.prog 64 #[.func (.func 70) #[] #[.pointer (some ⟨w.heap.size, 0, none⟩)]] (w.alloc (.cells #[.map (some b)] 65)) fun e w' => ∃ (v : Value) (ss : List (List UInt8)), e = .returned v ∧ ss.Perm (strKeys D0) ∧
      w'.ownsRow (w.alloc (.cells #[.map (some b)] 65)).heap.size 9 1 v ss.length ((ss.mergeSort (fun x y => decide (x ≤ y))).map encStr) ∧ (v = .slice none 0 0 ↔ ss = []) ∧ Below (w.alloc (.cells #[.map (some b)] 65)).heap.size (w.alloc (.cells #[.map (some b)] 65)) w' := by
  have hbl := hown.lt
  have hseq : SeqGives Fence.wide 2 Try.prog 70 #[.pointer (some ⟨w.heap.size, 0, none⟩)] encStr (fun ss => ss.Perm (strKeys D0)) (Maps.size D0) (w.alloc (.cells #[.map (some b)] 65)) :=
    AnyZ.keys_gives (ρ := keys65_ren) { keys65 with } Fence.wide _ trivial rfl (by omega) w.heap.size b nn D0 _ (by simp) (by simp) (by
      obtain ⟨es, clock, hb, Ft, hs, hD⟩ := hown
      exact ⟨es, clock, (Below.heap_alloc _ _ b hbl).trans hb, Ft, hs, hD⟩)
  exact AnyZ.sorted_in sorted64 Fence.wide 5 trivial trivial trivial trivial rfl (by omega) (sorts64 _) (enters_of Try.func69 (by kernel_rfl) rfl) 70 #[.pointer (some ⟨w.heap.size, 0, none⟩)] trivial (enters_of Try.func70 (by kernel_rfl) rfl) _ _ hmax hbytes _ hseq

set_option maxHeartbeats 1000000 in
theorem slices_Sorted_keys_nil_64_65 (w : World) :
    CallsIn Fence.wide 5 Try.prog 64 #[.func (.func 70) #[] #[.pointer (some ⟨w.heap.size, 0, none⟩)]] (w.alloc (.cells #[.map none] 65)) fun e w' => ∃ (v : Value) (ss : List (List UInt8)), e = .returned v ∧ ss = [] ∧
      w'.ownsRow (w.alloc (.cells #[.map none] 65)).heap.size 9 1 v ss.length ((ss.mergeSort (fun x y => decide (x ≤ y))).map encStr) ∧ (v = .slice none 0 0 ↔ ss = []) ∧ Below (w.alloc (.cells #[.map none] 65)).heap.size (w.alloc (.cells #[.map none] 65)) w' := by
  have hseq : SeqGives Fence.wide 2 Try.prog 70 #[.pointer (some ⟨w.heap.size, 0, none⟩)] encStr (fun ss : List (List UInt8) => ss = []) 0 (w.alloc (.cells #[.map none] 65)) :=
    AnyZ.keys_gives_nil (ρ := keys65_ren) { keys65 with } Fence.wide _ trivial rfl w.heap.size _ (by simp) (by simp)
  exact AnyZ.sorted_in sorted64 Fence.wide 5 trivial trivial trivial trivial rfl (by omega) (sorts64 _) (enters_of Try.func69 (by kernel_rfl) rfl) 70 #[.pointer (some ⟨w.heap.size, 0, none⟩)] trivial (enters_of Try.func70 (by kernel_rfl) rfl) _ 0 (Nat.zero_le _) (by omega) _ hseq



end Go.Proofs.Ytpkhkmehpijngaa
