/-
  Pairs of a store as records; a valid store as a plain function.
-/
import Derived.Test.YtlihmomopofdnaaGreatDoorRecB
import Derived.Test.YtlihmomopofdnaaGreatDoorKey
namespace Go.Proofs.YtlihmomopofdnaaGreatDoor
open Go.RowKit
set_option linter.unusedVariables false

def encP : Enc (ByteArray × Int) where
  sz := 2
  enc := fun p => [.string p.1, .int .i64 p.2]
  len := fun _ => rfl
  one := fun a u hu => by
    simp at hu
    rcases hu with rfl | rfl <;> rfl
def pk (ps : List (ByteArray × Int)) (k : Nat) : ByteArray := (ps.getD k (ByteArray.empty, 0)).1
def pv (ps : List (ByteArray × Int)) (k : Nat) : Int := (ps.getD k (ByteArray.empty, 0)).2
theorem ps_get {ps : List (ByteArray × Int)} {k : Nat} (h : k < ps.length) : ps[k]? = some (pk ps k, pv ps k) := by
  simp [pk, pv, List.getD, h]
theorem elPair : ElTy Tryz.prog 23 52 (.agg #[.string ByteArray.empty, .int .i64 0]) 2 24 := ⟨Tryz.underlying23, by kernel_rfl, rfl, by decide⟩
def Prs (w : World) (lo hi : Nat) (v : Value) (ps : List (ByteArray × Int)) : Prop := Recs encP w lo hi v ps
def PrsO (w : World) (lo hi : Nat) (v : Value) (ps : List (ByteArray × Int)) : Prop := RecsO encP 52 w lo hi v ps
section
variable {w w' : World} {lo hi : Nat} {v : Value} {ps : List (ByteArray × Int)}
theorem PrsO.prs (h : PrsO w lo hi v ps) : Prs w lo hi v ps := RecsO.recs h
theorem Prs.below (h : Prs w lo hi v ps) (hb : Below w.heap.size w w') : Prs w' lo hi v ps := Recs.below h hb
theorem PrsO.below (h : PrsO w lo hi v ps) (hb : Below w.heap.size w w') : PrsO w' lo hi v ps := RecsO.below h hb
theorem Prs.wide {lo' hi' : Nat} (h : Prs w lo hi v ps) (h1 : lo' ≤ lo) (h2 : hi ≤ hi') (h3 : hi' ≤ w.heap.size) : Prs w lo' hi' v ps := Recs.wide h h1 h2 h3
theorem PrsO.wide {lo' hi' : Nat} (h : PrsO w lo hi v ps) (h1 : lo' ≤ lo) (h2 : hi ≤ hi') (h3 : hi' ≤ w.heap.size) : PrsO w lo' hi' v ps := RecsO.wide h h1 h2 h3
theorem Prs.open (h : Prs w lo hi v ps) :
    ∃ a cap, v = .slice a ps.length cap ∧ ps.length ≤ 9223372036854775807 ∧ ∀ (k : Nat), k < ps.length → ∃ b o, lo ≤ b ∧ b < hi ∧
      (∀ (i : Int), i = k → ∀ wx, (Instr.indexAt 23 (.slice a ps.length cap) (.int .i64 i)).run Tryz.prog wx = .ok (.pointer (some ⟨b, o, none⟩)) wx) ∧
      w.cell? ⟨b, o, none⟩ = some (.string (pk ps k)) ∧ w.cell? ⟨b, o + 1, none⟩ = some (.int .i64 (pv ps k)) := by
  obtain ⟨a, cap, hv, hn, hc⟩ := Recs.open elPair h
  refine ⟨a, cap, hv, hn, fun k hk => ?_⟩
  obtain ⟨b, o, h1, h2, hi', hcell⟩ := hc k _ (ps_get hk)
  exact ⟨b, o, h1, h2, hi', hcell 0 _ rfl, hcell 1 _ rfl⟩
end

/-! ### a valid store -/
def okAt (ps : List (ByteArray × Int)) (k : Nat) : Bool := isK (pk ps k) && (isV (pv ps k) && (k == 0 || lt (pk ps (k - 1)) (pk ps k)))
def storeOk (ps : List (ByteArray × Int)) : Bool := (List.range ps.length).all (okAt ps)
theorem storeOk_at {ps : List (ByteArray × Int)} (h : ∀ j, j < ps.length → okAt ps j = true) : storeOk ps = true := by
  unfold storeOk
  rw [List.all_eq_true]
  exact fun j hj => h j (List.mem_range.1 hj)
theorem storeOk_not {ps : List (ByteArray × Int)} {k : Nat} (hk : k < ps.length) (h : okAt ps k = false) : storeOk ps = false := by
  unfold storeOk
  rw [List.all_eq_false]
  exact ⟨k, List.mem_range.2 hk, by rw [h]; simp⟩
theorem storeOk_all {ps : List (ByteArray × Int)} (h : storeOk ps = true) {k : Nat} (hk : k < ps.length) : okAt ps k = true := by
  unfold storeOk at h
  rw [List.all_eq_true] at h
  exact h k (List.mem_range.2 hk)
end Go.Proofs.YtlihmomopofdnaaGreatDoor
