/-
  Lists of commands: as records, as plain functions; slices of bools.
-/
import Derived.Test.YtlihmomopofdnaaGreatDoorApp
import Derived.Laws.Rows
namespace Go.Proofs.YtlihmomopofdnaaGreatDoor
open Go.RowKit
set_option linter.unusedVariables false

abbrev CT := Int × ByteArray × Int × Int
def encC : Enc CT where
  sz := 4
  enc := fun c => [.int .i64 c.1, .string c.2.1, .int .i64 c.2.2.1, .int .i64 c.2.2.2]
  len := fun _ => rfl
  one := fun a u hu => by
    simp at hu
    rcases hu with rfl | rfl | rfl | rfl <;> rfl
def encB : Enc Bool where
  sz := 1
  enc := fun b => [.bool b]
  len := fun _ => rfl
  one := fun a u hu => by
    simp at hu
    subst hu
    rfl
theorem elCmd : ElTy Tryz.prog 24 41 (.agg #[.int .i64 0, .string ByteArray.empty, .int .i64 0, .int .i64 0]) 4 40 := ⟨Tryz.underlying24, by kernel_rfl, rfl, by decide⟩
theorem elBool : ElTy Tryz.prog 27 4 (.bool false) 1 1 := ⟨Tryz.underlying27, by kernel_rfl, rfl, by decide⟩
def Cms (w : World) (lo hi : Nat) (v : Value) (cs : List CT) : Prop := Recs encC w lo hi v cs
def CmsO (w : World) (lo hi : Nat) (v : Value) (cs : List CT) : Prop := RecsO encC 41 w lo hi v cs
def Bs (w : World) (lo hi : Nat) (v : Value) (bs : List Bool) : Prop := Recs encB w lo hi v bs
def BsO (w : World) (lo hi : Nat) (v : Value) (bs : List Bool) : Prop := RecsO encB 4 w lo hi v bs
section
variable {w w' : World} {lo hi : Nat} {v : Value} {cs : List CT} {bs : List Bool}
theorem CmsO.cms (h : CmsO w lo hi v cs) : Cms w lo hi v cs := RecsO.recs h
theorem Cms.below (h : Cms w lo hi v cs) (hb : Below w.heap.size w w') : Cms w' lo hi v cs := Recs.below h hb
theorem CmsO.below (h : CmsO w lo hi v cs) (hb : Below w.heap.size w w') : CmsO w' lo hi v cs := RecsO.below h hb
theorem CmsO.keep {l1 h1 : Nat} (h : CmsO w lo hi v cs) (hk : Keep l1 h1 w w') (ho : hi ≤ l1 ∨ h1 ≤ lo) : CmsO w' lo hi v cs := RecsO.keep h hk ho
theorem CmsO.wide {lo' hi' : Nat} (h : CmsO w lo hi v cs) (h1 : lo' ≤ lo) (h2 : hi ≤ hi') (h3 : hi' ≤ w.heap.size) : CmsO w lo' hi' v cs := RecsO.wide h h1 h2 h3
theorem BsO.bool (h : BsO w lo hi v bs) : Bs w lo hi v bs := RecsO.recs h
theorem Bs.below (h : Bs w lo hi v bs) (hb : Below w.heap.size w w') : Bs w' lo hi v bs := Recs.below h hb
theorem BsO.below (h : BsO w lo hi v bs) (hb : Below w.heap.size w w') : BsO w' lo hi v bs := RecsO.below h hb
theorem BsO.keep {l1 h1 : Nat} (h : BsO w lo hi v bs) (hk : Keep l1 h1 w w') (ho : hi ≤ l1 ∨ h1 ≤ lo) : BsO w' lo hi v bs := RecsO.keep h hk ho
theorem BsO.wide {lo' hi' : Nat} (h : BsO w lo hi v bs) (h1 : lo' ≤ lo) (h2 : hi ≤ hi') (h3 : hi' ≤ w.heap.size) : BsO w lo' hi' v bs := RecsO.wide h h1 h2 h3
theorem BsO.form (h : BsO w lo hi v bs) : ∃ a c, v = .slice a bs.length c := by
  obtain ⟨_, _, a, cap, hv, _⟩ := Own.sl h
  exact ⟨a, cap, hv⟩
theorem CmsO.form (h : CmsO w lo hi v cs) : ∃ a c, v = .slice a cs.length c := by
  obtain ⟨_, _, a, cap, hv, _⟩ := Own.sl h
  exact ⟨a, cap, hv⟩
end
theorem cell_one_bool (w : World) (b : Bool) : ∀ j u, [Value.bool b][j]? = some u → (w.alloc (.cells #[.bool b] 4)).cell? ((⟨w.heap.size, 0, none⟩ : Addr).add j) = some u := (Blk.new w #[.bool b] 4).news
theorem bool_one (b : Bool) : ∀ u ∈ [Value.bool b], u.oneCell' = true := encB.one b

/-! ### as plain functions -/
def applyC (ps : List (ByteArray × Int)) (c : CT) : List (ByteArray × Int) × Bool := applyP ps c.1 c.2.1 c.2.2.1 c.2.2.2
def stepR (st : List (ByteArray × Int) × List Bool) (c : CT) : List (ByteArray × Int) × List Bool := ((applyC st.1 c).1, st.2 ++ [(applyC st.1 c).2])
def runP (ps : List (ByteArray × Int)) (cs : List CT) : List (ByteArray × Int) × List Bool := cs.foldl stepR (ps, [])
def runS (ps : List (ByteArray × Int)) (cs : List CT) : List (ByteArray × Int) × List Bool := if storeOk ps = true then runP ps cs else ([], [])
theorem runP_step {ps : List (ByteArray × Int)} {cs : List CT} {k : Nat} {c : CT} {z : List (ByteArray × Int)} {bs : List Bool} (hc : cs[k]? = some c) (h : runP ps (cs.take k) = (z, bs)) : runP ps (cs.take (k + 1)) = ((applyC z c).1, bs ++ [(applyC z c).2]) := by
  have hk : k < cs.length := (List.getElem?_eq_some_iff.1 hc).1
  have e : cs[k] = c := (List.getElem?_eq_some_iff.1 hc).2
  unfold runP at h ⊢
  rw [List.take_succ_eq_append_getElem hk, List.foldl_append, h, e]
  rfl
theorem fold_run (cs : List CT) : ∀ (z : List (ByteArray × Int)) (bs : List Bool), cs.foldl stepR (z, bs) = ((runP z cs).1, bs ++ (runP z cs).2) := by
  induction cs with
  | nil => intro z bs; simp [runP]
  | cons c r ih =>
    intro z bs
    unfold runP
    rw [List.foldl_cons, List.foldl_cons]
    show r.foldl stepR ((applyC z c).1, bs ++ [(applyC z c).2]) = _
    rw [ih]
    have : stepR (z, []) c = ((applyC z c).1, [(applyC z c).2]) := rfl
    rw [this, ih]
    simp
theorem run_append (ps : List (ByteArray × Int)) (l1 l2 : List CT) : runP ps (l1 ++ l2) = ((runP (runP ps l1).1 l2).1, (runP ps l1).2 ++ (runP (runP ps l1).1 l2).2) := by
  have : runP ps (l1 ++ l2) = l2.foldl stepR (runP ps l1) := by unfold runP; rw [List.foldl_append]
  rw [this, show runP ps l1 = ((runP ps l1).1, (runP ps l1).2) from rfl, fold_run]
theorem run_good {ps : List (ByteArray × Int)} (h : Good ps) : ∀ cs : List CT, Good (runP ps cs).1 := fun cs => by
  have : ∀ (cs : List CT) (st : List (ByteArray × Int) × List Bool), Good st.1 → Good (cs.foldl stepR st).1 := by
    intro cs
    induction cs with
    | nil => exact fun st h => h
    | cons c r ih => exact fun st h => ih _ (good_apply h _ _ _ _)
  exact this cs (ps, []) h
theorem run_len (ps : List (ByteArray × Int)) (cs : List CT) : (runP ps cs).2.length = cs.length := by
  have : ∀ (cs : List CT) (st : List (ByteArray × Int) × List Bool), (cs.foldl stepR st).2.length = st.2.length + cs.length := by
    intro cs
    induction cs with
    | nil => intro st; rfl
    | cons c r ih =>
      intro st
      rw [List.foldl_cons, ih]
      simp [stepR]
      omega
  have h := this cs (ps, [])
  simpa [runP] using h
end Go.Proofs.YtlihmomopofdnaaGreatDoor
