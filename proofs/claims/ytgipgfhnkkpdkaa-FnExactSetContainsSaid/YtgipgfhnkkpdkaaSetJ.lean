/-
  The walks of the program's functions that combine member sets.
-/
import Derived.Test.YtgipgfhnkkpdkaaSetI
namespace Go.Proofs.Ytgipgfhnkkpdkaa
open Go.RowKit
set_option linter.unusedVariables false

set_option maxHeartbeats 400000 in
theorem unionMix_any (x y : Int) (w : World) :
    Calls Try.prog 79 #[.int .u64 x, .int .u64 y] w fun e w' => e = .returned (.int .u64 (mixOr x y)) ∧ w = w' := by
  go_enter Try.func79, Try.ntmps79
  go_wp2
  go_ret
  exact ⟨ret_int (by rfl), rfl⟩

set_option maxHeartbeats 400000 in
theorem interMix_any (x y : Int) (w : World) :
    Calls Try.prog 77 #[.int .u64 x, .int .u64 y] w fun e w' => e = .returned (.int .u64 (mixAnd x y)) ∧ w = w' := by
  go_enter Try.func77, Try.ntmps77
  go_wp2
  go_ret
  exact ⟨ret_int (by rfl), rfl⟩

set_option maxHeartbeats 400000 in
theorem minusMix_any (x y : Int) (w : World) :
    Calls Try.prog 75 #[.int .u64 x, .int .u64 y] w fun e w' => e = .returned (.int .u64 (mixNot x y)) ∧ w = w' := by
  go_enter Try.func75, Try.ntmps75
  go_wp2
  go_ret
  exact ⟨ret_int (by rfl), rfl⟩

set_option maxHeartbeats 1000000 in
theorem combined_any (g : Nat) (f : Int → Int → Int) (hcf : ∀ (x y : Value) (w : World), (callFunc g #[x, y]).run Try.prog w = .ok (.enter g #[x, y]) w)
    (hg : ∀ x y w, Calls Try.prog g #[.int .u64 x, .int .u64 y] w fun e w' => e = .returned (.int .u64 (f x y)) ∧ w = w')
    (hf : ∀ x y, Six x → Six y → Six (f x y)) (v1 v2 : Value) (xs ys zs : List Int) (w : World) {l1 h1 l2 h2 : Nat} (i1 : Ints w l1 h1 v1 xs) (i2 : Ints w l2 h2 v2 ys) (hz : combL f xs ys = zs) :
    Calls Try.prog 74 #[v1, v2, .func (.func g) #[] #[]] w (RetInts w zs) := by
  have HG := Lib.hid hg; clear hg
  have HF := Lib.hid hf; clear hf
  have HZ := Lib.hid hz; clear hz
  cases e1 : setValid xs
  · have E1 := Lib.hid e1; clear e1
    have HZ' := Lib.hid (show ([] : List Int) = zs by rw [← HZ.out]; simp [combL, E1.out])
    cases e2 : setValid ys
    all_goals
      have E2 := Lib.hid e2; clear e2
      go_enter Try.func74, Try.ntmps74
      go_wp2_with fail
      refine (readSet_any _ xs _ i1 _ false rfl E1.out).mono ?_
      rintro e w' ⟨rfl, rfl⟩
      go_wp2_with fail
      refine (readSet_any _ ys _ i2 _ _ rfl E2.out).mono ?_
      rintro e w' ⟨rfl, rfl⟩
      go_wp2_with fail
      go_ret
      exact ⟨_, rfl, by rw [← HZ'.out]; exact IntsO.nil _ _ _ (Nat.le_refl _), Below.refl _ _⟩
  · have E1 := Lib.hid e1; clear e1
    cases e2 : setValid ys
    · have E2 := Lib.hid e2; clear e2
      have HZ' := Lib.hid (show ([] : List Int) = zs by rw [← HZ.out]; simp [combL, E2.out])
      go_enter Try.func74, Try.ntmps74
      go_wp2_with fail
      refine (readSet_any _ xs _ i1 _ true rfl E1.out).mono ?_
      rintro e w' ⟨rfl, rfl⟩
      go_wp2_with fail
      refine (readSet_any _ ys _ i2 _ false rfl E2.out).mono ?_
      rintro e w' ⟨rfl, rfl⟩
      go_wp2_with fail
      go_ret
      exact ⟨_, rfl, by rw [← HZ'.out]; exact IntsO.nil _ _ _ (Nat.le_refl _), Below.refl _ _⟩
    · have E2 := Lib.hid e2; clear e2
      have HZ' := Lib.hid (show membersOf (f (crewR xs) (crewR ys)) = zs by rw [← HZ.out]; simp [combL, E1.out, E2.out])
      go_enter Try.func74, Try.ntmps74
      go_wp2_with fail
      refine (readSet_any _ xs _ i1 _ true rfl E1.out).mono ?_
      rintro e w' ⟨rfl, rfl⟩
      go_wp2_with fail
      refine (readSet_any _ ys _ i2 _ true rfl E2.out).mono ?_
      rintro e w' ⟨rfl, rfl⟩
      go_wp2_with fail
      refine (HG.out _ _ _).mono ?_
      rintro e w' ⟨rfl, rfl⟩
      go_wp2_with fail
      refine (members_any _ _ (HF.out _ _ (crewR_six xs) (crewR_six ys)) _ HZ'.out).mono ?_
      rintro e w' ⟨v, rfl, ho, hb⟩
      go_wp2_with fail
      go_ret
      exact ⟨_, rfl, ho, hb⟩

set_option maxHeartbeats 400000 in
theorem implSetUnion_any (v1 v2 : Value) (xs ys zs : List Int) (w : World) {l1 h1 l2 h2 : Nat} (i1 : Ints w l1 h1 v1 xs) (i2 : Ints w l2 h2 v2 ys) (hz : combL mixOr xs ys = zs) :
    Calls Try.prog 48 #[v1, v2] w (RetInts w zs) := by
  have HZ := Lib.hid hz; clear hz
  go_enter Try.func48, Try.ntmps48
  go_wp2_with fail
  refine (combined_any _ mixOr (fun _ _ _ => by kernel_rfl) unionMix_any (fun _ _ => six_or) _ _ xs ys zs _ i1 i2 HZ.out).mono ?_
  rintro e w' ⟨v, rfl, ho, hb⟩
  go_wp2_with fail
  go_ret
  exact ⟨_, rfl, ho, hb⟩

set_option maxHeartbeats 400000 in
theorem implSetIntersect_any (v1 v2 : Value) (xs ys zs : List Int) (w : World) {l1 h1 l2 h2 : Nat} (i1 : Ints w l1 h1 v1 xs) (i2 : Ints w l2 h2 v2 ys) (hz : combL mixAnd xs ys = zs) :
    Calls Try.prog 46 #[v1, v2] w (RetInts w zs) := by
  have HZ := Lib.hid hz; clear hz
  go_enter Try.func46, Try.ntmps46
  go_wp2_with fail
  refine (combined_any _ mixAnd (fun _ _ _ => by kernel_rfl) interMix_any (fun _ _ => six_and) _ _ xs ys zs _ i1 i2 HZ.out).mono ?_
  rintro e w' ⟨v, rfl, ho, hb⟩
  go_wp2_with fail
  go_ret
  exact ⟨_, rfl, ho, hb⟩

set_option maxHeartbeats 400000 in
theorem implSetMinus_any (v1 v2 : Value) (xs ys zs : List Int) (w : World) {l1 h1 l2 h2 : Nat} (i1 : Ints w l1 h1 v1 xs) (i2 : Ints w l2 h2 v2 ys) (hz : combL mixNot xs ys = zs) :
    Calls Try.prog 40 #[v1, v2] w (RetInts w zs) := by
  have HZ := Lib.hid hz; clear hz
  go_enter Try.func40, Try.ntmps40
  go_wp2_with fail
  refine (combined_any _ mixNot (fun _ _ _ => by kernel_rfl) minusMix_any (fun _ _ => six_not) _ _ xs ys zs _ i1 i2 HZ.out).mono ?_
  rintro e w' ⟨v, rfl, ho, hb⟩
  go_wp2_with fail
  go_ret
  exact ⟨_, rfl, ho, hb⟩

set_option maxHeartbeats 400000 in
theorem implSetValid_any (v1 : Value) (xs : List Int) (w : World) {l1 h1 : Nat} (i1 : Ints w l1 h1 v1 xs) (r : Bool) (hr : setValid xs = r) :
    Calls Try.prog 44 #[v1] w fun e w' => e = .returned (.bool r) ∧ w = w' := by
  have HR := Lib.hid hr; clear hr
  go_enter Try.func44, Try.ntmps44
  go_wp2_with fail
  refine (readSet_any _ xs _ i1 _ r rfl HR.out).mono ?_
  rintro e w' ⟨rfl, rfl⟩
  go_wp2_with fail
  go_ret
  exact ⟨rfl, rfl⟩

/-- the mask of a set, or -1 -/
def maskR (xs : List Int) : Int := if setValid xs then crewR xs else -1

set_option maxHeartbeats 400000 in
theorem implSetMask_any (v1 : Value) (xs : List Int) (w : World) {l1 h1 : Nat} (i1 : Ints w l1 h1 v1 xs) (m : Int) (hm : maskR xs = m) :
    Calls Try.prog 43 #[v1] w fun e w' => e = .returned (.int .i64 m) ∧ w = w' := by
  have HM := Lib.hid hm; clear hm
  obtain ⟨s0, s1⟩ := crewR_six xs
  cases hr : setValid xs
  · have HR := Lib.hid hr; clear hr
    go_enter Try.func43, Try.ntmps43
    go_wp2_with fail
    refine (readSet_any _ xs _ i1 _ false rfl HR.out).mono ?_
    rintro e w' ⟨rfl, rfl⟩
    go_wp2_with fail
    go_ret
    exact ⟨ret_int (by rw [← HM.out]; simp [maskR, HR.out]), rfl⟩
  · have HR := Lib.hid hr; clear hr
    go_enter Try.func43, Try.ntmps43
    go_wp2_with fail
    refine (readSet_any _ xs _ i1 _ true rfl HR.out).mono ?_
    rintro e w' ⟨rfl, rfl⟩
    go_wp2_with fail
    go_ret
    exact ⟨ret_int (by rw [← HM.out]; simp [maskR, HR.out]), rfl⟩

set_option maxHeartbeats 400000 in
theorem implSetContains_any (v1 : Value) (xs : List Int) (m : Int) (w : World) {l1 h1 : Nat} (i1 : Ints w l1 h1 v1 xs) (r : Bool) (hr : (setValid xs && (inB m 1 6 && hasM (crewR xs) m)) = r) :
    Calls Try.prog 27 #[v1, .int .i64 m] w fun e w' => e = .returned (.bool r) ∧ w = w' := by
  have HR := Lib.hid hr; clear hr
  obtain ⟨s0, s1⟩ := crewR_six xs
  cases hv : setValid xs
  · have HV := Lib.hid hv; clear hv
    go_enter Try.func27, Try.ntmps27
    go_wp2_with fail
    refine (readSet_any _ xs _ i1 _ false rfl HV.out).mono ?_
    rintro e w' ⟨rfl, rfl⟩
    go_wp2_with fail
    go_ret
    exact ⟨ret_bool (by rw [← HR.out, HV.out]; rfl), rfl⟩
  · have HV := Lib.hid hv; clear hv
    go_enter Try.func27, Try.ntmps27
    go_wp2_with fail
    refine (readSet_any _ xs _ i1 _ true rfl HV.out).mono ?_
    rintro e w' ⟨rfl, rfl⟩
    go_wp2_with fail
    refine (has_any _ _ _ s0 s1 r (by rw [← HR.out, HV.out]; rfl)).mono ?_
    rintro e w' ⟨rfl, rfl⟩
    go_wp2_with fail
    go_ret
    exact ⟨rfl, rfl⟩

def subR (xs ys : List Int) : Bool := setValid xs && setValid ys && (mixNot (crewR xs) (crewR ys) == 0)

set_option maxHeartbeats 1000000 in
theorem implSetSubset_any (v1 v2 : Value) (xs ys : List Int) (w : World) {l1 h1 l2 h2 : Nat} (i1 : Ints w l1 h1 v1 xs) (i2 : Ints w l2 h2 v2 ys) (r : Bool) (hr : subR xs ys = r) :
    Calls Try.prog 55 #[v1, v2] w fun e w' => e = .returned (.bool r) ∧ w = w' := by
  have HR := Lib.hid hr; clear hr
  cases hv : setValid xs <;> cases hu : setValid ys
  case true.true =>
    have HV := Lib.hid hv; clear hv
    have HU := Lib.hid hu; clear hu
    have HR' := Lib.hid (show (bits .andNot .u64 (crewR xs) (crewR ys) == 0) = r by rw [← HR.out]; simp [subR, HV.out, HU.out, mixNot])
    go_enter Try.func55, Try.ntmps55
    go_wp2_with fail
    refine (readSet_any _ xs _ i1 _ true rfl HV.out).mono ?_
    rintro e w' ⟨rfl, rfl⟩
    go_wp2_with fail
    refine (readSet_any _ ys _ i2 _ true rfl HU.out).mono ?_
    rintro e w' ⟨rfl, rfl⟩
    go_wp2_with fail
    refine (within_any _ _ _ r HR'.out).mono ?_
    rintro e w' ⟨rfl, rfl⟩
    go_wp2_with fail
    go_ret
    exact ⟨rfl, rfl⟩
  all_goals
    have HV := Lib.hid hv; clear hv
    have HU := Lib.hid hu; clear hu
    have HR' := Lib.hid (show false = r by rw [← HR.out]; simp [subR, HV.out, HU.out])
    go_enter Try.func55, Try.ntmps55
    go_wp2_with fail
    refine (readSet_any _ xs _ i1 _ _ rfl HV.out).mono ?_
    rintro e w' ⟨rfl, rfl⟩
    go_wp2_with fail
    refine (readSet_any _ ys _ i2 _ _ rfl HU.out).mono ?_
    rintro e w' ⟨rfl, rfl⟩
    go_wp2_with fail
    go_ret
    exact ⟨ret_bool HR'.out, rfl⟩

def ofMaskL (m : Int) : List Int := if inB m 0 63 then membersOf m else []

set_option maxHeartbeats 1000000 in
theorem implSetOfMask_any (m : Int) (w : World) (xs : List Int) (r : Bool) (hx : ofMaskL m = xs) (hr : inB m 0 63 = r) :
    Calls Try.prog 30 #[.int .i64 m] w (RetIntsB w xs r) := by
  have HX := Lib.hid hx; clear hx
  cases hv : inB m 0 63
  · have g := inB_false hv
    have HR := Lib.hid (show false = r by rw [← hr, hv]); clear hr
    have HV := Lib.hid hv; clear hv
    have HN := Lib.hid (show ([] : List Int) = xs by rw [← HX.out]; simp [ofMaskL, HV.out])
    rcases g with g | g
    · go_enter Try.func30, Try.ntmps30
      go_wp2_with fail
      go_ret2
      exact ⟨_, by rw [← HR.out]; rfl, by rw [← HN.out]; exact IntsO.nil _ _ _ (Nat.le_refl _), Below.refl _ _⟩
    · have g' : ¬ m < 0 := by omega
      go_enter Try.func30, Try.ntmps30
      go_wp2_with fail
      go_ret2
      exact ⟨_, by rw [← HR.out]; rfl, by rw [← HN.out]; exact IntsO.nil _ _ _ (Nat.le_refl _), Below.refl _ _⟩
  · obtain ⟨g1, g2⟩ := inB_true hv
    have HR := Lib.hid (show true = r by rw [← hr, hv]); clear hr
    have HV := Lib.hid hv; clear hv
    have HN := Lib.hid (show membersOf m = xs by rw [← HX.out]; simp [ofMaskL, HV.out])
    have g' : ¬ m < 0 := by omega
    have hc : (m % 18446744073709551616) = m := by omega
    go_enter Try.func30, Try.ntmps30
    go_wp2_with fail
    refine (members_any _ _ ⟨by omega, by omega⟩ _ HN.out).mono ?_
    rintro e w' ⟨v, rfl, ho, hb⟩
    go_wp2_with fail
    go_ret2
    exact ⟨_, by rw [← HR.out]; rfl, ho, hb⟩
end Go.Proofs.Ytgipgfhnkkpdkaa
