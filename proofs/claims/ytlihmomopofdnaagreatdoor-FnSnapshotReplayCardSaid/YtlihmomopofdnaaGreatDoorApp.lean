/-
  Commands on a store as a plain function; what a store holds behind them; what a map that stands for a store holds.
-/
import Derived.Test.YtlihmomopofdnaaGreatDoorWith
import Derived.Test.YtlihmomopofdnaaGreatDoorGetI
import Derived.Sort.KeysCollected
namespace Go.Proofs.YtlihmomopofdnaaGreatDoor
open Go.RowKit Go.Maps Go.WideMaps
set_option linter.unusedVariables false

theorem lt_of_code {a b : ByteArray} (ha : isK a = true) (hb : isK b = true) (h : code a < code b) : lt a b = true := by
  obtain ⟨c, rfl⟩ := one_byte (isK_size ha)
  obtain ⟨d, rfl⟩ := one_byte (isK_size hb)
  have e1 : (⟨#[c]⟩ : ByteArray).toList = [c] := by rw [Lib.toList_data]
  have e2 : (⟨#[d]⟩ : ByteArray).toList = [d] := by rw [Lib.toList_data]
  unfold code at h
  rw [e1, e2] at h
  unfold lt
  rw [e1, e2]
  simp [Op.bytesLess]
  simpa [UInt8.lt_iff_toNat_lt] using h
theorem less_code {a b : ByteArray} (ha : isK a = true) (hb : isK b = true) : Op.bytesLess a.toList b.toList = decide (code a < code b) := by
  cases h : Op.bytesLess a.toList b.toList
  · refine (decide_eq_false fun hc => ?_).symm
    have := lt_of_code ha hb hc
    unfold lt at this
    rw [h] at this
    cases this
  · exact (decide_eq_true (lt_code ha hb h)).symm
theorem code_inj {a b : ByteArray} (ha : isK a = true) (hb : isK b = true) (h : code a = code b) : a = b := by
  obtain ⟨c, rfl⟩ := one_byte (isK_size ha)
  obtain ⟨d, rfl⟩ := one_byte (isK_size hb)
  have e1 : (⟨#[c]⟩ : ByteArray).toList = [c] := by rw [Lib.toList_data]
  have e2 : (⟨#[d]⟩ : ByteArray).toList = [d] := by rw [Lib.toList_data]
  unfold code at h
  rw [e1, e2] at h
  have : c = d := UInt8.toNat_inj.1 h
  rw [this]
theorem code_of {a b : ByteArray} (h : a.toList = b.toList) : code a = code b := by unfold code; rw [h]
theorem bytes_inj {a b : ByteArray} (h : a.toList = b.toList) : a = b := by
  rw [Lib.toList_data, Lib.toList_data] at h
  obtain ⟨⟨l⟩⟩ := a
  obtain ⟨⟨m⟩⟩ := b
  simp at h
  rw [h]

def Good (ps : List (ByteArray × Int)) : Prop := (∀ p ∈ ps, isK p.1 = true ∧ isV p.2 = true) ∧ ps.Pairwise (fun a b => code a.1 < code b.1)
theorem get_eq {ps : List (ByteArray × Int)} {j : Nat} (hj : j < ps.length) : ps[j] = (pk ps j, pv ps j) := Option.some.inj ((List.getElem?_eq_getElem hj).symm.trans (ps_get hj))
theorem good_of {ps : List (ByteArray × Int)} (hs : storeOk ps = true) : Good ps := by
  refine ⟨fun p hp => ?_, List.pairwise_iff_getElem.2 fun i j hi hj hij => ?_⟩
  · obtain ⟨j, hj, rfl⟩ := List.getElem_of_mem hp
    rw [get_eq hj]
    have := okAt_parts (storeOk_all hs hj)
    exact ⟨this.1, this.2.1⟩
  · rw [get_eq hi, get_eq hj]
    have := code_mono hs i (j - i - 1) (by omega)
    rwa [show i + (j - i - 1) + 1 = j by omega] at this
theorem ok_of {ps : List (ByteArray × Int)} (hs : Good ps) : storeOk ps = true := by
  refine storeOk_at fun j hj => ?_
  have h1 := hs.1 _ (List.getElem_mem hj)
  rw [get_eq hj] at h1
  unfold okAt
  rw [h1.1, h1.2]
  by_cases h0 : j = 0
  · subst h0; rfl
  · have h2 := hs.1 _ (List.getElem_mem (show j - 1 < ps.length by omega))
    have h3 := List.pairwise_iff_getElem.1 hs.2 (j - 1) j (by omega) hj (by omega)
    rw [get_eq (show j - 1 < ps.length by omega)] at h2 h3
    rw [get_eq hj] at h3
    rw [lt_of_code h2.1 h1.1 h3]
    simp
theorem Good.tail {x : ByteArray × Int} {r : List (ByteArray × Int)} (h : Good (x :: r)) : Good r := ⟨fun p hp => h.1 p (List.mem_cons_of_mem _ hp), (List.pairwise_cons.1 h.2).2⟩

/-! ### findP -/
theorem findP_nil (key : ByteArray) : findP [] key = (0, false) := rfl
theorem findP_cons (x : ByteArray × Int) (r : List (ByteArray × Int)) (key : ByteArray) : findP (x :: r) key = if x.1.toList == key.toList then (x.2, true) else findP r key := by
  unfold findP
  rw [List.find?_cons]
  cases x.1.toList == key.toList <;> rfl
theorem findP_gt {ps : List (ByteArray × Int)} {key : ByteArray} (h : ∀ p ∈ ps, code key < code p.1) : findP ps key = (0, false) := by
  induction ps with
  | nil => rfl
  | cons x r ih =>
    rw [findP_cons, if_neg, ih fun p hp => h p (List.mem_cons_of_mem _ hp)]
    intro e
    have := h x (List.mem_cons_self)
    rw [code_of (beq_iff_eq.1 e)] at this
    omega
theorem findP_snd {ps : List (ByteArray × Int)} {key : ByteArray} : (findP ps key).2 = true ↔ ∃ p ∈ ps, p.1.toList = key.toList := by
  induction ps with
  | nil => simp [findP_nil]
  | cons x r ih =>
    rw [findP_cons]
    by_cases e : x.1.toList = key.toList
    · rw [if_pos (beq_iff_eq.2 e)]
      simp [e]
    · rw [if_neg (fun h => e (beq_iff_eq.1 h)), ih]
      simp [e]
theorem store_ext : ∀ {xs ys : List (ByteArray × Int)}, Good xs → Good ys → (∀ key, findP xs key = findP ys key) → xs = ys
  | [], [], _, _, _ => rfl
  | [], y :: r, _, _, h => by
    have := h y.1
    rw [findP_nil, findP_cons, if_pos (by simp)] at this
    exact absurd (Prod.mk.inj this).2 (by simp)
  | x :: r, [], _, _, h => by
    have := h x.1
    rw [findP_nil, findP_cons, if_pos (by simp)] at this
    exact absurd (Prod.mk.inj this).2 (by simp)
  | x :: xs, y :: ys, hx, hy, h => by
    have gx := (List.pairwise_cons.1 hx.2).1
    have gy := (List.pairwise_cons.1 hy.2).1
    have kx := hx.1 x List.mem_cons_self
    have ky := hy.1 y List.mem_cons_self
    have hc : code x.1 = code y.1 := by
      rcases Nat.lt_trichotomy (code x.1) (code y.1) with hlt | e | hlt
      · have := h x.1
        rw [findP_cons, if_pos (by simp), findP_gt (ps := y :: ys) fun p hp => by
          rcases List.mem_cons.1 hp with rfl | hp
          · exact hlt
          · exact Nat.lt_trans hlt (gy p hp)] at this
        exact absurd (Prod.mk.inj this).2 (by simp)
      · exact e
      · have := h y.1
        rw [findP_cons y, if_pos (by simp), findP_gt (ps := x :: xs) fun p hp => by
          rcases List.mem_cons.1 hp with rfl | hp
          · exact hlt
          · exact Nat.lt_trans hlt (gx p hp)] at this
        exact absurd (Prod.mk.inj this).2 (by simp)
    have e1 : x.1 = y.1 := code_inj kx.1 ky.1 hc
    have e2 : x.2 = y.2 := by
      have := h x.1
      rw [findP_cons, if_pos (by simp), findP_cons, if_pos (by rw [e1]; simp)] at this
      exact (Prod.mk.inj this).1
    have e : x = y := Prod.ext e1 e2
    subst e
    refine congrArg _ (store_ext hx.tail hy.tail fun key => ?_)
    by_cases hk : x.1.toList = key.toList
    · rw [findP_gt fun p hp => by rw [← code_of hk]; exact gx p hp, findP_gt fun p hp => by rw [← code_of hk]; exact gy p hp]
    · have := h key
      rwa [findP_cons, if_neg (fun e => hk (beq_iff_eq.1 e)), findP_cons, if_neg (fun e => hk (beq_iff_eq.1 e))] at this

/-! ### without, with -/
def withoutP (ps : List (ByteArray × Int)) (key : ByteArray) : List (ByteArray × Int) := ps.filter (fun p => !(p.1.toList == key.toList))
theorem find_without (ps : List (ByteArray × Int)) (k key : ByteArray) : findP (withoutP ps k) key = if key.toList == k.toList then (0, false) else findP ps key := by
  unfold withoutP
  induction ps with
  | nil => rw [List.filter_nil, findP_nil]; split <;> rfl
  | cons x r ih =>
    by_cases hx : x.1.toList = k.toList
    · rw [List.filter_cons_of_neg (by simp [hx]), ih, findP_cons]
      by_cases hk : key.toList = k.toList
      · rw [if_pos (beq_iff_eq.2 hk), if_pos (beq_iff_eq.2 hk)]
      · rw [if_neg (fun e => hk (beq_iff_eq.1 e)), if_neg (fun e => hk (beq_iff_eq.1 e)), if_neg (fun e => hk ((beq_iff_eq.1 e).symm.trans hx))]
    · rw [List.filter_cons_of_pos (by simp [hx]), findP_cons, findP_cons, ih]
      by_cases hk : key.toList = k.toList
      · rw [if_neg (fun e => hx ((beq_iff_eq.1 e).trans hk)), if_pos (beq_iff_eq.2 hk), if_pos (beq_iff_eq.2 hk)]
      · rw [if_neg (c := (key.toList == k.toList) = true) (fun e => hk (beq_iff_eq.1 e)), if_neg (c := (key.toList == k.toList) = true) (fun e => hk (beq_iff_eq.1 e))]
theorem good_without {ps : List (ByteArray × Int)} (h : Good ps) (k : ByteArray) : Good (withoutP ps k) := ⟨fun p hp => h.1 p (List.mem_filter.1 hp).1, h.2.filter _⟩
def ins (k : ByteArray) (v : Int) : List (ByteArray × Int) → List (ByteArray × Int)
  | [] => [(k, v)]
  | x :: r => if code x.1 < code k then x :: ins k v r else (k, v) :: withoutP (x :: r) k
theorem stepW_true (k : ByteArray) (v : Int) (acc : List (ByteArray × Int)) (x : ByteArray × Int) : stepW k v (acc, true) x = (if x.1.toList == k.toList then acc else acc ++ [x], true) := by
  unfold stepW
  cases x.1.toList == k.toList <;> rfl
theorem stepW_lo {k : ByteArray} (v : Int) (acc : List (ByteArray × Int)) {x : ByteArray × Int} (h1 : Op.bytesLess x.1.toList k.toList = true) (h2 : (x.1.toList == k.toList) = false) : stepW k v (acc, false) x = (acc ++ [x], false) := by
  unfold stepW
  rw [h1, h2]
  rfl
theorem stepW_hi {k : ByteArray} (v : Int) (acc : List (ByteArray × Int)) {x : ByteArray × Int} (h1 : Op.bytesLess x.1.toList k.toList = false) : stepW k v (acc, false) x = (if x.1.toList == k.toList then acc ++ [(k, v)] else acc ++ [(k, v)] ++ [x], true) := by
  unfold stepW
  rw [h1]
  cases x.1.toList == k.toList <;> rfl
theorem without_cons (x : ByteArray × Int) (r : List (ByteArray × Int)) (k : ByteArray) : withoutP (x :: r) k = if x.1.toList == k.toList then withoutP r k else x :: withoutP r k := by
  unfold withoutP
  rw [List.filter_cons]
  cases x.1.toList == k.toList <;> rfl
theorem fold_true (k : ByteArray) (v : Int) : ∀ (ps acc : List (ByteArray × Int)), ps.foldl (stepW k v) (acc, true) = (acc ++ withoutP ps k, true)
  | [], acc => by simp [withoutP]
  | x :: r, acc => by
    rw [List.foldl_cons, stepW_true, fold_true k v r, without_cons]
    cases x.1.toList == k.toList
    · rw [if_neg (by simp), if_neg (by simp)]; simp
    · rw [if_pos rfl, if_pos rfl]
theorem fold_false {k : ByteArray} (v : Int) (hk : isK k = true) : ∀ (ps acc : List (ByteArray × Int)), (∀ p ∈ ps, isK p.1 = true) →
    (if (ps.foldl (stepW k v) (acc, false)).2 then (ps.foldl (stepW k v) (acc, false)).1 else (ps.foldl (stepW k v) (acc, false)).1 ++ [(k, v)]) = acc ++ ins k v ps
  | [], acc, _ => by simp [ins]
  | x :: r, acc, h => by
    have hx := h x List.mem_cons_self
    have hr := fun p hp => h p (List.mem_cons_of_mem _ hp)
    rw [List.foldl_cons]
    unfold ins
    by_cases hc : code x.1 < code k
    · have hne : (x.1.toList == k.toList) = false := beq_eq_false_iff_ne.2 fun e => by have := code_of e; omega
      rw [stepW_lo v acc (by rw [less_code hx hk]; exact decide_eq_true hc) hne, if_pos hc, fold_false v hk r (acc ++ [x]) hr]
      simp
    · rw [stepW_hi v acc (by rw [less_code hx hk]; exact decide_eq_false hc), if_neg hc, fold_true, without_cons]
      cases x.1.toList == k.toList <;> simp
theorem withP_ins {ps : List (ByteArray × Int)} {k : ByteArray} (v : Int) (hk : isK k = true) (h : ∀ p ∈ ps, isK p.1 = true) : withP ps k v = ins k v ps := by
  unfold withP accW
  rw [List.take_length]
  have := fold_false v hk ps [] h
  rw [List.nil_append] at this
  exact this
theorem find_ins {k : ByteArray} (v : Int) (key : ByteArray) : ∀ ps : List (ByteArray × Int), findP (ins k v ps) key = if key.toList == k.toList then (v, true) else findP ps key
  | [] => by
    unfold ins
    rw [findP_cons, findP_nil]
    by_cases e : k.toList = key.toList
    · rw [if_pos (beq_iff_eq.2 e), if_pos (beq_iff_eq.2 e.symm)]
    · rw [if_neg (fun h => e (beq_iff_eq.1 h)), if_neg (fun h => e (beq_iff_eq.1 h).symm)]
  | x :: r => by
    unfold ins
    by_cases hc : code x.1 < code k
    · rw [if_pos hc, findP_cons, find_ins v key r, findP_cons]
      by_cases e : key.toList = k.toList
      · rw [if_neg (fun h => by have := code_of ((beq_iff_eq.1 h).trans e); omega), if_pos (beq_iff_eq.2 e), if_pos (beq_iff_eq.2 e)]
      · rw [if_neg (c := (key.toList == k.toList) = true) (fun h => e (beq_iff_eq.1 h)), if_neg (c := (key.toList == k.toList) = true) (fun h => e (beq_iff_eq.1 h))]
    · rw [if_neg hc, findP_cons, find_without]
      by_cases e : key.toList = k.toList
      · rw [if_pos (beq_iff_eq.2 e.symm), if_pos (beq_iff_eq.2 e)]
      · rw [if_neg (fun h => e (beq_iff_eq.1 h).symm), if_neg (fun h => e (beq_iff_eq.1 h)), if_neg (fun h => e (beq_iff_eq.1 h))]
theorem mem_ins {k : ByteArray} {v : Int} {p : ByteArray × Int} : ∀ {ps : List (ByteArray × Int)}, p ∈ ins k v ps → p = (k, v) ∨ p ∈ ps
  | [], h => by unfold ins at h; exact .inl (List.mem_singleton.1 h)
  | x :: r, h => by
    unfold ins at h
    split at h
    · rcases List.mem_cons.1 h with rfl | h
      · exact .inr List.mem_cons_self
      · rcases mem_ins h with h | h
        · exact .inl h
        · exact .inr (List.mem_cons_of_mem _ h)
    · rcases List.mem_cons.1 h with h | h
      · exact .inl h
      · exact .inr (List.mem_filter.1 h).1
theorem good_ins {k : ByteArray} {v : Int} (hk : isK k = true) (hv : isV v = true) : ∀ {ps : List (ByteArray × Int)}, Good ps → Good (ins k v ps)
  | [], _ => ⟨fun p hp => by unfold ins at hp; rw [List.mem_singleton.1 hp]; exact ⟨hk, hv⟩, List.pairwise_singleton _ _⟩
  | x :: r, h => by
    refine ⟨fun p hp => by
      rcases mem_ins hp with rfl | hp
      · exact ⟨hk, hv⟩
      · exact h.1 p hp, ?_⟩
    unfold ins
    have gx := (List.pairwise_cons.1 h.2).1
    split
    · rename_i hc
      refine List.pairwise_cons.2 ⟨fun y hy => ?_, (good_ins hk hv h.tail).2⟩
      rcases mem_ins hy with rfl | hy
      · exact hc
      · exact gx y hy
    · rename_i hc
      refine List.pairwise_cons.2 ⟨fun y hy => ?_, (good_without h k).2⟩
      have hm := List.mem_filter.1 hy
      have hne : code y.1 ≠ code k := fun e => by
        have := code_inj (h.1 y hm.1).1 hk e
        have h2 := hm.2
        rw [this] at h2
        simp at h2
      have hle : code x.1 ≤ code y.1 := by
        rcases List.mem_cons.1 hm.1 with rfl | hy
        · exact Nat.le_refl _
        · exact Nat.le_of_lt (gx y hy)
      show code k < code y.1
      omega
theorem find_with {ps : List (ByteArray × Int)} {k : ByteArray} (v : Int) (hk : isK k = true) (hs : Good ps) (key : ByteArray) : findP (withP ps k v) key = if key.toList == k.toList then (v, true) else findP ps key := by
  rw [withP_ins v hk fun p hp => (hs.1 p hp).1]
  exact find_ins v key ps
theorem good_with {ps : List (ByteArray × Int)} {k : ByteArray} {v : Int} (hk : isK k = true) (hv : isV v = true) (hs : Good ps) : Good (withP ps k v) := by
  rw [withP_ins v hk fun p hp => (hs.1 p hp).1]
  exact good_ins hk hv hs

/-! ### a command -/
def applyP (ps : List (ByteArray × Int)) (op : Int) (key : ByteArray) (val exp : Int) : List (ByteArray × Int) × Bool :=
  if isK key = true then
    if op = 1 then (if isV val = true then (withP ps key val, true) else (ps, false))
    else if op = 2 then (withoutP ps key, (findP ps key).2)
    else if op = 3 ∧ isV val = true ∧ findP ps key = (exp, true) then (withP ps key val, true) else (ps, false)
  else (ps, false)
theorem good_apply {ps : List (ByteArray × Int)} (hs : Good ps) (op : Int) (key : ByteArray) (val exp : Int) : Good (applyP ps op key val exp).1 := by
  unfold applyP
  split
  · rename_i hk
    split
    · split
      · rename_i hv; exact good_with hk hv hs
      · exact hs
    · split
      · exact good_without hs key
      · split
        · rename_i hv; exact good_with hk hv.2.1 hs
        · exact hs
  · exact hs
theorem without_none {ps : List (ByteArray × Int)} {key : ByteArray} (h : (findP ps key).2 = false) : withoutP ps key = ps := by
  refine List.filter_eq_self.2 fun p hp => ?_
  cases e : p.1.toList == key.toList
  · rfl
  · rw [findP_snd.2 ⟨p, hp, beq_iff_eq.1 e⟩] at h
    cases h
theorem without_len (ps : List (ByteArray × Int)) (key : ByteArray) : (withoutP ps key).length ≤ ps.length := List.length_filter_le _ _
theorem apply_len (ps : List (ByteArray × Int)) (op : Int) (key : ByteArray) (val exp : Int) : (applyP ps op key val exp).1.length ≤ ps.length + 1 := by
  have h1 := withP_len ps key val
  have h2 := without_len ps key
  unfold applyP
  split
  · split
    · split
      · exact h1
      · exact Nat.le_succ _
    · split
      · exact Nat.le_succ_of_le h2
      · split
        · exact h1
        · exact Nat.le_succ _
  · exact Nat.le_succ _
/-- a good store has six pairs at most -/
theorem good_len {ps : List (ByteArray × Int)} (h : Good ps) : ps.length ≤ 6 := by
  have hb : ∀ p ∈ ps, 97 ≤ code p.1 ∧ code p.1 ≤ 102 := fun p hp => by
    have := (h.1 p hp).1
    obtain ⟨c, e⟩ := one_byte (isK_size this)
    rw [e] at this
    have hc : ∀ n : Fin 256, isK ⟨#[UInt8.ofNat n.val]⟩ = true → 97 ≤ n.val ∧ n.val ≤ 102 := by decide +kernel
    have h2 := hc ⟨c.toNat, c.toNat_lt⟩ (by simpa using this)
    have e1 : (⟨#[c]⟩ : ByteArray).toList = [c] := by rw [Lib.toList_data]
    unfold code
    rw [e, e1]
    exact h2
  have h0 : ∀ (i : Nat) (hi : i < ps.length), 97 + i ≤ code (ps[i]).1 := by
    intro i
    induction i with
    | zero => intro hi; exact (hb _ (List.getElem_mem hi)).1
    | succ i ih =>
      intro hi
      have := ih (by omega)
      have h3 := List.pairwise_iff_getElem.1 h.2 i (i + 1) (by omega) hi (by omega)
      omega
  by_cases hl : ps.length ≤ 6
  · exact hl
  · have h1 := h0 6 (by omega)
    have h2 := (hb _ (List.getElem_mem (show 6 < ps.length by omega))).2
    omega

/-! ### a map that stands for a store -/
def Rep (D : DataW Unit) (ps : List (ByteArray × Int)) : Prop := IsMap D ∧ ∀ key : ByteArray, Maps.has D (.string key.data.toList) = (findP ps key).2 ∧ ∀ z, D.atKey (.string key.data.toList) z = if (findP ps key).2 = true then .lit (.int .i64 (findP ps key).1) else z
theorem rep_of {ps : List (ByteArray × Int)} (hs : storeOk ps = true) : Rep (mapOf ps ps.length) ps := by
  refine ⟨mapOf_isMap _ _, fun key => ?_⟩
  rcases mapOf_look ps key ps.length with ⟨j, hj, h1, h2, h3⟩ | ⟨h1, h2, h3⟩
  · have hp : findP ps key = (pv ps j, true) := findP_at hj (by rw [h1]; simp) fun i hi => by
      rw [beq_eq_false_iff_ne, ← h1]; exact distinct hs hi hj
    rw [hp]
    exact ⟨h2, fun z => by rw [h3, if_pos rfl]⟩
  · have hp : findP ps key = (0, false) := findP_none fun j hj => beq_eq_false_iff_ne.2 (h1 j hj)
    rw [hp]
    exact ⟨h2, fun z => by rw [h3, if_neg (by simp)]⟩
theorem lit_ne {a b : ByteArray} (h : ¬ (a.toList == b.toList) = true) : (Lit.string a.data.toList) ≠ .string b.data.toList := fun e => h (by
  injection e with e
  rw [Lib.toList_data, Lib.toList_data]
  exact beq_iff_eq.2 e)
theorem rep_put {D : DataW Unit} {ps : List (ByteArray × Int)} (hr : Rep D ps) (hs : Good ps) {key : ByteArray} (hk : isK key = true) (v : Int) : Rep (D.put (.string key.data.toList) (.lit (.int .i64 v))) (withP ps key v) := by
  refine ⟨hr.1.put _ _, fun k => ?_⟩
  rw [find_with v hk hs]
  by_cases e : (k.toList == key.toList) = true
  · rw [if_pos e]
    have e2 : k = key := bytes_inj (beq_iff_eq.1 e)
    subst e2
    exact ⟨has_put_same (k := .string k.data.toList) hr.1 (by first | trivial | simp [WideAt.IsKeyLit]) _, fun z => by rw [if_pos rfl]; exact atKey_put_same (k := .string k.data.toList) hr.1 (by first | trivial | simp [WideAt.IsKeyLit]) _ _⟩
  · rw [if_neg e, has_put_other (lit_ne e)]
    exact ⟨(hr.2 k).1, fun z => by rw [atKey_put_other (lit_ne e)]; exact (hr.2 k).2 z⟩
theorem rep_del {D : DataW Unit} {ps : List (ByteArray × Int)} (hr : Rep D ps) (key : ByteArray) : Rep (D.del (.string key.data.toList)) (withoutP ps key) := by
  refine ⟨hr.1.del _, fun k => ?_⟩
  rw [find_without]
  by_cases e : (k.toList == key.toList) = true
  · rw [if_pos e]
    have e2 : k = key := bytes_inj (beq_iff_eq.1 e)
    subst e2
    exact ⟨has_del_same, fun z => by rw [if_neg (by simp)]; exact atKey_del_same z⟩
  · rw [if_neg e, has_del_other (lit_ne e)]
    exact ⟨(hr.2 k).1, fun z => by rw [atKey_del_other (lit_ne e)]; exact (hr.2 k).2 z⟩
theorem rep_at {D : DataW Unit} {ps : List (ByteArray × Int)} (hr : Rep D ps) (key : ByteArray) {c : Int} (hc : D.atKey (.string key.data.toList) (.lit (.int .i64 0)) = .lit (.int .i64 c)) : Maps.has D (.string key.data.toList) = (findP ps key).2 ∧ c = (findP ps key).1 := by
  obtain ⟨h1, h2⟩ := hr.2 key
  refine ⟨h1, ?_⟩
  rw [h2] at hc
  cases hf : (findP ps key).2
  · rw [hf, if_neg (by simp)] at hc
    injection hc with hc
    injection hc with _ hc
    rw [← hc]
    unfold findP at hf ⊢
    split at hf
    · cases hf
    · rfl
  · rw [hf, if_pos rfl] at hc
    injection hc with hc
    injection hc with _ hc
    exact hc.symm
theorem rep_sorted {w : World} {b n : Nat} {D : DataW Unit} {ps : List (ByteArray × Int)} (hown : Store w b n D) (hr : Rep D ps) (hs : Good ps) {ss : List (List UInt8)} (hp : ss.Perm (strKeys D)) :
    ss.mergeSort (fun x y => decide (x ≤ y)) = ps.map (fun p => p.1.data.toList) := by
  obtain ⟨es, hD, hpw, _⟩ := hown.entries keyLaw
  obtain ⟨es', hD', hko⟩ := World.ownsMap.keysOf hown
  obtain rfl : es = es' := by rw [hD] at hD'; simpa using hD'
  have hpw2 : (ps.map (fun p => p.1.data.toList)).Pairwise (fun x y => decide (x ≤ y) = true ∧ x ≠ y) := by
    refine List.pairwise_map.2 (hs.2.imp_of_mem fun {p q} hp hq hc => ?_)
    have h1 := (hs.1 p hp).1
    have h2 := (hs.1 q hq).1
    obtain ⟨c, e1⟩ := one_byte (isK_size h1)
    obtain ⟨d, e2⟩ := one_byte (isK_size h2)
    have e3 : (⟨#[c]⟩ : ByteArray).toList = [c] := by rw [Lib.toList_data]
    have e4 : (⟨#[d]⟩ : ByteArray).toList = [d] := by rw [Lib.toList_data]
    rw [e1, e2] at hc ⊢
    unfold code at hc
    rw [e3, e4] at hc
    have hlt : c < d := UInt8.lt_iff_toNat_lt.2 hc
    show decide ([c] ≤ [d]) = true ∧ [c] ≠ [d]
    refine ⟨decide_eq_true (List.le_of_lt (List.Lex.rel hlt)), fun e => ?_⟩
    injection e with e _
    rw [e] at hlt
    exact absurd hlt (UInt8.lt_irrefl _)
  have hperm : (ps.map (fun p => p.1.data.toList)).Perm (strKeys D) := by
    subst hD
    refine perm_strKeys hpw (fun p hp => by obtain ⟨v, hv⟩ := hko p hp; obtain ⟨x, _, hx, _⟩ := Maps.keyOf_str Tryz.underlying9 hv; exact ⟨x, hx⟩) (hpw2.imp fun h => h.2) fun x => ?_
    have := (hr.2 ⟨x.toArray⟩).1
    rw [show (⟨x.toArray⟩ : ByteArray).data.toList = x by simp] at this
    rw [this, findP_snd, List.mem_map]
    constructor
    · rintro ⟨p, hp, e⟩; exact ⟨p, hp, by rw [Lib.toList_data, Lib.toList_data, e]⟩
    · rintro ⟨p, hp, e⟩; exact ⟨p, hp, by rw [Lib.toList_data, Lib.toList_data] at e; rw [e]⟩
  rw [mergeSort_of_perm (hp.trans hperm.symm)]
  exact List.mergeSort_of_pairwise (hpw2.imp fun h => h.1)
end Go.Proofs.YtlihmomopofdnaaGreatDoor
