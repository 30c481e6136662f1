/-
  Plain sentences about memory, used by all the walks of this seat: a slice that can be read, a slice that the call owns, a step that keeps what lies outside a range of blocks.
-/
import Derived.Test.YtlihmomopofdnaaGreatDoorProg
import Derived.WalkKit
import Derived.WalkSpells
import Derived.WalkLawsBesides
import Derived.Lib.Hide
import Derived.Laws.AppendOwnNone
import Derived.Deep.QuietTactic
import Derived.BigQuiet
namespace Go.Proofs.YtlihmomopofdnaaGreatDoor
open Go.RowKit
set_option linter.unusedVariables false

/-! ### numbers of a list -/
def nth (xs : List Int) (j : Nat) : Int := xs.getD j 0

theorem nth_eq {xs : List Int} {k : Nat} (h : k < xs.length) : nth xs k = xs[k] := by simp [nth, List.getD, h]
theorem nth_mem {xs : List Int} {k : Nat} (h : k < xs.length) : nth xs k ∈ xs := by rw [nth_eq h]; exact List.getElem_mem h
theorem take_snoc {xs : List Int} {k : Nat} (h : k < xs.length) : xs.take (k + 1) = xs.take k ++ [nth xs k] := by
  rw [List.take_succ_eq_append_getElem h, nth_eq h]
theorem take_all {xs : List Int} {k : Nat} (h : ¬ k < xs.length) : xs.take k = xs := List.take_of_length_le (by omega)

/-! ### steps of the world -/
/-- Outside the blocks lo .. hi - 1 nothing that was there has turned. -/
structure Keep (lo hi : Nat) (w w' : World) : Prop where
  os : w'.os = w.os
  tape : w'.tape = w.tape
  output : w'.output = w.output
  size : w.heap.size ≤ w'.heap.size
  block : ∀ k, k < w.heap.size → (k < lo ∨ hi ≤ k) → w'.heap[k]? = w.heap[k]?

theorem Keep.of_below {w w' : World} (h : Below w.heap.size w w') (lo hi : Nat) : Keep lo hi w w' :=
  ⟨h.os, h.tape, h.output, h.size, fun k hk _ => h.block k hk⟩
theorem Keep.refl (lo hi : Nat) (w : World) : Keep lo hi w w := ⟨rfl, rfl, rfl, Nat.le_refl _, fun _ _ _ => rfl⟩
theorem Keep.trans {lo hi : Nat} {a b c : World} (h : Keep lo hi a b) (k : Keep lo hi b c) : Keep lo hi a c :=
  ⟨k.os.trans h.os, k.tape.trans h.tape, k.output.trans h.output, Nat.le_trans h.size k.size,
   fun i hi' ho => (k.block i (Nat.lt_of_lt_of_le hi' h.size) ho).trans (h.block i hi' ho)⟩
theorem Keep.mono {lo hi lo' hi' : Nat} {w w' : World} (h : Keep lo hi w w') (h1 : lo' ≤ lo) (h2 : hi ≤ hi') : Keep lo' hi' w w' :=
  ⟨h.os, h.tape, h.output, h.size, fun k hk ho => h.block k hk (by omega)⟩
theorem Keep.below {lo hi B : Nat} {w w' : World} (h : Keep lo hi w w') (h1 : B ≤ lo) (h2 : B ≤ w.heap.size) : Below B w w' :=
  ⟨h.os, h.tape, h.output, h.size, fun k hk => h.block k (by omega) (by omega)⟩
theorem Keep.join {lo hi l1 h1 : Nat} {a b c : World} (h : Keep lo hi a b) (k : Keep l1 h1 b c) (hl : a.heap.size ≤ l1) : Keep lo hi a c :=
  ⟨k.os.trans h.os, k.tape.trans h.tape, k.output.trans h.output, Nat.le_trans h.size k.size,
   fun i hi' ho => (k.block i (Nat.lt_of_lt_of_le hi' h.size) (by omega)).trans (h.block i hi' ho)⟩
theorem below_step {B : Nat} {W w w' : World} (h : Below B W w) (k : Below w.heap.size w w') (hB : B ≤ w.heap.size) : Below B W w' :=
  h.trans (k.mono hB)

/-! ### slices -/
/-- v reads as n elements of sz cells each, the cells are cs; they lie in a block from lo on, below hi. -/
def Sl (w : World) (lo hi : Nat) (v : Value) (n sz : Nat) (cs : List Value) : Prop :=
  cs.length = n * sz ∧ hi ≤ w.heap.size ∧ ∃ a cap, v = .slice a n cap ∧ (n ≤ cap ∧ cap ≤ maxLen ∧ (a = none → cap = 0)) ∧
    (0 < n → ∃ b off, a = some ⟨b, off, none⟩ ∧ lo ≤ b ∧ b < hi ∧ ∀ j u, cs[j]? = some u → w.cell? ⟨b, off + j, none⟩ = some u)

/-- The call owns it: it begins at the head of a row that is not frozen. -/
def Own (w : World) (lo hi : Nat) (e : TypeId) (v : Value) (n sz : Nat) (cs : List Value) : Prop :=
  w.ownsRow lo e sz v n cs ∧ (∀ g, v.ownBlock = some g → g < hi) ∧ hi ≤ w.heap.size

theorem Own.sl {w : World} {lo hi : Nat} {e : TypeId} {v : Value} {n sz : Nat} {cs : List Value} (h : Own w lo hi e v n sz cs) : Sl w lo hi v n sz cs := by
  obtain ⟨⟨hl, ho⟩, hb, hh⟩ := h
  refine ⟨hl, hh, ?_⟩
  rcases ho with ⟨rfl, rfl⟩ | ⟨g, cap, cur, rfl, hlo, hg, hn, hm, hs, ht⟩
  · exact ⟨none, 0, rfl, ⟨Nat.zero_le _, Nat.zero_le _, fun _ => rfl⟩, fun h => absurd h (by omega)⟩
  · refine ⟨_, cap, rfl, ⟨hn, hm, fun h => by cases h⟩, fun _ => ⟨g, 0, rfl, hlo, hb g rfl, fun j u hu => ?_⟩⟩
    rw [cell_of_row w g (0 + j) cur e (0, 0) hg]
    rw [← ht, List.getElem?_take] at hu
    split at hu
    · simpa using hu
    · cases hu

theorem Sl.same {w w' : World} {lo hi : Nat} {v : Value} {n sz : Nat} {cs : List Value} (h : Sl w lo hi v n sz cs)
    (hs : w.heap.size ≤ w'.heap.size) (hb : ∀ k, lo ≤ k → k < hi → w'.heap[k]? = w.heap[k]?) : Sl w' lo hi v n sz cs := by
  obtain ⟨hl, hh, a, cap, hv, hn, hc⟩ := h
  refine ⟨hl, by omega, a, cap, hv, hn, fun h0 => ?_⟩
  obtain ⟨b, off, ha, h1, h2, hcell⟩ := hc h0
  exact ⟨b, off, ha, h1, h2, fun j u hu => (World.cell?_of_block (hb b h1 h2)).trans (hcell j u hu)⟩
theorem Sl.below {w w' : World} {lo hi : Nat} {v : Value} {n sz : Nat} {cs : List Value} (h : Sl w lo hi v n sz cs) (hb : Below w.heap.size w w') : Sl w' lo hi v n sz cs :=
  h.same hb.size fun k _ h2 => hb.block k (by have := h.2.1; omega)
theorem Sl.keep {w w' : World} {lo hi l1 h1 : Nat} {v : Value} {n sz : Nat} {cs : List Value} (h : Sl w lo hi v n sz cs) (hk : Keep l1 h1 w w') (ho : hi ≤ l1 ∨ h1 ≤ lo) : Sl w' lo hi v n sz cs :=
  h.same hk.size fun k h2 h3 => hk.block k (by have := h.2.1; omega) (by omega)
theorem Sl.wide {w : World} {lo hi lo' hi' : Nat} {v : Value} {n sz : Nat} {cs : List Value} (h : Sl w lo hi v n sz cs) (h1 : lo' ≤ lo) (h2 : hi ≤ hi') (h3 : hi' ≤ w.heap.size) : Sl w lo' hi' v n sz cs := by
  obtain ⟨hl, hh, a, cap, hv, hn, hc⟩ := h
  refine ⟨hl, h3, a, cap, hv, hn, fun h0 => ?_⟩
  obtain ⟨b, off, ha, h1', h2', hcell⟩ := hc h0
  exact ⟨b, off, ha, by omega, by omega, hcell⟩

theorem Own.same {w w' : World} {lo hi : Nat} {e : TypeId} {v : Value} {n sz : Nat} {cs : List Value} (h : Own w lo hi e v n sz cs)
    (hs : w.heap.size ≤ w'.heap.size) (hb : ∀ k, lo ≤ k → k < hi → w'.heap[k]? = w.heap[k]?) : Own w' lo hi e v n sz cs := by
  obtain ⟨⟨hl, ho⟩, hg, hh⟩ := h
  refine ⟨⟨hl, ?_⟩, hg, by omega⟩
  rcases ho with h0 | ⟨g, cap, cur, rfl, hlo, hgg, r⟩
  · exact .inl h0
  · exact .inr ⟨g, cap, cur, rfl, hlo, (hb g hlo (hg g rfl)).trans hgg, r⟩
theorem Own.below {w w' : World} {lo hi : Nat} {e : TypeId} {v : Value} {n sz : Nat} {cs : List Value} (h : Own w lo hi e v n sz cs) (hb : Below w.heap.size w w') : Own w' lo hi e v n sz cs :=
  h.same hb.size fun k _ h2 => hb.block k (by have := h.2.2; omega)
theorem Own.keep {w w' : World} {lo hi l1 h1 : Nat} {e : TypeId} {v : Value} {n sz : Nat} {cs : List Value} (h : Own w lo hi e v n sz cs) (hk : Keep l1 h1 w w') (ho : hi ≤ l1 ∨ h1 ≤ lo) : Own w' lo hi e v n sz cs :=
  h.same hk.size fun k h2 h3 => hk.block k (by have := h.2.2; omega) (by omega)
theorem Own.wide {w : World} {lo hi lo' hi' : Nat} {e : TypeId} {v : Value} {n sz : Nat} {cs : List Value} (h : Own w lo hi e v n sz cs) (h1 : lo' ≤ lo) (h2 : hi ≤ hi') (h3 : hi' ≤ w.heap.size) : Own w lo' hi' e v n sz cs := by
  obtain ⟨⟨hl, ho⟩, hg, hh⟩ := h
  refine ⟨⟨hl, ?_⟩, fun g hgg => by have := hg g hgg; omega, h3⟩
  rcases ho with h0 | ⟨g, cap, cur, hv, hlo, r⟩
  · exact .inl h0
  · exact .inr ⟨g, cap, cur, hv, by omega, r⟩
theorem Own.nil (w : World) (lo hi : Nat) (e : TypeId) (sz : Nat) (h : hi ≤ w.heap.size) : Own w lo hi e (.slice none 0 0) 0 sz [] :=
  ⟨World.ownsRow_nil w lo e sz, fun _ h => by simp [Value.ownBlock] at h, h⟩

theorem Sl.cap {w : World} {lo hi : Nat} {n cap n' sz : Nat} {a : Option Addr} {cs : List Value} (h : Sl w lo hi (.slice a n cap) n' sz cs) : n ≤ cap := by
  obtain ⟨_, _, a', cap', hv, hn, _⟩ := h
  cases hv
  exact hn.1

/-! ### the element type of a slice, as the table has it -/
structure ElTy (P : Program) (T E : TypeId) (z : Value) (sz bytes : Nat) : Prop where
  under : P.underlying T = some (.slice E)
  info : (P.info? E).map (fun i => (i.zero, i.size, i.bytes)) = some (some z, sz, bytes)
  zs : z.cells.size = sz
  pos : 0 < sz

/-- append to a slice of the call's own. -/
theorem wpl_append {P : Program} {T E : TypeId} {z : Value} {sz bytes : Nat} (H : ElTy P T E z sz bytes) {w : World} {ops : Array Oper} {rest : List Oper} {o : Oper} {a : Act} {Q : Exit → Act → World → Prop}
    (hgd : o.guard = none) (s x : Operand) (ho : o.op = .call { callee := .builtin .append, args := #[s, x], argTypes := #[T, T] })
    {lo hi : Nat} {v : Value} {n : Nat} {cs : List Value} (hs : a.eval s = v) (hown : Own w lo hi E v n sz cs) (hlo : lo ≤ hi)
    (ad : Addr) (m c : Nat) (news : List Value) (hx : a.eval x = .slice (some ad) m c) (hl : news.length = m * sz) (hnews : ∀ j u, news[j]? = some u → w.cell? (ad.add j) = some u) (h1 : ∀ u ∈ news, u.oneCell' = true)
    (hbytes : (n + m) * bytes ≤ 140737488355328) (h63 : n + m ≤ maxLen)
    (h : ∀ v' w', Own w' lo w'.heap.size E v' (n + m) sz (cs ++ news) → Keep lo hi w w' → wpList P ops Q rest (a.put o.dst v') w') : wpList P ops Q (o :: rest) a w := by
  obtain ⟨i, hi0, hz0, hz1, hz2⟩ := info_parts H.info
  obtain ⟨hrow, hb, hhi⟩ := hown
  refine wpList_append_own w hgd s x T ho lo E i z sz bytes H.under hi0 hz0 hz1 hz2 H.zs H.pos v n cs hs hrow ad m c news hx hl hnews h1 h63 hbytes (by omega) fun v' w' h2 h3 _ => ?_
  refine h v' w' ⟨h2, fun g hg => (h2.lt g hg).2, Nat.le_refl _⟩ ⟨h3.os, h3.tape, h3.output, h3.size, fun k hk ho => h3.block k hk fun e => ?_⟩
  have := hb k e.symm
  have := (hrow.lt k e.symm).1
  omega

/-- append a whole slice (nil or not) to a slice of the call's own. -/
theorem wpl_append_all {P : Program} {T E : TypeId} {z : Value} {sz bytes : Nat} (H : ElTy P T E z sz bytes) {w : World} {ops : Array Oper} {rest : List Oper} {o : Oper} {a : Act} {Q : Exit → Act → World → Prop}
    (hgd : o.guard = none) (s x : Operand) (ho : o.op = .call { callee := .builtin .append, args := #[s, x], argTypes := #[T, T] })
    {lo hi : Nat} {v : Value} {n : Nat} {cs : List Value} (hs : a.eval s = v) (hown : Own w lo hi E v n sz cs) (hlo : lo ≤ hi)
    {v2 : Value} {l2 h2 m : Nat} {news : List Value} (hx : a.eval x = v2) (hsrc : Sl w l2 h2 v2 m sz news) (h1 : ∀ u ∈ news, u.oneCell' = true)
    (hbytes : (n + m) * bytes ≤ 140737488355328) (h63 : n + m ≤ maxLen)
    (h : ∀ v' w', Own w' lo w'.heap.size E v' (n + m) sz (cs ++ news) → Keep lo hi w w' → wpList P ops Q rest (a.put o.dst v') w') : wpList P ops Q (o :: rest) a w := by
  obtain ⟨hl, _, ad, cap, hv, hn, hc⟩ := hsrc
  subst hv
  cases ad with
  | none =>
    obtain rfl : cap = 0 := hn.2.2 rfl
    obtain rfl : m = 0 := by have := hn.1; omega
    obtain rfl : news = [] := List.eq_nil_of_length_eq_zero (by simpa using hl)
    obtain ⟨i, hi0, _, hz1, _⟩ := info_parts H.info
    obtain ⟨hrow, hb, hhi⟩ := hown
    subst hz1
    refine wpList_append_own_none hgd s x T ho lo E i i.size H.under hi0 v n cs hs hrow hx ?_
    have := h v w ⟨by simpa using hrow, fun g hg => by have := hb g hg; omega, Nat.le_refl _⟩ (Keep.refl _ _ _)
    exact this
  | some ad =>
    by_cases h0 : 0 < m
    · obtain ⟨b, off, ha, _, _, hcell⟩ := hc h0
      cases ha
      exact wpl_append H hgd s x ho hs hown hlo ⟨b, off, none⟩ m cap news hx hl (fun j u hu => by rw [Addr.add_lit]; exact hcell j u hu) h1 hbytes h63 h
    · obtain rfl : m = 0 := by omega
      obtain rfl : news = [] := List.eq_nil_of_length_eq_zero (by simpa using hl)
      exact wpl_append H hgd s x ho hs hown hlo ad 0 cap [] hx hl (fun j u hu => by simp at hu) h1 hbytes h63 h

/-- make([]T, n). -/
theorem wpl_make {P : Program} {T E : TypeId} {z : Value} {sz bytes : Nat} (H : ElTy P T E z sz bytes) {w : World} {ops : Array Oper} {rest : List Oper} {o : Oper} {a : Act} {Q : Exit → Act → World → Prop}
    (hg : o.guard = none) (l c : Operand) (hop : o.op = Op.makeSlice T l c) (kl kc : IntKind) (L C : Int) (n : Nat) (hl : a.eval l = .int kl L) (hc : a.eval c = .int kc C) (hL : L = (n : Int)) (hC : C = (n : Int))
    (b2 : bytes * n ≤ 281474976710656) (b3 : n ≤ maxLen)
    (hK : ∀ w', Own w' w.heap.size w'.heap.size E (.slice (some ⟨w.heap.size, 0, none⟩) n n) n sz (madeCells z.cells (n * sz)).toList → Below w.heap.size w w' → wpList P ops Q rest (a.put o.dst (.slice (some ⟨w.heap.size, 0, none⟩) n n)) w') :
    wpList P ops Q (o :: rest) a w := by
  obtain ⟨i, hi0, hz0, hz1, hz2⟩ := info_parts H.info
  refine wpList_make_full w hg l c T hop w.heap.size E i z sz H.under hi0 hz0 hz1 kl kc L C n hl hc hL hC (by rw [hz2]; exact b2) b3 (Nat.le_refl _) fun w' hown hgr => ?_
  exact hK w' ⟨hown, fun g hg => (hown.lt g hg).2, Nat.le_refl _⟩ ⟨hgr.os, hgr.tape, hgr.output, hgr.size, fun k hk => hgr.block k hk (by simp)⟩

/-! ### ints -/
/-- The address of an element, as the walk asks for it. -/
theorem run_indexAt_at {P : Program} {T E : TypeId} {z : Value} {sz bytes : Nat} (H : ElTy P T E z sz bytes) (b off n cap : Nat) (i : Int) (k : Nat) (hik : i = k) (hk : k < n) (wx : World) :
    (Instr.indexAt T (.slice (some ⟨b, off, none⟩) n cap) (.int .i64 i)).run P wx = .ok (.pointer (some ⟨b, off + k * sz, none⟩)) wx := by
  obtain ⟨i0, hi0, _, hz1, _⟩ := info_parts H.info
  have he : P.elem T = E := by simp [Program.elem, H.under]
  rw [run_indexAt_slice (P := P) wx T ⟨b, off, none⟩ n cap .i64 i (by rw [he]; exact H.under), if_pos (by omega)]
  subst hik
  simp [sizeOf, typeInfo, he, hi0, hz1, Addr.add_lit, Result.andThen]

/-- As a walk wants it: of each element its address and its cells. -/
theorem Sl.open {P : Program} {T E : TypeId} {z : Value} {sz bytes : Nat} (H : ElTy P T E z sz bytes) {w : World} {lo hi : Nat} {v : Value} {n : Nat} {cs : List Value} (h : Sl w lo hi v n sz cs) :
    ∃ a cap, v = .slice a n cap ∧ n ≤ 9223372036854775807 ∧ ∀ k, k < n → ∃ b o, lo ≤ b ∧ b < hi ∧
      (∀ (i : Int), i = k → ∀ wx, (Instr.indexAt T (.slice a n cap) (.int .i64 i)).run P wx = .ok (.pointer (some ⟨b, o, none⟩)) wx) ∧
      ∀ j u, j < sz → cs[k * sz + j]? = some u → w.cell? ⟨b, o + j, none⟩ = some u := by
  obtain ⟨_, _, a, cap, hv, hn, hc⟩ := h
  refine ⟨a, cap, hv, by have := hn.1; have := hn.2.1; unfold maxLen at this; omega, fun k hk => ?_⟩
  obtain ⟨b, off, ha, hlo, hhi, hcell⟩ := hc (by omega)
  subst ha
  refine ⟨b, off + k * sz, hlo, hhi, fun i hik wx => run_indexAt_at H b off n cap i k hik hk wx, fun j u _ hu => ?_⟩
  rw [Nat.add_assoc]
  exact hcell _ _ hu

theorem lt_of_cell {w : World} {p : Addr} {v : Value} (h : w.cell? p = some v) : p.block < w.heap.size := World.block_lt_of_cell? w p h
/-! ### an empty slice that is not nil -/
theorem Own.empty (w : World) (lo : Nat) (e : TypeId) (sz : Nat) (h : lo ≤ w.heap.size) : Own (w.alloc (.cells #[] e)) lo (w.alloc (.cells #[] e)).heap.size e (.slice (some ⟨w.heap.size, 0, none⟩) 0 0) 0 sz [] :=
  ⟨World.ownsRow_made w #[] 0 h (Nat.zero_le _) (by simp), fun g hg => by simp [Value.ownBlock] at hg; subst hg; simp, Nat.le_refl _⟩
theorem Own.lit (w : World) (lo : Nat) (e : TypeId) (sz : Nat) (cs : Array Value) (n : Nat) (h : lo ≤ w.heap.size) (hm : n ≤ maxLen) (hs : cs.size = n * sz) :
    Own (w.alloc (.cells cs e)) lo (w.alloc (.cells cs e)).heap.size e (.slice (some ⟨w.heap.size, 0, none⟩) n n) n sz cs.toList :=
  ⟨World.ownsRow_lit w cs n h hm hs, fun g hg => by simp [Value.ownBlock] at hg; subst hg; simp, Nat.le_refl _⟩
/-! ### an element of an owned slice of ints, to be read or written -/
theorem nth_set {xs : List Int} {k j : Nat} {u : Int} : nth (xs.set k u) j = if k = j ∧ k < xs.length then u else nth xs j := by
  unfold nth
  rw [List.getD_eq_getElem?_getD, List.getD_eq_getElem?_getD, List.getElem?_set]
  by_cases h : k = j
  · subst h
    by_cases h2 : k < xs.length <;> simp [h2]
  · simp [h]
theorem nth_ext {xs ys : List Int} (h : xs.length = ys.length) (hn : ∀ j, j < xs.length → nth xs j = nth ys j) : xs = ys := by
  refine List.ext_getElem h fun j h1 h2 => ?_
  have := hn j h1
  rwa [nth_eq h1, nth_eq h2] at this
theorem keep_setCell {lo hi : Nat} {W w : World} (h : Keep lo hi W w) {p : Addr} (h1 : lo ≤ p.block) (h2 : p.block < hi) (u : Value) : Keep lo hi W (w.setCell p u) :=
  ⟨h.os, h.tape, h.output, by have := h.size; simpa [World.setCell] using this, fun k hk ho => by
    rw [Below.heap_setCell _ _ _ _ (by omega)]
    exact h.block k hk ho⟩

/-! ### closers -/
theorem ret_bool {a b : Bool} (h : a = b) : Ending.returned (.bool a) = .returned (.bool b) := by rw [h]
theorem ret_int {k : IntKind} {a b : Int} (h : a = b) : Ending.returned (.int k a) = .returned (.int k b) := by rw [h]
theorem ret_crew {k : IntKind} {a b : Int} {x y : Bool} (h : a = b) (h2 : x = y) : Ending.returned (.tuple #[.int k a, .bool x]) = .returned (.tuple #[.int k b, .bool y]) := by rw [h, h2]
/-- The number that fits an int. -/
def I64 (x : Int) : Prop := -9223372036854775808 ≤ x ∧ x ≤ 9223372036854775807
theorem i64_of_wf {x : Int} (h : (Lit.int .i64 x).wf = true) : I64 x := by
  simp [Lit.wf, IntKind.min, IntKind.max, IntKind.signed, IntKind.bits] at h
  exact ⟨by omega, by omega⟩
/-! ### calls inside a region whose order is drawn -/
theorem quietS {P : Program} {f : FuncId} {args : Array Value} {w : World} {n : Nat} {v : Value}
    (h : Calls P f args (w.drewN n) fun e w' => e = .returned v ∧ w.drewN n = w') : Calls P f args (w.drewN n) fun e w'' => e = .returned v ∧ ∃ m, w'' = w.drewN m :=
  h.mono fun _ _ ⟨he, hm⟩ => ⟨he, n, hm.symm⟩
theorem drawn_below {w w' : World} (h : ∃ n, w' = w.drewN n) : Below w.heap.size w w' := by
  obtain ⟨n, rfl⟩ := h
  exact below_drewN (Below.refl _ _) n
theorem drawn_trans {a b c : World} (h : ∃ n, b = a.drewN n) (k : ∃ n, c = b.drewN n) : ∃ n, c = a.drewN n := by
  obtain ⟨n, rfl⟩ := h
  obtain ⟨m, rfl⟩ := k
  exact ⟨n + m, by rw [World.drewN_drewN]⟩
theorem drawn_refl (w : World) : ∃ n, w = w.drewN n := ⟨0, rfl⟩
theorem drawn_size {w w' : World} (h : ∃ n, w' = w.drewN n) : w'.heap.size = w.heap.size := by
  obtain ⟨n, rfl⟩ := h
  rfl
theorem drawn_more {w wr : World} (h : ∃ n, wr = w.drewN n) (m : Nat) : ∃ n, wr.drewN m = w.drewN n := by
  obtain ⟨n, rfl⟩ := h
  exact ⟨n + m, by rw [World.drewN_drewN]⟩

def inB (n lo hi : Int) : Bool := decide (lo ≤ n) && decide (n ≤ hi)
theorem inB_true {n lo hi : Int} (h : inB n lo hi = true) : lo ≤ n ∧ n ≤ hi := by simpa [inB] using h
theorem inB_mk {n lo hi : Int} (h1 : lo ≤ n) (h2 : n ≤ hi) : inB n lo hi = true := by simp [inB, h1, h2]
theorem inB_false {n lo hi : Int} (h : inB n lo hi = false) : n < lo ∨ hi < n := by
  simp only [inB, Bool.and_eq_false_iff, decide_eq_false_iff_not] at h; omega
theorem inB_mkF {n lo hi : Int} (h : n < lo ∨ hi < n) : inB n lo hi = false := by
  simp only [inB, Bool.and_eq_false_iff, decide_eq_false_iff_not]; omega
end Go.Proofs.YtlihmomopofdnaaGreatDoor
