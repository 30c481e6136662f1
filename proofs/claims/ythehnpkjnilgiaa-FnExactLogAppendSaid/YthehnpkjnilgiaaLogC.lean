/-
  The walk of the program's chain: a log made a linked list; and of the walks along it.
-/
import Derived.Test.YthehnpkjnilgiaaLogW
namespace Go.Proofs.Ythehnpkjnilgiaa
open Go.RowKit
set_option linter.unusedVariables false

/-- the cell at which the next record is to be hung: the first variable's, or the last record's -/
def hang (B : Nat) (gs : List Nat) : Addr := match gs.getLast? with | none => ⟨B, 0, none⟩ | some g => ⟨g, 3, none⟩
/-- what chain holds after so many rounds -/
structure Half (w : World) (lo B : Nat) (gs : List Nat) (es : List (Int × Int)) (k : Nat) : Prop where
  low : lo ≤ B
  first : w.heap[B]? = some (.cells #[.pointer (ptr gs 0)] 55 (0, 0))
  chain : ChainAt w lo gs es k
  inc : ∀ i g g', gs[i]? = some g → gs[i + 1]? = some g' → g < g'
  apart : ∀ g ∈ gs, B < g
theorem Half.below {w w' : World} {lo B : Nat} {gs : List Nat} {es : List (Int × Int)} {k : Nat} (h : Half w lo B gs es k) (hb : Below w.heap.size w w') : Half w' lo B gs es k :=
  ⟨h.low, (hb.block B (Array.getElem?_eq_some_iff.1 h.first).1).trans h.first, h.chain.below hb, h.inc, h.apart⟩
theorem inc_lt {gs : List Nat} (h : ∀ i g g', gs[i]? = some g → gs[i + 1]? = some g' → g < g') : ∀ (j i : Nat) (g g' : Nat), gs[i]? = some g → gs[i + 1 + j]? = some g' → g < g' := by
  intro j
  induction j with
  | zero => exact fun i g g' h1 h2 => h i g g' h1 h2
  | succ j ih =>
    intro i g g' h1 h2
    have hlt : i + 1 + j + 1 < gs.length := by have := (List.getElem?_eq_some_iff.1 h2).1; omega
    have h3 : gs[i + 1 + j]? = some (gs[i + 1 + j]'(by omega)) := List.getElem?_eq_getElem _
    exact Nat.lt_trans (ih i g _ h1 h3) (h (i + 1 + j) _ g' h3 h2)
theorem Half.hangs {w : World} {lo B : Nat} {gs : List Nat} {es : List (Int × Int)} {k : Nat} (h : Half w lo B gs es k) :
    lo ≤ (hang B gs).block ∧ w.cell? (hang B gs) = some (.pointer none) ∧ w.frozen? (hang B gs) = false := by
  unfold hang
  cases hg : gs.getLast? with
  | none =>
    have : gs = [] := List.getLast?_eq_none_iff.1 hg
    subst this
    have hf := h.first
    simp [ptr] at hf
    exact ⟨h.low, by simp [World.cell?, hf], by simp [World.frozen?, hf]⟩
  | some g =>
    rw [List.getLast?_eq_getElem?] at hg
    obtain ⟨h1, h2⟩ := h.chain.2 _ g hg
    have hn : ptr gs (gs.length - 1 + 1) = none := ptr_none (by omega)
    simp only [recO, hn] at h2
    exact ⟨h1, by simp [World.cell?, h2], by simp [World.frozen?, h2]⟩

/-- A record is laid in a new block and hung on. -/
theorem Half.hung {w : World} {lo B : Nat} {gs : List Nat} {es : List (Int × Int)} {k : Nat} (h : Half w lo B gs es k) (hlo : lo ≤ w.heap.size) :
    let w1 := w.alloc (.cells #[.int .i64 (ev es k), .int .i64 (ec es k), .int .i64 k, .pointer none] 63)
    Half (w1.setCell (hang B gs) (.pointer (some ⟨w.heap.size, 0, none⟩))) lo B (gs ++ [w.heap.size]) es (k + 1) ∧ hang B (gs ++ [w.heap.size]) = ⟨w.heap.size, 3, none⟩ ∧
      (w1.setCell (hang B gs) (.pointer (some ⟨w.heap.size, 0, none⟩))).cell? (hang B gs) = some (.pointer (some ⟨w.heap.size, 0, none⟩)) := by
  intro w1
  have hsz : w1.heap.size = w.heap.size + 1 := by simp [w1]
  have hlen := h.chain.1
  have hB : B < w.heap.size := (Array.getElem?_eq_some_iff.1 h.first).1
  have hgl : ∀ g ∈ gs, g < w.heap.size := fun g hg => by
    obtain ⟨i, hi, e⟩ := List.getElem_of_mem hg
    have := (h.chain.2 i g (by rw [List.getElem?_eq_getElem hi, e])).2
    exact (Array.getElem?_eq_some_iff.1 this).1
  have hnew : w1.heap[w.heap.size]? = some (.cells #[.int .i64 (ev es k), .int .i64 (ec es k), .int .i64 k, .pointer none] 63) := heap_alloc_new w _
  have hold : ∀ b, b < w.heap.size → w1.heap[b]? = w.heap[b]? := fun b hb => heap_alloc_old w _ hb
  have hptr : ∀ i, i < gs.length → ptr (gs ++ [w.heap.size]) i = ptr gs i := fun i hi => by simp [ptr, List.getElem?_append_left hi]
  have hlast : ptr (gs ++ [w.heap.size]) gs.length = some ⟨w.heap.size, 0, none⟩ := by simp [ptr]
  have hend : ptr (gs ++ [w.heap.size]) (gs.length + 1) = none := ptr_none (by simp)
  have hset : ∀ b, b ≠ (hang B gs).block → (w1.setCell (hang B gs) (.pointer (some ⟨w.heap.size, 0, none⟩))).heap[b]? = w1.heap[b]? := fun b hb => Below.heap_setCell _ _ _ _ hb
  have hat : ∀ (b : Nat) (cs : Array Value) (t : TypeId) (o : Nat), w1.heap[b]? = some (.cells cs t (0, 0)) → hang B gs = ⟨b, o, none⟩ →
      (w1.setCell (hang B gs) (.pointer (some ⟨w.heap.size, 0, none⟩))).heap[b]? = some (.cells (cs.setIfInBounds o (.pointer (some ⟨w.heap.size, 0, none⟩))) t (0, 0)) := by
    intro b cs t o hb hh
    rw [hh]
    simp only [World.setCell]
    rw [Array.getElem?_modify]
    simp [hb]
  refine ⟨⟨h.low, ?_, ⟨by simp [hlen], ?_⟩, ?_, ?_⟩, ?_, ?_⟩
  · -- the first variable
    by_cases h0 : gs = []
    · subst h0
      have hf := h.first
      simp [ptr] at hf
      have := hat B #[.pointer none] _ 0 ((hold B hB).trans hf) rfl
      rw [this]
      simp [ptr]
    · have hne : B ≠ (hang B gs).block := by
        unfold hang
        cases hg : gs.getLast? with
        | none => exact absurd (List.getLast?_eq_none_iff.1 hg) h0
        | some g =>
          have := h.apart g (List.mem_of_getLast? hg)
          simp only
          omega
      rw [hset B hne, hold B hB, h.first, hptr 0 (by cases gs; exact absurd rfl h0; simp)]
  · -- the records
    intro i g hg
    by_cases hi : i < gs.length
    · rw [List.getElem?_append_left hi] at hg
      obtain ⟨hl, hh⟩ := h.chain.2 i g hg
      refine ⟨hl, ?_⟩
      have hglt := hgl g (List.mem_of_getElem? hg)
      by_cases hii : i + 1 < gs.length
      · -- not the last
        have hne : g ≠ (hang B gs).block := by
          unfold hang
          cases hgg : gs.getLast? with
          | none => have := List.getLast?_eq_none_iff.1 hgg; subst this; simp at hi
          | some g' =>
            rw [List.getLast?_eq_getElem?] at hgg
            have := inc_lt h.inc (gs.length - 1 - i - 1) i g g' hg (by rw [show i + 1 + (gs.length - 1 - i - 1) = gs.length - 1 by omega]; exact hgg)
            simp only
            omega
        rw [hset g hne, hold g hglt, hh]
        simp only [recO, hptr (i + 1) hii]
      · have hil : i = gs.length - 1 := by omega
        have hgl' : gs.getLast? = some g := by rw [List.getLast?_eq_getElem?, ← hil]; exact hg
        have hn : ptr gs (i + 1) = none := ptr_none (by omega)
        simp only [recO, hn] at hh
        have := hat g _ _ 3 ((hold g hglt).trans hh) (by unfold hang; rw [hgl'])
        rw [this]
        have e : ptr (gs ++ [w.heap.size]) (i + 1) = some ⟨w.heap.size, 0, none⟩ := by rw [show i + 1 = gs.length by omega]; exact hlast
        simp [recO, e]
    · have hi2 : i = gs.length := by
        have := (List.getElem?_eq_some_iff.1 hg).1
        simp at this
        omega
      subst hi2
      simp at hg
      subst hg
      have hne : w.heap.size ≠ (hang B gs).block := by
        unfold hang
        cases hgg : gs.getLast? with
        | none => simp only; omega
        | some g' =>
          have := hgl g' (List.mem_of_getLast? hgg)
          simp only
          omega
      refine ⟨hlo, ?_⟩
      rw [hset _ hne, hnew]
      rw [hlen] at hend
      simp only [recO, hlen, hend]
  · -- ascending
    intro i g g' h1 h2
    by_cases hi : i + 1 < gs.length
    · rw [List.getElem?_append_left (by omega)] at h1
      rw [List.getElem?_append_left hi] at h2
      exact h.inc i g g' h1 h2
    · have : i + 1 = gs.length := by
        have := (List.getElem?_eq_some_iff.1 h2).1
        simp at this
        omega
      rw [List.getElem?_append_left (by omega)] at h1
      have e : g' = w.heap.size := by rw [this] at h2; simp at h2; exact h2.symm
      rw [e]
      exact hgl g (List.mem_of_getElem? h1)
  · intro g hg
    rcases List.mem_append.1 hg with h1 | h1
    · exact h.apart g h1
    · rw [List.mem_singleton.1 h1]; exact hB
  · simp [hang]
  · refine World.cell?_setCell_same _ _ _ (u := .pointer none) ?_
    have := h.hangs.2.1
    rw [World.cell?_of_block (hold _ (lt_of_cell this))]
    exact this

def RetChain (w : World) (es : List (Int × Int)) (e : Ending) (w' : World) : Prop :=
  ∃ gs, e = .returned (.tuple #[.pointer (ptr gs 0), .bool true]) ∧ ChainAt w' w.heap.size gs es es.length ∧ Below w.heap.size w w'
def RetNoChain (w : World) (e : Ending) (w' : World) : Prop := e = .returned (.tuple #[.pointer none, .bool false]) ∧ Below w.heap.size w w'

set_option maxHeartbeats 4000000 in
theorem chain_any (v : Value) (es : List (Int × Int)) (n : Int) (w : World) {lo hi : Nat} (h : Ents w lo hi v es) (r : Bool) (hr : logValid n es = r) :
    Calls Try.prog 36 #[v, .int .i64 n] w fun e w' => (r = true ∧ RetChain w es e w') ∨ (r = false ∧ RetNoChain w e w') := by
  obtain ⟨a, cap, hv, hn, hcell⟩ := h.open
  subst hv
  have HB := Lib.hid hr; clear hr
  by_cases hhd : headOk n es = true
  case neg =>
    have HR := Lib.hid (show r = false by rw [← HB.out]; unfold logValid; rw [show headOk n es = false by simpa using hhd]; rfl)
    have hx : n < 1 ∨ (1 ≤ n ∧ 5 < n) ∨ (1 ≤ n ∧ n ≤ 5 ∧ 12 < (es.length : Int)) := by
      by_cases h1 : 1 ≤ n
      · by_cases h2 : n ≤ 5
        · right; right
          refine ⟨h1, h2, ?_⟩
          have : ¬ es.length ≤ 12 := fun hl => hhd (by simp [headOk, inB, h1, h2, hl])
          omega
        · right; left; omega
      · left; omega
    clear hhd hcell
    rcases hx with g1 | ⟨g1, g2⟩ | ⟨g1, g2, g3⟩
    · go_enter Try.func36, Try.ntmps36
      go_wp2_with fail
      go_ret2
      exact .inr ⟨HR.out, rfl, Below.refl _ _⟩
    · have g3 : ¬ n < 1 := by omega
      go_enter Try.func36, Try.ntmps36
      go_wp2_with fail
      go_ret2
      exact .inr ⟨HR.out, rfl, Below.refl _ _⟩
    · have g4 : ¬ n < 1 := by omega
      have g5 : ¬ 5 < n := by omega
      go_enter Try.func36, Try.ntmps36
      go_wp2_with fail
      go_ret2
      exact .inr ⟨HR.out, rfl, Below.refl _ _⟩
  case pos =>
    have HH := Lib.hid hhd
    have hh2 := hhd
    unfold headOk at hh2
    simp only [Bool.and_eq_true, decide_eq_true_eq] at hh2
    obtain ⟨hnn, hl12⟩ := hh2
    obtain ⟨g1, g2⟩ := inB_true hnn
    have g3 : ¬ n < 1 := by omega
    have g4 : ¬ 5 < n := by omega
    have g5 : ¬ 12 < (es.length : Int) := by omega
    clear hhd hnn
    go_enter Try.func36, Try.ntmps36
    go_wp2_with fail
    go_loopw [7, 23] (fun q i wr => ∃ (k : Nat) (gs : List Nat), k ≤ es.length ∧ i = .int .i64 k ∧ q = .pointer (some (hang w.heap.size gs)) ∧ logTo n es k = true ∧ Half wr w.heap.size w.heap.size gs es k ∧ Below w.heap.size w wr)
      (fun _ i _ => es.length - (intOf i).toNat)
    case atStart =>
      refine ⟨0, [], Nat.zero_le _, rfl, rfl, rfl, ⟨Nat.le_refl _, ?_, ⟨rfl, fun i g hg => by simp at hg⟩, fun i g g' hg => by simp at hg, fun g hg => by simp at hg⟩, (Below.refl _ _).alloc (Nat.le_refl _) _⟩
      exact heap_alloc_new w _
    case round =>
      obtain ⟨k, gs, hk, rfl, rfl, hc, hH, hb⟩ := hrel
      have HC := Lib.hid hc; clear hc
      by_cases hlt : k < es.length
      · obtain ⟨b, o, _, _, hi, hc0, hc1⟩ := hcell k hlt
        have hix := hi k rfl
        have hd0 := (hb.cell (lt_of_cell hc0)).trans hc0
        have hd1 := (hb.cell (lt_of_cell hc1)).trans hc1
        clear hi hcell hc0 hc1
        cases e : okE n (ev es k) (ec es k)
        · have E := Lib.hid e
          have HS := Lib.hid (log_stop hlt e); clear e
          go_wp2_with fail
          refine (implEntry_any _ _ _ _ false E.out).mono ?_
          rintro e w1 ⟨rfl, hb1⟩
          have hs1 := hb.size
          go_wp2_with fail
          go_ret2
          exact .inr ⟨HB.out.symm.trans HS.out, rfl, (hb.alloc hs1 _).trans (hb1.mono (by simp; omega))⟩
        · have E := Lib.hid e
          have HS := Lib.hid (logTo_step HC.out e); clear e
          go_wp2_with fail
          refine (implEntry_any _ _ _ _ true E.out).mono ?_
          rintro e w1 ⟨rfl, hb1⟩
          have hs0 := hb.size
          have hs1 := hb1.size
          have hbb : Below w.heap.size w w1 := (hb.alloc hs0 _).trans (hb1.mono (by simp; omega))
          have hH1 := (hH.below ((Below.refl _ _).alloc (Nat.le_refl _) _)).below hb1
          have hz1 : wr.heap.size < w1.heap.size := by simp at hs1; omega
          have hx0 : w1.cell? ⟨wr.heap.size, 0, none⟩ = some (.int .i64 (ev es k)) := by rw [hb1.cell (by simp), World.cell?_alloc_at _ _ _ _ rfl]; rfl
          have hx1 : w1.cell? ⟨wr.heap.size, 1, none⟩ = some (.int .i64 (ec es k)) := by rw [hb1.cell (by simp), World.cell?_alloc_at _ _ _ _ rfl]; rfl
          obtain ⟨t1, t2, t3⟩ := hH1.hangs
          obtain ⟨hT1, hT2, hT3⟩ := hH1.hung (by omega)
          have htl := lt_of_cell t2
          have u2 : (w1.alloc (.cells #[.int .i64 (ev es k), .int .i64 (ec es k), .int .i64 k, .pointer none] 63)).cell? (hang w.heap.size gs) = some (.pointer none) := (World.cell?_of_block (heap_alloc_old w1 _ htl)).trans t2
          have u3 : (w1.alloc (.cells #[.int .i64 (ev es k), .int .i64 (ec es k), .int .i64 k, .pointer none] 63)).frozen? (hang w.heap.size gs) = false := (World.frozen?_of_block (heap_alloc_old w1 _ htl)).trans t3
          have hb3 : Below w.heap.size w ((w1.alloc (.cells #[.int .i64 (ev es k), .int .i64 (ec es k), .int .i64 k, .pointer none] 63)).setCell (hang w.heap.size gs) (.pointer (some ⟨w1.heap.size, 0, none⟩))) := by
            refine (hbb.alloc (by omega) _).setCell ?_ _
            exact t1
          clear t2 t3 hH1 hH hbb hb1 hb htl
          generalize hang w.heap.size gs = p at *
          go_wp2_with fail
          go_roundw
          case rel => exact ⟨k + 1, gs ++ [w1.heap.size], by omega, by go_num, by rw [hT2], HS.out, hT1, hb3⟩
          case measure => simp [intOf]; omega
      · have hkk : es.length = k := by omega
        have HR := Lib.hid (show r = true by rw [← HB.out]; unfold logValid; rw [hkk, HH.out, HC.out]; rfl)
        have hf0 : wr.cell? ⟨w.heap.size, 0, none⟩ = some (.pointer (ptr gs 0)) := by simp [World.cell?, hH.first]
        have hch := hH.chain
        rw [← hkk] at hch
        clear hcell hH
        go_wp2_with fail
        go_ret2
        exact .inl ⟨HR.out, gs, rfl, hch, hb⟩
end Go.Proofs.Ythehnpkjnilgiaa
