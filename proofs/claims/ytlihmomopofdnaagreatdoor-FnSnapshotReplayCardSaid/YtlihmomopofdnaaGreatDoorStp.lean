/-
  append to a slice of the call's own, at a step of a region that draws its order.
-/
import Derived.Test.YtlihmomopofdnaaGreatDoorBase
import Derived.RegionTactic
import Derived.Maps.AppendAt
namespace Go.Proofs.YtlihmomopofdnaaGreatDoor
open Go.RowKit
set_option linter.unusedVariables false

theorem stp_append {P : Program} {T E : TypeId} {z : Value} {sz bytes : Nat} (H : ElTy P T E z sz bytes) {w : World} {ops : Array Oper} {o : Oper} {a : Act} {K : Act → World → Prop} {Q : Exit → Act → World → Prop} {X : Prop}
    (hgd : o.guard = none) (s x : Operand) (ho : o.op = .call { callee := .builtin .append, args := #[s, x], argTypes := #[T, T] })
    {lo hi : Nat} {v : Value} {n : Nat} {cs : List Value} (hs : a.eval s = v) (hown : Own w lo hi E v n sz cs) (hlo : lo ≤ hi)
    (ad : Addr) (m c : Nat) (news : List Value) (hx : a.eval x = .slice (some ad) m c) (hl : news.length = m * sz) (hnews : ∀ j u, news[j]? = some u → w.cell? (ad.add j) = some u) (h1 : ∀ u ∈ news, u.oneCell' = true)
    (hbytes : (n + m) * bytes ≤ 140737488355328) (h63 : n + m ≤ maxLen)
    (h : ∀ v' w', Own w' lo w'.heap.size E v' (n + m) sz (cs ++ news) → Keep lo hi w w' → K (a.put o.dst v') w') : if Region.wanted o (yielded ops a.tmps) = true then Oper.wp P o a w K Q else X := by
  obtain ⟨i, hi0, hz0, hz1, hz2⟩ := info_parts H.info
  obtain ⟨hrow, hb, hhi⟩ := hown
  rw [if_pos (by simp [Region.wanted, hgd])]
  refine wp_append_own w s x T ho lo E i z sz bytes H.under hi0 hz0 hz1 hz2 H.zs H.pos v n cs hs hrow ad m c news hx hl hnews h1 h63 hbytes (by omega) fun v' w' h2 h3 _ => ?_
  refine h v' w' ⟨h2, fun g hg => (h2.lt g hg).2, Nat.le_refl _⟩ ⟨h3.os, h3.tape, h3.output, h3.size, fun k hk ho => h3.block k hk fun e => ?_⟩
  have := hb k e.symm
  have := (hrow.lt k e.symm).1
  omega

theorem stp_append_all {P : Program} {T E : TypeId} {z : Value} {sz bytes : Nat} (H : ElTy P T E z sz bytes) {w : World} {ops : Array Oper} {o : Oper} {a : Act} {K : Act → World → Prop} {Q : Exit → Act → World → Prop} {X : Prop}
    (hgd : o.guard = none) (s x : Operand) (ho : o.op = .call { callee := .builtin .append, args := #[s, x], argTypes := #[T, T] })
    {lo hi : Nat} {v : Value} {n : Nat} {cs : List Value} (hs : a.eval s = v) (hown : Own w lo hi E v n sz cs) (hlo : lo ≤ hi)
    {v2 : Value} {l2 h2 m : Nat} {news : List Value} (hx : a.eval x = v2) (hsrc : Sl w l2 h2 v2 m sz news) (h1 : ∀ u ∈ news, u.oneCell' = true)
    (hbytes : (n + m) * bytes ≤ 140737488355328) (h63 : n + m ≤ maxLen)
    (h : ∀ v' w', Own w' lo w'.heap.size E v' (n + m) sz (cs ++ news) → Keep lo hi w w' → K (a.put o.dst v') w') : if Region.wanted o (yielded ops a.tmps) = true then Oper.wp P o a w K Q else X := by
  obtain ⟨hl, _, ad, cap, hv, hn, hc⟩ := hsrc
  subst hv
  cases ad with
  | none =>
    obtain rfl : cap = 0 := hn.2.2 rfl
    obtain rfl : m = 0 := by have := hn.1; omega
    obtain rfl : news = [] := List.eq_nil_of_length_eq_zero (by simpa using hl)
    obtain ⟨i, hi0, _, hz1, _⟩ := info_parts H.info
    obtain ⟨hrow, hb, hhi⟩ := hown
    subst hz1
    rw [if_pos (by simp [Region.wanted, hgd])]
    have hrun := run_append_owned_none (P := P) (w := w) lo T o.type E i i.size H.under hi0 v n cs hrow
    have := h v w ⟨by simpa using hrow, fun g hg => by have := hb g hg; omega, Nat.le_refl _⟩ (Keep.refl _ _ _)
    unfold Oper.wp
    simp [execOp, ho, resolve, invoke, builtin, hs, hx, hrun, Result.andThen]
    exact this
  | some ad =>
    by_cases h0 : 0 < m
    · obtain ⟨b, off, ha, _, _, hcell⟩ := hc h0
      cases ha
      exact stp_append H hgd s x ho hs hown hlo ⟨b, off, none⟩ m cap news hx hl (fun j u hu => by rw [Addr.add_lit]; exact hcell j u hu) h1 hbytes h63 h
    · obtain rfl : m = 0 := by omega
      obtain rfl : news = [] := List.eq_nil_of_length_eq_zero (by simpa using hl)
      exact stp_append H hgd s x ho hs hown hlo ad 0 cap [] hx hl (fun j u hu => by simp at hu) h1 hbytes h63 h

/-- append, and a block T beside the owned one: the new value's block is another than T. -/
theorem stp_append_sep {P : Program} {T E : TypeId} {z : Value} {sz bytes : Nat} (H : ElTy P T E z sz bytes) {w : World} {ops : Array Oper} {o : Oper} {a : Act} {K : Act → World → Prop} {Q : Exit → Act → World → Prop} {X : Prop}
    (hgd : o.guard = none) (s x : Operand) (ho : o.op = .call { callee := .builtin .append, args := #[s, x], argTypes := #[T, T] })
    {lo hi : Nat} {v : Value} {n : Nat} {cs : List Value} (hs : a.eval s = v) (hown : Own w lo hi E v n sz cs) (hlo : lo ≤ hi) (B base : Nat) (hB : hi ≤ B ∨ B < lo) (hBl : B < w.heap.size) (hbase : base ≤ lo)
    (ad : Addr) (m c : Nat) (news : List Value) (hx : a.eval x = .slice (some ad) m c) (hl : news.length = m * sz) (hnews : ∀ j u, news[j]? = some u → w.cell? (ad.add j) = some u) (h1 : ∀ u ∈ news, u.oneCell' = true)
    (hbytes : (n + m) * bytes ≤ 140737488355328) (h63 : n + m ≤ maxLen)
    (h : ∀ v' w' lo' hi', Own w' lo' hi' E v' (n + m) sz (cs ++ news) → base ≤ lo' → lo' ≤ hi' → (hi' ≤ B ∨ B < lo') → Keep lo hi w w' → K (a.put o.dst v') w') : if Region.wanted o (yielded ops a.tmps) = true then Oper.wp P o a w K Q else X := by
  obtain ⟨i, hi0, hz0, hz1, hz2⟩ := info_parts H.info
  obtain ⟨hrow, hb, hhi⟩ := hown
  rw [if_pos (by simp [Region.wanted, hgd])]
  obtain ⟨v', w', hr, h2, h3, _, h5⟩ := run_append_own_at (P := P) w lo T o.type E i z sz bytes H.under hi0 hz0 hz1 hz2 H.zs H.pos v n cs hrow ad m c news hl hnews h1 h63 hbytes (by omega)
  have hk : Keep lo hi w w' := ⟨h3.os, h3.tape, h3.output, h3.size, fun k hk ho => h3.block k hk fun e => by
    have := hb k e.symm
    have := (hrow.lt k e.symm).1
    omega⟩
  have hsz := h3.size
  unfold Oper.wp execOp
  simp only [ho, resolve, invoke, builtin, Sem.run_bind, Sem.run_pure, Result.andThen_ok, List.map_toArray, List.map_cons, List.map_nil, hs, hx, hr]
  rcases h5 with h5 | h5
  · exact h v' w' lo hi ⟨h2, fun g hg => hb g (by rw [← h5]; exact hg), by omega⟩ hbase hlo hB hk
  · refine h v' w' w.heap.size w'.heap.size ⟨⟨h2.1, ?_⟩, fun g hg => (h2.lt g hg).2, Nat.le_refl _⟩ (by omega) hsz (.inr hBl) hk
    rcases h2.2 with h0 | ⟨g, cap, cur, hv, hg, r⟩
    · exact .inl h0
    · refine .inr ⟨g, cap, cur, hv, ?_, r⟩
      rw [hv] at h5
      simp [Value.ownBlock] at h5
      omega
end Go.Proofs.YtlihmomopofdnaaGreatDoor
