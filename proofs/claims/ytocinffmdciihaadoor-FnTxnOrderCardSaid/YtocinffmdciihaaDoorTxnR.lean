/-
  The walk of the reference's draw of a transaction.
-/
import Derived.Test.YtocinffmdciihaaDoorRdrK
import Derived.Test.YtocinffmdciihaaDoorTxnD
import Derived.Test.YtocinffmdciihaaDoorStp
import Derived.Deep.RegionLaw
import Derived.Deep.RegionHeld3
import Derived.Deep.DeepCutAuto
namespace Go.Proofs.YtocinffmdciihaaDoor
open Go.RowKit
set_option linter.unusedVariables false

/-- the four choices of a write -/
def pickW (c : Int) : Int := nth [1, 1, 0, 2] c.toNat
theorem pickW_range (c : Int) (h0 : 0 ≤ c) (h1 : c < 4) : 0 ≤ pickW c ∧ pickW c ≤ 2 := by
  have : c = 0 ∨ c = 1 ∨ c = 2 ∨ c = 3 := by omega
  rcases this with rfl | rfl | rfl | rfl <;> simp [pickW, nth]
theorem pickW_get (c : Int) (h0 : 0 ≤ c) (h1 : c < 4) : (#[Value.int .i64 1, .int .i64 1, .int .i64 0, .int .i64 2] : Array Value)[c.toNat]? = some (.int .i64 (pickW c)) := by
  have : c = 0 ∨ c = 1 ∨ c = 2 ∨ c = 3 := by omega
  rcases this with rfl | rfl | rfl | rfl <;> rfl
theorem pickW_index (B : Nat) (c : Int) (h0 : 0 ≤ c) (h1 : c < 4) (wx : World) :
    (Instr.indexAt 23 (.slice (some ⟨B, 0, none⟩) 4 4) (.int .i64 c)).run Tryd.prog wx = .ok (.pointer (some ⟨B, c.toNat, none⟩)) wx := by
  have := run_indexAt_at elInt B 0 4 4 c c.toNat (by omega) (by omega) wx
  simpa using this
theorem ints_snoc {w : World} {lo hi : Nat} {v : Value} {xs : List Int} {x : Int} (h : Own w lo hi 3 v (xs.length + 1) 1 (xs.map (.int .i64) ++ [.int .i64 x])) : IntsO w lo hi v (xs ++ [x]) := by
  unfold IntsO; rw [List.length_append, List.map_append]; exact h
theorem Own.form {w : World} {lo hi : Nat} {e : TypeId} {v : Value} {n sz : Nat} {cs : List Value} (h : Own w lo hi e v n sz cs) : ∃ a cap, v = .slice a n cap := by
  obtain ⟨_, _, a, cap, hv, _⟩ := h.sl
  exact ⟨a, cap, hv⟩
theorem news_two (w : World) (o : Obj) (x : Value) (t : TypeId) : ∀ j u, [x][j]? = some u → ((w.alloc o).alloc (.cells #[x] t)).cell? ((⟨w.heap.size + 1, 0, none⟩ : Addr).add j) = some u := by
  have := cell_one_new (w.alloc o) x t
  simpa using this
theorem len_one (x : Value) : [x].length = 1 * 1 := rfl
theorem own_one (x : Int) : ∀ u ∈ [Value.int .i64 x], u.oneCell' = true := ints_oneCell .i64 [x]

/-- The walk's state: the transaction under way in block T, the result's block, the reader's block g; the slice of the writes is the call's own. -/
structure St (w : World) (g T lo hi : Nat) (q rc : Int) (ws : List Int) (vs : Value) (wr : World) : Prop where
  bT : Blk wr T #[.int .i64 rc, vs] 25
  bR : Blk wr w.heap.size #[.int .i64 0, .slice none 0 0] 25
  own : IntsO wr lo hi vs ws
  hl : w.heap.size + 1 ≤ lo
  hh : lo ≤ hi
  sep : hi ≤ T ∨ T < lo
  hT : w.heap.size < T
  hg : g < w.heap.size
  rd : Rdr wr g q
  kp : Keep g (g + 1) w wr
  rng : ∀ x ∈ ws, 0 ≤ x ∧ x ≤ 4
section
variable {w wr w' : World} {g T lo hi : Nat} {q rc : Int} {ws : List Int} {vs : Value}
theorem St.cell1 (h : St w g T lo hi q rc ws vs wr) : wr.cell? ⟨T, 1, none⟩ = some vs := h.bT.cell 1 rfl
theorem St.cell0 (h : St w g T lo hi q rc ws vs wr) : wr.cell? ⟨T, 0, none⟩ = some (.int .i64 rc) := h.bT.cell 0 rfl
theorem St.more (h : St w g T lo hi q rc ws vs wr) {q' : Int} (hq : q ≤ q') : St w g T lo hi q' rc ws vs wr := { h with rd := h.rd.more hq }
theorem St.below (h : St w g T lo hi q rc ws vs wr) (hb : Below wr.heap.size wr w') : St w g T lo hi q rc ws vs w' :=
  { h with bT := h.bT.below hb, bR := h.bR.below hb, own := IntsO.below h.own hb, rd := h.rd.below hb, kp := h.kp.trans (Keep.of_below hb _ _) }
theorem St.pick (h : St w g T lo hi q rc ws vs wr) (n : Int) (hn : 1 ≤ n) (hq : q ≤ 1000000000) :
    Calls Tryd.prog 49 #[.pointer (some ⟨g, 0, none⟩), .int .i64 n] wr fun e w3 => ∃ x, e = .returned (.int .i64 x) ∧ 0 ≤ x ∧ x < n ∧ St w g T lo hi (q + 1) rc ws vs w3 ∧ Keep g (g + 1) wr w3 ∧ wr.heap.size ≤ w3.heap.size :=
  (pick_any g q n wr h.rd hn hq).mono fun e w3 ⟨x, he, x0, x1, hr, hk⟩ => ⟨x, he, x0, x1,
    { h with bT := h.bT.keep hk (.inr (by have := h.hT; have := h.hg; omega)), bR := h.bR.keep hk (.inr (by have := h.hg; omega)), own := IntsO.keep h.own hk (.inr (by have := h.hl; have := h.hg; omega)), rd := hr, kp := h.kp.trans hk }, hk, hk.size⟩
theorem St.at {a : Option Addr} {n c : Nat} (h : St w g T lo hi q rc ws (.slice a n c) wr) (k : Nat) (hk : k < ws.length) : ∃ p : Addr,
    (∀ wx, (Instr.indexAt 23 (.slice a n c) (.int .i64 k)).run Tryd.prog wx = .ok (.pointer (some p)) wx) ∧
    ∀ wx ys q', ys.length = ws.length → St w g T lo hi q' rc ys (.slice a n c) wx → wx.frozen? p = false ∧ wx.cell? p = some (.int .i64 (nth ys k)) ∧ ∀ u, 0 ≤ u → u ≤ 4 → St w g T lo hi q' rc (ys.set k u) (.slice a n c) (wx.setCell p (.int .i64 u)) := by
  obtain ⟨a', cap, hv, hn, hc⟩ := IntsO.open h.own
  cases hv
  obtain ⟨p, h1, h2, hi', hst⟩ := hc k hk
  refine ⟨p, fun wx => hi' k rfl wx, fun wx ys q' hy hS => ?_⟩
  obtain ⟨r0, r1, r2⟩ := hst wx ys hy hS.own
  refine ⟨r1, r0, fun u u0 u1 => ?_⟩
  have hk2 : Keep lo hi wx (wx.setCell p (.int .i64 u)) := keep_setCell (Keep.refl _ _ _) h1 h2 _
  have e1 := hS.hl
  have e2 := hS.hg
  have e3 := hS.sep
  exact { hS with bT := hS.bT.keep hk2 (by omega), bR := hS.bR.keep hk2 (.inl (by omega)), own := r2 u, rd := hS.rd.keep hk2 (by omega), kp := hS.kp.join hk2 (by omega), rng := fun x hx => by rcases List.mem_or_eq_of_mem_set hx with h | h; exact hS.rng x h; omega }
theorem St.fin (h : St w g T lo hi q rc ws vs wr) : wr.cell? ⟨w.heap.size, 0, none⟩ = some (.int .i64 0) ∧ wr.cell? ⟨w.heap.size, 1, none⟩ = some (.slice none 0 0) ∧ wr.frozen? ⟨w.heap.size, 0, none⟩ = false ∧ wr.frozen? ⟨w.heap.size, 1, none⟩ = false ∧
    ((wr.setCell ⟨w.heap.size, 0, none⟩ (.int .i64 rc)).setCell ⟨w.heap.size, 1, none⟩ vs).cell? ⟨w.heap.size, 0, none⟩ = some (.int .i64 rc) ∧
    ((wr.setCell ⟨w.heap.size, 0, none⟩ (.int .i64 rc)).setCell ⟨w.heap.size, 1, none⟩ vs).cell? ⟨w.heap.size, 1, none⟩ = some vs ∧
    IntsO ((wr.setCell ⟨w.heap.size, 0, none⟩ (.int .i64 rc)).setCell ⟨w.heap.size, 1, none⟩ vs) w.heap.size ((wr.setCell ⟨w.heap.size, 0, none⟩ (.int .i64 rc)).setCell ⟨w.heap.size, 1, none⟩ vs).heap.size vs ws ∧
    Rdr ((wr.setCell ⟨w.heap.size, 0, none⟩ (.int .i64 rc)).setCell ⟨w.heap.size, 1, none⟩ vs) g q ∧ Keep g (g + 1) w ((wr.setCell ⟨w.heap.size, 0, none⟩ (.int .i64 rc)).setCell ⟨w.heap.size, 1, none⟩ vs) := by
  have hk : Keep w.heap.size (w.heap.size + 1) wr ((wr.setCell ⟨w.heap.size, 0, none⟩ (.int .i64 rc)).setCell ⟨w.heap.size, 1, none⟩ vs) := keep_set2 (Keep.refl _ _ _) (Nat.le_refl _) (Nat.lt_succ_self _) _ _
  have b := (h.bR.set 0 (.int .i64 rc)).set 1 vs
  have e1 := h.hl
  have e2 := h.hg
  have e3 := h.own
  exact ⟨h.bR.cell 0 rfl, h.bR.cell 1 rfl, h.bR.frozen 0, h.bR.frozen 1, b.cell 0 rfl, b.cell 1 rfl, IntsO.wide (IntsO.keep h.own hk (.inr e1)) (by omega) (Nat.le_trans e3.2.2 hk.size) (Nat.le_refl _), h.rd.keep hk e2, h.kp.join hk (Nat.le_refl _)⟩
theorem St.len (h : St w g T lo hi q rc ws vs wr) : ∃ a c, vs = .slice a ws.length c := Own.form h.own
end

/-- the append of a region that draws: the new slice, stored into the transaction -/
theorem stp_append_txn {w wx : World} {g T lo hi : Nat} {q rc : Int} {ws : List Int} {vs : Value} {ops : Array Oper} {o : Oper} {a : Act} {K : Act → World → Prop} {Q : Exit → Act → World → Prop} {X : Prop}
    (h : St w g T lo hi q rc ws vs wx) (hgd : o.guard = none) (s y : Operand) (ho : o.op = .call { callee := .builtin .append, args := #[s, y], argTypes := #[23, 23] })
    (hs : a.eval s = vs) (ad : Addr) (c : Nat) (x : Int) (hx : a.eval y = .slice (some ad) 1 c) (hnews : ∀ j u, [Value.int .i64 x][j]? = some u → wx.cell? (ad.add j) = some u) (hw : ws.length ≤ 100) (x0 : 0 ≤ x) (x1 : x ≤ 4)
    (hK : ∀ a5 c5 w5 lo' hi', w5.cell? ⟨T, 1, none⟩ = some vs → w5.frozen? ⟨T, 1, none⟩ = false → St w g T lo' hi' q rc (ws ++ [x]) (.slice a5 (ws.length + 1) c5) (w5.setCell ⟨T, 1, none⟩ (.slice a5 (ws.length + 1) c5)) → K (a.put o.dst (.slice a5 (ws.length + 1) c5)) w5) :
    if Region.wanted o (yielded ops a.tmps) = true then Oper.wp Tryd.prog o a wx K Q else X := by
  have e1 := h.hl
  have e2 := h.hg
  have e3 := h.sep
  have e4 := h.hh
  have e5 := h.hT
  refine stp_append_sep elInt hgd s y ho hs h.own h.hh T (w.heap.size + 1) h.sep h.bT.lt h.hl ad 1 c [.int .i64 x] hx (len_one _) hnews (own_one _) (by omega) (by unfold maxLen; omega) ?_
  intro v' w5 lo' hi' own5 hlo5 hlh5 hsep5 hk5
  obtain ⟨a5, c5, rfl⟩ := Own.form own5
  have bT5 := h.bT.keep hk5 (by omega)
  refine hK a5 c5 w5 lo' hi' (bT5.cell 1 rfl) (bT5.frozen 1) ?_
  have hset := keep_setCell (p := ⟨T, 1, none⟩) (Keep.refl T (T + 1) w5) (Nat.le_refl T) (Nat.lt_succ_self T) (.slice a5 (ws.length + 1) c5)
  have bR5 := h.bR.keep hk5 (.inl (by omega))
  have r5 := h.rd.keep hk5 (by omega)
  have k5 := h.kp.join hk5 (by omega)
  exact ⟨bT5.set 1 _, bR5.keep hset (.inl (by omega)), ints_snoc (Own.keep own5 hset (by omega)), hlo5, hlh5, hsep5, h.hT, h.hg, r5.keep hset (by omega), k5.join hset (by omega),
    fun z hz => by rcases List.mem_append.1 hz with h' | h'; exact h.rng z h'; rw [List.mem_singleton.1 h']; exact ⟨x0, x1⟩⟩

def TxnHalf (w : World) (g T n0 : Nat) (q rc : Int) (wr : World) (i : Value) : Prop :=
  ∃ (j : Nat) (ws : List Int) (vs : Value) (lo hi : Nat), i = .int .i64 j ∧ j + ws.length = n0 ∧ St w g T lo hi (q + 2 + ws.length) rc ws vs wr

def RetTxn (w : World) (g : Nat) (q : Int) (e : Ending) (w' : World) : Prop :=
  ∃ rc ws vs, e = .returned (.agg #[.int .i64 rc, vs]) ∧ 0 ≤ rc ∧ rc ≤ 3 ∧ 1 ≤ ws.length ∧ ws.length ≤ 4 ∧ (∀ x ∈ ws, 0 ≤ x ∧ x ≤ 4) ∧ IntsO w' w.heap.size w'.heap.size vs ws ∧ Rdr w' g (q + 20) ∧ Keep g (g + 1) w w'

set_option maxRecDepth 100000 in
set_option maxHeartbeats 40000000 in
theorem l92Txn_any (g : Nat) (q : Int) (w : World) (h : Rdr w g q) (hq : q ≤ 1000000) :
    Calls Tryd.prog 42 #[.pointer (some ⟨g, 0, none⟩)] w (RetTxn w g q) := by
  have hgs := h.lt
  have hb0 : Below w.heap.size w (w.alloc (.cells #[.int .i64 0, .slice none 0 0] 25)) := (Below.refl _ _).alloc (Nat.le_refl _) _
  have hR := Blk.new w #[.int .i64 0, .slice none 0 0] 25
  have hk0 := Keep.of_below hb0 g (g + 1)
  have hs0 := hb0.size
  replace h := h.below hb0
  go_enter Tryd.func42, Tryd.ntmps42
  go_wp2_with fail
  have hlt0 := hR.lt
  generalize w.alloc (.cells #[.int .i64 0, .slice none 0 0] 25) = w0 at *
  refine (pick_any g q 4 _ h (by omega) (by omega)).mono ?_
  rintro e w1 ⟨rc, rfl, rc0, rc1, hr1, hk1⟩
  have hs1 := hk1.size
  replace hR := hR.keep hk1 (.inr (by omega))
  replace hk0 := hk0.trans hk1
  clear hk1 h hb0
  as_aux_lemma =>
   go_wp2_with fail
   have hbE : Below w1.heap.size w1 (w1.alloc (.cells #[] 3)) := (Below.refl _ _).alloc (Nat.le_refl _) _
   have hO : IntsO (w1.alloc (.cells #[] 3)) w1.heap.size (w1.alloc (.cells #[] 3)).heap.size (.slice (some ⟨w1.heap.size, 0, none⟩) 0 0) [] := IntsO.empty _ _ (Nat.le_refl _)
   replace hR := hR.below hbE
   replace hr1 := hr1.below hbE
   replace hk0 := hk0.trans (Keep.of_below hbE _ _)
   have hsE := hbE.size
   have hEl : w1.heap.size < (w1.alloc (.cells #[] 3)).heap.size := by simp
   have hEq : (w1.alloc (.cells #[] 3)).heap.size = w1.heap.size + 1 := by simp
   have HEq := Lib.hid hEq
   clear hEq hbE
   have hT := Blk.new (w1.alloc (.cells #[] 3)) #[.int .i64 rc, .slice (some ⟨w1.heap.size, 0, none⟩) 0 0] 25
   rw [HEq.out] at hT
   have hbT : Below (w1.alloc (.cells #[] 3)).heap.size (w1.alloc (.cells #[] 3)) ((w1.alloc (.cells #[] 3)).alloc (.cells #[.int .i64 rc, .slice (some ⟨w1.heap.size, 0, none⟩) 0 0] 25)) := (Below.refl _ _).alloc (Nat.le_refl _) _
   replace hR := hR.below hbT
   replace hr1 := hr1.below hbT
   replace hO := IntsO.below hO hbT
   replace hk0 := hk0.trans (Keep.of_below hbT _ _)
   have hsT := hbT.size
   have hTl := hT.lt
   rw [HEq.out] at hsT hsE hO
   clear hbT hEl
   generalize (w1.alloc (.cells #[] 3)).alloc (.cells #[.int .i64 rc, .slice (some ⟨w1.heap.size, 0, none⟩) 0 0] 25) = w2 at *
   clear HEq
   have S2 : St w g (w1.heap.size + 1) w1.heap.size (w1.heap.size + 1) (q + 1) rc [] (.slice (some ⟨w1.heap.size, 0, none⟩) 0 0) w2 := ⟨hT, hR, hO, by omega, by omega, .inl (Nat.le_refl _), by omega, hgs, hr1, hk0, by simp⟩
   clear hT hR hO hr1 hk0
   refine (S2.pick 4 (by omega) (by omega)).mono ?_
   rintro e w3 ⟨c, rfl, c0, c1, S3, hk3, hs3⟩
   clear hk3 S2
   generalize w1.heap.size + 1 = T at *
   as_aux_lemma =>
    go_wp2_with fail
    obtain ⟨n0, hn0⟩ : ∃ n0 : Nat, 1 + c = n0 := ⟨(1 + c).toNat, by omega⟩
    rw [hn0]
    have hn1 : 1 ≤ n0 := by omega
    have hn2 : n0 ≤ 4 := by omega
    clear hn0 c0 c1
    go_loopw [4] (fun i wr => TxnHalf w g T n0 q rc wr i) (fun i _ => (intOf i).toNat)
    case atStart => exact ⟨n0, [], _, _, _, rfl, by simp, S3.more (by simp; omega)⟩
    case round =>
      obtain ⟨j, ws, vs, lo, hi, rfl, hj, hS⟩ := hrel
      by_cases hlt : 0 < j
      · have q1 := hS.cell1
        have hTs := hS.bT.lt
        have HP := Lib.hid (show (1 : Int) ≤ 4 ∧ q + 2 + (ws.length : Int) ≤ 1000000000 ∧ ws.length ≤ 100 ∧ wr.heap.size ≤ wr.heap.size by omega)
        have PB := hS.below (Below.refl wr.heap.size wr).drew
        have PA := hS.below ((Below.refl wr.heap.size wr).alloc (Nat.le_refl _) (.cells #[.int .i64 1, .int .i64 1, .int .i64 0, .int .i64 2] 3)).drew
        have N4 := (Blk.new wr #[.int .i64 1, .int .i64 1, .int .i64 0, .int .i64 2] 3).below (Below.refl _ _).drew
        have HG := Lib.hid (show g + 1 ≤ wr.heap.size by have := hS.rd.lt; omega)
        have HJ := Lib.hid hj
        have hj4 : j ≤ 4 := by omega
        clear hj hS hn1 hn2
        go_wp2_with fail
        go_region_law (first
          | ((refine stp_append_txn P1 rfl (.tmp 18) (.tmp 24) rfl rfl _ 1 (pickW c) rfl n1 HP.out.2.2.1 (pickW_range c c0 c1).1 (by have := (pickW_range c c0 c1).2; omega) ?_); intro a5 c5 w5 lo' hi' t5 f5 S5)
          | (go_simp; go_at_call 49; (with_reducible refine (St.pick PA 4 HP.out.1 HP.out.2.1).mono ?_); rintro e w3 ⟨c, rfl, c0, c1, P3, k3, s3⟩; have t3 := P3.cell1; have l3 := P3.bT.lt; have cW := (N4.keep k3 (.inr HG.out)).cell c.toNat (pickW_get c c0 c1); have iW := pickW_index wr.heap.size c c0 c1; have P1 := P3.below ((Below.refl w3.heap.size w3).alloc (Nat.le_refl _) (.cells #[.int .i64 (pickW c)] 3)); have n1 := cell_one_new w3 (.int .i64 (pickW c)) 3; clear P3 k3 s3)
          | (go_simp; go_at_call 49; (with_reducible refine (St.pick PB 4 HP.out.1 HP.out.2.1).mono ?_); rintro e w3 ⟨c, rfl, c0, c1, P3, k3, s3⟩; have t3 := P3.cell1; have l3 := P3.bT.lt; have gW := pickW_get c c0 c1; have cW := (Blk.new w3 #[.int .i64 1, .int .i64 1, .int .i64 0, .int .i64 2] 3).cell c.toNat (pickW_get c c0 c1); have iW := pickW_index w3.heap.size c c0 c1; have X4' := (Below.refl w3.heap.size w3).alloc (Nat.le_refl _) (.cells #[.int .i64 1, .int .i64 1, .int .i64 0, .int .i64 2] 3); have P1 := P3.below (X4'.alloc X4'.size (.cells #[.int .i64 (pickW c)] 3)); have n1 := news_two w3 (.cells #[.int .i64 1, .int .i64 1, .int .i64 0, .int .i64 2] 3) (.int .i64 (pickW c)) 3; clear P3 k3 s3 X4'))
        all_goals
          clear t3 l3 cW iW P1 n1 t5 f5 q1 PB PA N4 HG
          go_wp2_with fail
          go_roundw
          case rel => exact ⟨j - 1, ws ++ [pickW c], _, lo', hi', congrArg (Value.int .i64) (by omega), by have := HJ.out; simp; omega, S5.more (by simp; omega)⟩
          case measure => simp [intOf]; omega
      · have hj0 : j = 0 := by omega
        subst hj0
        have hn : ws.length = n0 := by omega
        rw [← hn] at hn1 hn2
        replace hS := hS.more (q' := q + 6) (by omega)
        clear hj hn hlt S3 hs3 hsE hsT hTl hs0 hlt0 hs1
        obtain ⟨av, cv, rfl⟩ := hS.len
        have q0 := hS.cell0
        have q1 := hS.cell1
        go_upto_if 29 with fail
        go_cut [5] (fun _ wx => ∃ xs, xs.length = ws.length ∧ St w g T lo hi (q + 6) rc xs (.slice av ws.length cv) wx)
        case first =>
          by_cases h2 : rc = 2
          · subst h2
            go_wp2_with fail
            go_loopw [5] (fun i wr => ∃ k xs, i = .int .i64 (k : Nat) ∧ k ≤ ws.length ∧ xs.length = ws.length ∧ St w g T lo hi (q + 6) 2 xs (.slice av ws.length cv) wr) (fun i _ => ws.length - (intOf i).toNat)
            case atStart => exact ⟨0, ws, rfl, Nat.zero_le _, rfl, hS⟩
            case round =>
              obtain ⟨k, xs, rfl, hk, hxl, hS1⟩ := hrel
              have t1 := hS1.cell1
              have HX := Lib.hid hxl
              by_cases hlt : k < ws.length
              · obtain ⟨p, hix, hst⟩ := hS1.at k (by omega)
                obtain ⟨f1, c1, hset⟩ := hst _ xs _ rfl hS1
                have hS2 := hset 1 (by omega) (by omega)
                have hix := fun wx => hix wx
                clear hst hset hxl hS1
                go_wp2_with fail
                go_roundw
                case rel => exact ⟨k + 1, xs.set k 1, by go_num, by omega, by rw [List.length_set]; exact HX.out, hS2⟩
                case measure => simp [intOf]; omega
              · clear hxl
                go_wp2_with fail
                go_meet
                exact ⟨xs, HX.out, hS1⟩
          · have h2b : (rc == 2) = false := beq_eq_false_iff_ne.2 h2
            go_wp2_with fail
            go_meet
            exact ⟨ws, rfl, hS⟩
        case rest =>
          obtain ⟨xs, hxl, hS5⟩ := hcut
          have HX := Lib.hid hxl
          have hx0 : 0 < xs.length := by omega
          clear hxl hS q0 q1
          as_aux_lemma =>
            go_wp2_with fail
            refine (hS5.pick 30 (by omega) (by omega)).mono ?_
            rintro e w6 ⟨c, rfl, c0, c1, S6, k6, s6⟩
            clear hS5 k6 s6
            have t6 := S6.cell1
            have b6 := S6.cell0
            by_cases hc : c = 0
            · subst hc
              obtain ⟨p, hix, hst⟩ := S6.at 0 hx0
              have hix : ∀ wx, (Instr.indexAt 23 (.slice av ws.length cv) (.int .i64 0)).run Tryd.prog wx = .ok (.pointer (some p)) wx := hix
              have HST := Lib.hid hst
              have S6d := S6.below (Below.refl _ _).drew
              have pk : (1 : Int) ≤ 5 := by omega
              have pk2 : q + 6 + 1 ≤ 1000000000 := by omega
              clear hst
              go_wp2_with fail
              go_region_law (go_simp; go_at_call 49; (with_reducible refine (St.pick S6d 5 pk pk2).mono ?_); rintro e w7 ⟨u, rfl, u0, u1, S7, k7, s7⟩; have t7 := S7.cell1; obtain ⟨f7, c7, set7⟩ := HST.out w7 xs _ rfl S7; have S8 := set7 u u0 (by omega); clear set7 k7 s7)
              all_goals
                have d1 := S8.cell1
                have d0 := S8.cell0
                obtain ⟨y0, y1, z0, z1, e0, e1, hO, hr, hk⟩ := S8.fin
                have hl8 : (xs.set 0 u).length = ws.length := by rw [List.length_set]; exact HX.out
                have rg := S8.rng
                have HL := Lib.hid hl8
                clear hl8 S8 S7 S6 S6d
                go_wp2_with fail
                exact bodyPost_ret (v := .agg #[.int .i64 rc, .slice av ws.length cv]) (by simp [results, Tryd.results42, go_sem, e0, e1]) rfl ⟨_, xs.set 0 u, _, rfl, rc0, by omega, by rw [HL.out]; omega, by rw [HL.out]; omega, rg, hO, hr.more (by omega), hk⟩
            · have hcb : (c == 0) = false := beq_eq_false_iff_ne.2 hc
              obtain ⟨y0, y1, z0, z1, e0, e1, hO, hr, hk⟩ := S6.fin
              have rg := S6.rng
              clear S6
              go_wp2_with fail
              exact bodyPost_ret (v := .agg #[.int .i64 rc, .slice av ws.length cv]) (by simp [results, Tryd.results42, go_sem, e0, e1]) rfl ⟨_, xs, _, rfl, rc0, by omega, by rw [HX.out]; omega, by rw [HX.out]; omega, rg, hO, hr.more (by omega), hk⟩

end Go.Proofs.YtocinffmdciihaaDoor
