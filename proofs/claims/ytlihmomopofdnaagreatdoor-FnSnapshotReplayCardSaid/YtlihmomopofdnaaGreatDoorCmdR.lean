/-
  The walk of the reference's draw of a command.
-/
import Derived.Test.YtlihmomopofdnaaGreatDoorStoreK
import Derived.Laws.Rows
namespace Go.Proofs.YtlihmomopofdnaaGreatDoor
open Go.RowKit
set_option linter.unusedVariables false

/-- the result's block behind the four stores -/
theorem fin4 {w : World} {R : Nat} {z0 z1 z2 z3 : Value} {T : TypeId} (hR : Blk w R #[z0, z1, z2, z3] T) (a b c d : Value) :
    Blk ((((w.setCell ⟨R, 0, none⟩ a).setCell ⟨R, 1, none⟩ b).setCell ⟨R, 2, none⟩ c).setCell ⟨R, 3, none⟩ d) R #[a, b, c, d] T ∧
    Keep R (R + 1) w ((((w.setCell ⟨R, 0, none⟩ a).setCell ⟨R, 1, none⟩ b).setCell ⟨R, 2, none⟩ c).setCell ⟨R, 3, none⟩ d) :=
  ⟨(((hR.set 0 a).set 1 b).set 2 c).set 3 d, keep_set2 (keep_set2 (Keep.refl R (R + 1) w) (Nat.le_refl R) (Nat.lt_succ_self R) a b) (Nat.le_refl R) (Nat.lt_succ_self R) c d⟩

def RetCmd (w : World) (g : Nat) (q : Int) (e : Ending) (w' : World) : Prop :=
  ∃ op key val exp, e = .returned (.agg #[.int .i64 op, .string key, .int .i64 val, .int .i64 exp]) ∧ ByteArray.size key ≤ 1 ∧ Rdr w' g (q + 10) ∧ Keep g (g + 1) w w'

set_option maxRecDepth 100000 in
set_option maxHeartbeats 16000000 in
theorem l92Command_any (g : Nat) (q : Int) (v : Value) (ps : List (ByteArray × Int)) (w : World) {lo hi : Nat} (h : Rdr w g q) (hq : q ≤ 1000000) (hs : Prs w lo hi v ps) (hd : hi ≤ g ∨ g + 1 ≤ lo) (hpl : ps.length ≤ 1000) (hk1 : Keys1 ps) :
    Calls Tryz.prog 14 #[.pointer (some ⟨g, 0, none⟩), v] w (RetCmd w g q) := by
  have hgl := h.lt
  have HK1 := Lib.hid hk1
  have kR := Blk.new w #[.int .i64 0, .string ⟨#[]⟩, .int .i64 0, .int .i64 0] 41
  have hb0 : Below w.heap.size w (w.alloc (.cells #[.int .i64 0, .string ⟨#[]⟩, .int .i64 0, .int .i64 0] 41)) := (Below.refl _ _).alloc (Nat.le_refl _) _
  have hsz := hb0.size
  replace h := h.below hb0
  have hk := Keep.of_below hb0 g (g + 1)
  have HS := Lib.hid (hs.below hb0)
  have hhi : hi ≤ w.heap.size := hs.2.1
  have HHI := Lib.hid hhi
  obtain ⟨a, cap, rfl, _⟩ := hs.open
  have hRl := kR.lt
  clear hb0 hs hk1
  go_enter Tryz.func14, Tryz.ntmps14
  go_wp2_with fail
  generalize w.alloc (.cells #[.int .i64 0, .string ⟨#[]⟩, .int .i64 0, .int .i64 0] 41) = w0 at *
  refine (pick_any g _ 3 _ h (by omega) (by omega)).mono ?_
  rintro e w1 ⟨x, rfl, x0, x1, hN, hkn⟩
  replace h := hN; clear hN
  replace hk := hk.trans hkn
  replace kR := kR.keep hkn (.inr (by omega))
  replace HS := Lib.hid (Recs.keep HS.out hkn hd)
  replace hsz := Nat.le_trans hsz hkn.size
  clear hkn
  as_aux_lemma =>
   have hbn : Below w1.heap.size w1 (w1.alloc (.cells #[.string ⟨#[97]⟩, .string ⟨#[98]⟩, .string ⟨#[99]⟩, .string ⟨#[101]⟩] 9)) := (Below.refl _ _).alloc (Nat.le_refl _) _
   have hst := strs_new w1 [⟨#[97]⟩, ⟨#[98]⟩, ⟨#[99]⟩, ⟨#[101]⟩] #[.string ⟨#[97]⟩, .string ⟨#[98]⟩, .string ⟨#[99]⟩, .string ⟨#[101]⟩] 4 rfl rfl (by decide)
   replace h := h.below hbn
   replace hk := hk.trans (Keep.of_below hbn _ _)
   replace kR := kR.below hbn
   replace HS := Lib.hid (Prs.below HS.out hbn)
   have hsn := hbn.size
   clear hbn
   go_wp2_with (refine wpl_strs rfl 4 _ rfl #[.string ⟨#[97]⟩, .string ⟨#[98]⟩, .string ⟨#[99]⟩, .string ⟨#[101]⟩] (by decide) (by decide) (by kernel_rfl) ?_)
   generalize w1.alloc (.cells #[.string ⟨#[97]⟩, .string ⟨#[98]⟩, .string ⟨#[99]⟩, .string ⟨#[101]⟩] 9) = wa at *
   refine (of_any g _ _ _ _ h (by omega) hst (by decide) (.inr (by omega))).mono ?_
   rintro e wb ⟨s, rfl, hs, hN, hkn⟩
   replace h := hN; clear hN
   have HS1 := Lib.hid (show s.size ≤ 1 by simp at hs; rcases hs with rfl | rfl | rfl | rfl <;> decide)
   have hsb := hkn.size
   replace hk := hk.trans hkn
   replace kR := kR.keep hkn (.inr (by omega))
   replace HS := Lib.hid (Recs.keep HS.out hkn hd)
   replace hsz : w.heap.size ≤ wb.heap.size := by omega
   clear hs hkn hst hsn hsb
   as_aux_lemma =>
    go_wp2_with fail
    refine (pick_any g _ 99 _ h (by omega) (by omega)).mono ?_
    rintro e w2 ⟨y, rfl, y0, y1, hN, hkn⟩
    replace h := hN; clear hN
    replace hk := hk.trans hkn
    replace kR := kR.keep hkn (.inr (by omega))
    replace HS := Lib.hid (Recs.keep HS.out hkn hd)
    replace hsz := Nat.le_trans hsz hkn.size
    clear hkn
    as_aux_lemma =>
     go_wp2_with fail
     refine (pick_any g _ 99 _ h (by omega) (by omega)).mono ?_
     rintro e w3 ⟨z, rfl, z0, z1, hN, hkn⟩
     replace h := hN; clear hN
     replace hk := hk.trans hkn
     replace kR := kR.keep hkn (.inr (by omega))
     replace HS := Lib.hid (Recs.keep HS.out hkn hd)
     replace hsz := Nat.le_trans hsz hkn.size
     clear hkn
     as_aux_lemma =>
      have kB := Blk.new w3 #[.int .i64 (1 + x), .string s, .int .i64 (1 + y), .int .i64 (1 + z)] 41
      have hbn : Below w3.heap.size w3 (w3.alloc (.cells #[.int .i64 (1 + x), .string s, .int .i64 (1 + y), .int .i64 (1 + z)] 41)) := (Below.refl _ _).alloc (Nat.le_refl _) _
      replace h := h.below hbn
      replace hk := hk.trans (Keep.of_below hbn _ _)
      have hRlt := kR.lt
      replace kR := kR.below hbn
      replace HS := Lib.hid (Prs.below HS.out hbn)
      have hgz : g < w3.heap.size := Nat.lt_of_lt_of_le hgl hsz
      replace hsz := Nat.le_trans hsz hbn.size
      clear hbn
      have hwx : IntKind.i64.wrap (1 + x) = 1 + x := wrap_i64 (by omega) (by omega)
      have hwy : IntKind.i64.wrap (1 + y) = 1 + y := wrap_i64 (by omega) (by omega)
      have hwz : IntKind.i64.wrap (1 + z) = 1 + z := wrap_i64 (by omega) (by omega)
      by_cases hl0 : 0 < ps.length
      · go_wp2_with fail
        generalize w3.alloc (.cells #[.int .i64 (1 + x), .string s, .int .i64 (1 + y), .int .i64 (1 + z)] 41) = wc at *
        have hsB : w.heap.size ≤ w3.heap.size := Nat.le_of_lt hRlt
        generalize w3.heap.size = B at *
        refine (pick_any g _ 2 _ h (by omega) (by omega)).mono ?_
        rintro e w4 ⟨u, rfl, u0, u1, hN, hkn⟩
        replace h := hN; clear hN
        replace hk := hk.trans hkn
        replace kR := kR.keep hkn (.inr (by omega))
        replace HS := Lib.hid (Recs.keep HS.out hkn hd)
        replace hsz := Nat.le_trans hsz hkn.size
        replace kB := kB.keep hkn (.inr (by omega))
        clear hkn
        by_cases hu : u = 0
        · subst hu
          as_aux_lemma =>
           go_wp2_with fail
           refine (pick_any g _ (ps.length : Int) _ h (by omega) (by omega)).mono ?_
           rintro e w5 ⟨j, rfl, j0, j1, hN, hkn⟩
           replace h := hN; clear hN
           replace hk := hk.trans hkn
           replace kR := kR.keep hkn (.inr (by omega))
           replace HS := Lib.hid (Recs.keep HS.out hkn hd)
           replace hsz := Nat.le_trans hsz hkn.size
           replace kB := kB.keep hkn (.inr (by omega))
           clear hkn
           obtain ⟨jn, hjn⟩ : ∃ jn : Nat, j = (jn : Int) := ⟨j.toNat, by omega⟩
           subst hjn
           have hjl : jn < ps.length := by omega
           obtain ⟨_, _, hva, _, hcell⟩ := Prs.open HS.out
           cases hva
           obtain ⟨b', o', hb1, hb2, hix', c0, c1⟩ := hcell jn hjl
           have hix := hix' jn rfl
           have HKS := Lib.hid (HK1.out _ (List.mem_of_getElem? (ps_get hjl)))
           have hBl := kB.lt
           have hPlt : w5.heap.size ≠ B := by omega
           have hPlt2 : B ≠ w5.heap.size := by omega
           have fB3' := kB.frozen 3
           have gB3' : w5.cell? ⟨B, 3, none⟩ = some (.int .i64 (1 + z)) := kB.cell 3 rfl
           have fB1 := kB.frozen 1
           have gB1 : w5.cell? ⟨B, 1, none⟩ = some (.string s) := kB.cell 1 rfl
           have hkS1 : Keep B (B + 1) w5 (w5.setCell ⟨B, 1, none⟩ (.string (pk ps jn))) := keep_setCell (p := ⟨B, 1, none⟩) (Keep.refl B (B + 1) w5) (Nat.le_refl B) (Nat.lt_succ_self B) (.string (pk ps jn))
           replace kB := kB.set 1 (.string (pk ps jn))
           replace kR := kR.keep hkS1 (.inl (by omega))
           replace h := h.keep hkS1 (by omega)
           replace hk := hk.join hkS1 hsB
           replace HS := Lib.hid (Recs.keep HS.out hkS1 (.inl (by have := HHI.out; omega)))
           replace hsz := Nat.le_trans hsz hkS1.size
           clear hkS1
           have fB3 := kB.frozen 3
           have gB3 : (w5.setCell ⟨B, 1, none⟩ (.string (pk ps jn))).cell? ⟨B, 3, none⟩ = some (.int .i64 (1 + z)) := kB.cell 3 rfl
           have hkS3 : Keep B (B + 1) (w5.setCell ⟨B, 1, none⟩ (.string (pk ps jn))) ((w5.setCell ⟨B, 1, none⟩ (.string (pk ps jn))).setCell ⟨B, 3, none⟩ (.int .i64 (pv ps jn))) := keep_setCell (p := ⟨B, 3, none⟩) (Keep.refl B (B + 1) (w5.setCell ⟨B, 1, none⟩ (.string (pk ps jn)))) (Nat.le_refl B) (Nat.lt_succ_self B) (.int .i64 (pv ps jn))
           replace kB := kB.set 3 (.int .i64 (pv ps jn))
           replace kR := kR.keep hkS3 (.inl (by omega))
           replace h := h.keep hkS3 (by omega)
           replace hk := hk.join hkS3 hsB
           replace HS := Lib.hid (Recs.keep HS.out hkS3 (.inl (by have := HHI.out; omega)))
           replace hsz := Nat.le_trans hsz hkS3.size
           clear hkS3
           have hbn : Below ((w5.setCell ⟨B, 1, none⟩ (.string (pk ps jn))).setCell ⟨B, 3, none⟩ (.int .i64 (pv ps jn))).heap.size ((w5.setCell ⟨B, 1, none⟩ (.string (pk ps jn))).setCell ⟨B, 3, none⟩ (.int .i64 (pv ps jn))) (((w5.setCell ⟨B, 1, none⟩ (.string (pk ps jn))).setCell ⟨B, 3, none⟩ (.int .i64 (pv ps jn))).alloc (.cells #[.string (pk ps jn), .int .i64 (pv ps jn)] 52)) := (Below.refl _ _).alloc (Nat.le_refl _) _
           replace h := h.below hbn
           replace hk := hk.trans (Keep.of_below hbn _ _)
           replace kR := kR.below hbn
           replace kB := kB.below hbn
           replace HS := Lib.hid (Prs.below HS.out hbn)
           replace hsz := Nat.le_trans hsz hbn.size
           have kB' : Blk (((w5.setCell ⟨B, 1, none⟩ (.string (pk ps jn))).setCell ⟨B, 3, none⟩ (.int .i64 (pv ps jn))).alloc (.cells #[.string (pk ps jn), .int .i64 (pv ps jn)] 52)) B #[.int .i64 (1 + x), .string (pk ps jn), .int .i64 (1 + y), .int .i64 (pv ps jn)] 41 := kB
           have HB_ := Lib.hid kB'; have HR_ := Lib.hid kR; have HH_ := Lib.hid h; have HKK_ := Lib.hid hk; have HSZ_ := Lib.hid hsz
           clear kB kB' kR h hk hsz hix' hbn hcell
           go_wp2_with fail
           generalize (((w5.setCell ⟨B, 1, none⟩ (.string (pk ps jn))).setCell ⟨B, 3, none⟩ (.int .i64 (pv ps jn))).alloc (.cells #[.string (pk ps jn), .int .i64 (pv ps jn)] 52)) = wq at *
           have kB := HB_.out; have kR := HR_.out; have h := HH_.out; have hk := HKK_.out; have hsz := HSZ_.out
           clear HB_ HR_ HH_ HKK_ HSZ_ c0 c1 hix fB1 fB3 gB1 gB3 fB3' gB3' hBl hPlt hPlt2
           refine (pick_any g _ 40 _ h (by omega) (by omega)).mono ?_
           rintro e w8 ⟨t, rfl, t0, t1, hN, hkn⟩
           replace h := hN; clear hN
           replace hk := hk.trans hkn
           replace kR := kR.keep hkn (.inr (by omega))
           replace HS := Lib.hid (Recs.keep HS.out hkn hd)
           replace hsz := Nat.le_trans hsz hkn.size
           replace kB := kB.keep hkn (.inr (by omega))
           clear hkn
           by_cases t_0 : t = 0
           · subst t_0
             as_aux_lemma =>
              go_wp2_with fail
              refine (pick_any g _ 6 _ h (by omega) (by omega)).mono ?_
              rintro e w9 ⟨o, rfl, o0, o1, hN, hkn⟩
              replace h := hN; clear hN
              replace hk := hk.trans hkn
              replace kR := kR.keep hkn (.inr (by omega))
              replace HS := Lib.hid (Recs.keep HS.out hkn hd)
              replace hsz := Nat.le_trans hsz hkn.size
              replace kB := kB.keep hkn (.inr (by omega))
              clear hkn
              have fB0 := kB.frozen 0
              have gB0 : w9.cell? ⟨B, 0, none⟩ = some (.int .i64 (1 + x)) := kB.cell 0 rfl
              have hkS0 : Keep B (B + 1) w9 (w9.setCell ⟨B, 0, none⟩ (.int .i64 o)) := keep_setCell (p := ⟨B, 0, none⟩) (Keep.refl B (B + 1) w9) (Nat.le_refl B) (Nat.lt_succ_self B) (.int .i64 o)
              replace kB := kB.set 0 (.int .i64 o)
              replace kR := kR.keep hkS0 (.inl (by omega))
              replace h := h.keep hkS0 (by omega)
              replace hk := hk.join hkS0 hsB
              replace HS := Lib.hid (Recs.keep HS.out hkS0 (.inl (by have := HHI.out; omega)))
              replace hsz := Nat.le_trans hsz hkS0.size
              clear hkS0
              have p0 : (w9.setCell ⟨B, 0, none⟩ (.int .i64 o)).cell? ⟨B, 0, none⟩ = some (.int .i64 o) := kB.cell 0 rfl
              have p1 : (w9.setCell ⟨B, 0, none⟩ (.int .i64 o)).cell? ⟨B, 1, none⟩ = some (.string (pk ps jn)) := kB.cell 1 rfl
              have p2 : (w9.setCell ⟨B, 0, none⟩ (.int .i64 o)).cell? ⟨B, 2, none⟩ = some (.int .i64 (1 + y)) := kB.cell 2 rfl
              have p3 : (w9.setCell ⟨B, 0, none⟩ (.int .i64 o)).cell? ⟨B, 3, none⟩ = some (.int .i64 (pv ps jn)) := kB.cell 3 rfl
              have r0 : (w9.setCell ⟨B, 0, none⟩ (.int .i64 o)).cell? ⟨w.heap.size, 0, none⟩ = some (.int .i64 0) := kR.cell 0 rfl
              have r1 : (w9.setCell ⟨B, 0, none⟩ (.int .i64 o)).cell? ⟨w.heap.size, 1, none⟩ = some (.string ⟨#[]⟩) := kR.cell 1 rfl
              have r2 : (w9.setCell ⟨B, 0, none⟩ (.int .i64 o)).cell? ⟨w.heap.size, 2, none⟩ = some (.int .i64 0) := kR.cell 2 rfl
              have r3 : (w9.setCell ⟨B, 0, none⟩ (.int .i64 o)).cell? ⟨w.heap.size, 3, none⟩ = some (.int .i64 0) := kR.cell 3 rfl
              have f0 := kR.frozen 0
              have f1 := kR.frozen 1
              have f2 := kR.frozen 2
              have f3 := kR.frozen 3
              have HR_ := Lib.hid kR; have HH_ := Lib.hid h; have HKK_ := Lib.hid hk
              clear kB kR h hk HS hsz
              go_wp2_with fail
              obtain ⟨e0, hk4⟩ := fin4 HR_.out (.int .i64 o) (.string (pk ps jn)) (.int .i64 (1 + y)) (.int .i64 (pv ps jn))
              have h4 := HH_.out.keep hk4 hgl
              have hk5 := HKK_.out.join hk4 (Nat.le_refl _)
              have HH4 := Lib.hid h4; have HK5 := Lib.hid hk5
              clear h4 hk5 hk4 HR_ HH_ HKK_ p0 p1 p2 p3 r0 r1 r2 r3 f0 f1 f2 f3
              clear fB0 gB0
              generalize (((((w9.setCell ⟨B, 0, none⟩ (.int .i64 o)).setCell ⟨w.heap.size, 0, none⟩ (.int .i64 o)).setCell ⟨w.heap.size, 1, none⟩ (.string (pk ps jn))).setCell ⟨w.heap.size, 2, none⟩ (.int .i64 (1 + y))).setCell ⟨w.heap.size, 3, none⟩ (.int .i64 (pv ps jn))) = wf at *
              refine bodyPost_ret (results_cell_row (P := Tryz.prog) Tryz.results14 _ wf w.heap.size 41 _ (0, 0) _ rfl e0 Tryz.underlying41 rfl (by kernel_rfl)) rfl ?_
              exact ⟨_, _, _, _, rfl, HKS.out, HH4.out.more (by omega), HK5.out⟩
           · have t_0b : (t == 0) = false := by simpa using t_0
             by_cases t_1 : t = 1
             · subst t_1
               as_aux_lemma =>
                have fB2 := kB.frozen 2
                have gB2 : w8.cell? ⟨B, 2, none⟩ = some (.int .i64 (1 + y)) := kB.cell 2 rfl
                have hkS2 : Keep B (B + 1) w8 (w8.setCell ⟨B, 2, none⟩ (.int .i64 100)) := keep_setCell (p := ⟨B, 2, none⟩) (Keep.refl B (B + 1) w8) (Nat.le_refl B) (Nat.lt_succ_self B) (.int .i64 100)
                replace kB := kB.set 2 (.int .i64 100)
                replace kR := kR.keep hkS2 (.inl (by omega))
                replace h := h.keep hkS2 (by omega)
                replace hk := hk.join hkS2 hsB
                replace HS := Lib.hid (Recs.keep HS.out hkS2 (.inl (by have := HHI.out; omega)))
                replace hsz := Nat.le_trans hsz hkS2.size
                clear hkS2
                have p0 : (w8.setCell ⟨B, 2, none⟩ (.int .i64 100)).cell? ⟨B, 0, none⟩ = some (.int .i64 (1 + x)) := kB.cell 0 rfl
                have p1 : (w8.setCell ⟨B, 2, none⟩ (.int .i64 100)).cell? ⟨B, 1, none⟩ = some (.string (pk ps jn)) := kB.cell 1 rfl
                have p2 : (w8.setCell ⟨B, 2, none⟩ (.int .i64 100)).cell? ⟨B, 2, none⟩ = some (.int .i64 100) := kB.cell 2 rfl
                have p3 : (w8.setCell ⟨B, 2, none⟩ (.int .i64 100)).cell? ⟨B, 3, none⟩ = some (.int .i64 (pv ps jn)) := kB.cell 3 rfl
                have r0 : (w8.setCell ⟨B, 2, none⟩ (.int .i64 100)).cell? ⟨w.heap.size, 0, none⟩ = some (.int .i64 0) := kR.cell 0 rfl
                have r1 : (w8.setCell ⟨B, 2, none⟩ (.int .i64 100)).cell? ⟨w.heap.size, 1, none⟩ = some (.string ⟨#[]⟩) := kR.cell 1 rfl
                have r2 : (w8.setCell ⟨B, 2, none⟩ (.int .i64 100)).cell? ⟨w.heap.size, 2, none⟩ = some (.int .i64 0) := kR.cell 2 rfl
                have r3 : (w8.setCell ⟨B, 2, none⟩ (.int .i64 100)).cell? ⟨w.heap.size, 3, none⟩ = some (.int .i64 0) := kR.cell 3 rfl
                have f0 := kR.frozen 0
                have f1 := kR.frozen 1
                have f2 := kR.frozen 2
                have f3 := kR.frozen 3
                have HR_ := Lib.hid kR; have HH_ := Lib.hid h; have HKK_ := Lib.hid hk
                clear kB kR h hk HS hsz
                go_wp2_with fail
                obtain ⟨e0, hk4⟩ := fin4 HR_.out (.int .i64 (1 + x)) (.string (pk ps jn)) (.int .i64 100) (.int .i64 (pv ps jn))
                have h4 := HH_.out.keep hk4 hgl
                have hk5 := HKK_.out.join hk4 (Nat.le_refl _)
                have HH4 := Lib.hid h4; have HK5 := Lib.hid hk5
                clear h4 hk5 hk4 HR_ HH_ HKK_ p0 p1 p2 p3 r0 r1 r2 r3 f0 f1 f2 f3
                clear fB2 gB2
                generalize (((((w8.setCell ⟨B, 2, none⟩ (.int .i64 100)).setCell ⟨w.heap.size, 0, none⟩ (.int .i64 (1 + x))).setCell ⟨w.heap.size, 1, none⟩ (.string (pk ps jn))).setCell ⟨w.heap.size, 2, none⟩ (.int .i64 100)).setCell ⟨w.heap.size, 3, none⟩ (.int .i64 (pv ps jn))) = wf at *
                refine bodyPost_ret (results_cell_row (P := Tryz.prog) Tryz.results14 _ wf w.heap.size 41 _ (0, 0) _ rfl e0 Tryz.underlying41 rfl (by kernel_rfl)) rfl ?_
                exact ⟨_, _, _, _, rfl, HKS.out, HH4.out.more (by omega), HK5.out⟩
             · have t_1b : (t == 1) = false := by simpa using t_1
               by_cases t_2 : t = 2
               · subst t_2
                 as_aux_lemma =>
                  have fB1 := kB.frozen 1
                  have gB1 : w8.cell? ⟨B, 1, none⟩ = some (.string (pk ps jn)) := kB.cell 1 rfl
                  have hkS1 : Keep B (B + 1) w8 (w8.setCell ⟨B, 1, none⟩ (.string ⟨#[103]⟩)) := keep_setCell (p := ⟨B, 1, none⟩) (Keep.refl B (B + 1) w8) (Nat.le_refl B) (Nat.lt_succ_self B) (.string ⟨#[103]⟩)
                  replace kB := kB.set 1 (.string ⟨#[103]⟩)
                  replace kR := kR.keep hkS1 (.inl (by omega))
                  replace h := h.keep hkS1 (by omega)
                  replace hk := hk.join hkS1 hsB
                  replace HS := Lib.hid (Recs.keep HS.out hkS1 (.inl (by have := HHI.out; omega)))
                  replace hsz := Nat.le_trans hsz hkS1.size
                  clear hkS1
                  have p0 : (w8.setCell ⟨B, 1, none⟩ (.string ⟨#[103]⟩)).cell? ⟨B, 0, none⟩ = some (.int .i64 (1 + x)) := kB.cell 0 rfl
                  have p1 : (w8.setCell ⟨B, 1, none⟩ (.string ⟨#[103]⟩)).cell? ⟨B, 1, none⟩ = some (.string ⟨#[103]⟩) := kB.cell 1 rfl
                  have p2 : (w8.setCell ⟨B, 1, none⟩ (.string ⟨#[103]⟩)).cell? ⟨B, 2, none⟩ = some (.int .i64 (1 + y)) := kB.cell 2 rfl
                  have p3 : (w8.setCell ⟨B, 1, none⟩ (.string ⟨#[103]⟩)).cell? ⟨B, 3, none⟩ = some (.int .i64 (pv ps jn)) := kB.cell 3 rfl
                  have r0 : (w8.setCell ⟨B, 1, none⟩ (.string ⟨#[103]⟩)).cell? ⟨w.heap.size, 0, none⟩ = some (.int .i64 0) := kR.cell 0 rfl
                  have r1 : (w8.setCell ⟨B, 1, none⟩ (.string ⟨#[103]⟩)).cell? ⟨w.heap.size, 1, none⟩ = some (.string ⟨#[]⟩) := kR.cell 1 rfl
                  have r2 : (w8.setCell ⟨B, 1, none⟩ (.string ⟨#[103]⟩)).cell? ⟨w.heap.size, 2, none⟩ = some (.int .i64 0) := kR.cell 2 rfl
                  have r3 : (w8.setCell ⟨B, 1, none⟩ (.string ⟨#[103]⟩)).cell? ⟨w.heap.size, 3, none⟩ = some (.int .i64 0) := kR.cell 3 rfl
                  have f0 := kR.frozen 0
                  have f1 := kR.frozen 1
                  have f2 := kR.frozen 2
                  have f3 := kR.frozen 3
                  have HR_ := Lib.hid kR; have HH_ := Lib.hid h; have HKK_ := Lib.hid hk
                  clear kB kR h hk HS hsz
                  go_wp2_with fail
                  obtain ⟨e0, hk4⟩ := fin4 HR_.out (.int .i64 (1 + x)) (.string ⟨#[103]⟩) (.int .i64 (1 + y)) (.int .i64 (pv ps jn))
                  have h4 := HH_.out.keep hk4 hgl
                  have hk5 := HKK_.out.join hk4 (Nat.le_refl _)
                  have HH4 := Lib.hid h4; have HK5 := Lib.hid hk5
                  clear h4 hk5 hk4 HR_ HH_ HKK_ p0 p1 p2 p3 r0 r1 r2 r3 f0 f1 f2 f3
                  clear fB1 gB1
                  generalize (((((w8.setCell ⟨B, 1, none⟩ (.string ⟨#[103]⟩)).setCell ⟨w.heap.size, 0, none⟩ (.int .i64 (1 + x))).setCell ⟨w.heap.size, 1, none⟩ (.string ⟨#[103]⟩)).setCell ⟨w.heap.size, 2, none⟩ (.int .i64 (1 + y))).setCell ⟨w.heap.size, 3, none⟩ (.int .i64 (pv ps jn))) = wf at *
                  refine bodyPost_ret (results_cell_row (P := Tryz.prog) Tryz.results14 _ wf w.heap.size 41 _ (0, 0) _ rfl e0 Tryz.underlying41 rfl (by kernel_rfl)) rfl ?_
                  exact ⟨_, _, _, _, rfl, by decide, HH4.out.more (by omega), HK5.out⟩
               · have t_2b : (t == 2) = false := by simpa using t_2
                 as_aux_lemma =>
                  have p0 : w8.cell? ⟨B, 0, none⟩ = some (.int .i64 (1 + x)) := kB.cell 0 rfl
                  have p1 : w8.cell? ⟨B, 1, none⟩ = some (.string (pk ps jn)) := kB.cell 1 rfl
                  have p2 : w8.cell? ⟨B, 2, none⟩ = some (.int .i64 (1 + y)) := kB.cell 2 rfl
                  have p3 : w8.cell? ⟨B, 3, none⟩ = some (.int .i64 (pv ps jn)) := kB.cell 3 rfl
                  have r0 : w8.cell? ⟨w.heap.size, 0, none⟩ = some (.int .i64 0) := kR.cell 0 rfl
                  have r1 : w8.cell? ⟨w.heap.size, 1, none⟩ = some (.string ⟨#[]⟩) := kR.cell 1 rfl
                  have r2 : w8.cell? ⟨w.heap.size, 2, none⟩ = some (.int .i64 0) := kR.cell 2 rfl
                  have r3 : w8.cell? ⟨w.heap.size, 3, none⟩ = some (.int .i64 0) := kR.cell 3 rfl
                  have f0 := kR.frozen 0
                  have f1 := kR.frozen 1
                  have f2 := kR.frozen 2
                  have f3 := kR.frozen 3
                  have HR_ := Lib.hid kR; have HH_ := Lib.hid h; have HKK_ := Lib.hid hk
                  clear kB kR h hk HS hsz
                  go_wp2_with fail
                  obtain ⟨e0, hk4⟩ := fin4 HR_.out (.int .i64 (1 + x)) (.string (pk ps jn)) (.int .i64 (1 + y)) (.int .i64 (pv ps jn))
                  have h4 := HH_.out.keep hk4 hgl
                  have hk5 := HKK_.out.join hk4 (Nat.le_refl _)
                  have HH4 := Lib.hid h4; have HK5 := Lib.hid hk5
                  clear h4 hk5 hk4 HR_ HH_ HKK_ p0 p1 p2 p3 r0 r1 r2 r3 f0 f1 f2 f3
                  generalize ((((w8.setCell ⟨w.heap.size, 0, none⟩ (.int .i64 (1 + x))).setCell ⟨w.heap.size, 1, none⟩ (.string (pk ps jn))).setCell ⟨w.heap.size, 2, none⟩ (.int .i64 (1 + y))).setCell ⟨w.heap.size, 3, none⟩ (.int .i64 (pv ps jn))) = wf at *
                  refine bodyPost_ret (results_cell_row (P := Tryz.prog) Tryz.results14 _ wf w.heap.size 41 _ (0, 0) _ rfl e0 Tryz.underlying41 rfl (by kernel_rfl)) rfl ?_
                  exact ⟨_, _, _, _, rfl, HKS.out, HH4.out.more (by omega), HK5.out⟩
        · have hub : (u == 0) = false := by simpa using hu
          as_aux_lemma =>
           go_wp2_with fail
           refine (pick_any g _ 40 _ h (by omega) (by omega)).mono ?_
           rintro e w5 ⟨t, rfl, t0, t1, hN, hkn⟩
           replace h := hN; clear hN
           replace hk := hk.trans hkn
           replace kR := kR.keep hkn (.inr (by omega))
           replace HS := Lib.hid (Recs.keep HS.out hkn hd)
           replace hsz := Nat.le_trans hsz hkn.size
           replace kB := kB.keep hkn (.inr (by omega))
           clear hkn
           by_cases t_0 : t = 0
           · subst t_0
             as_aux_lemma =>
              go_wp2_with fail
              refine (pick_any g _ 6 _ h (by omega) (by omega)).mono ?_
              rintro e w6 ⟨o, rfl, o0, o1, hN, hkn⟩
              replace h := hN; clear hN
              replace hk := hk.trans hkn
              replace kR := kR.keep hkn (.inr (by omega))
              replace HS := Lib.hid (Recs.keep HS.out hkn hd)
              replace hsz := Nat.le_trans hsz hkn.size
              replace kB := kB.keep hkn (.inr (by omega))
              clear hkn
              have fB0 := kB.frozen 0
              have gB0 : w6.cell? ⟨B, 0, none⟩ = some (.int .i64 (1 + x)) := kB.cell 0 rfl
              have hkS0 : Keep B (B + 1) w6 (w6.setCell ⟨B, 0, none⟩ (.int .i64 o)) := keep_setCell (p := ⟨B, 0, none⟩) (Keep.refl B (B + 1) w6) (Nat.le_refl B) (Nat.lt_succ_self B) (.int .i64 o)
              replace kB := kB.set 0 (.int .i64 o)
              replace kR := kR.keep hkS0 (.inl (by omega))
              replace h := h.keep hkS0 (by omega)
              replace hk := hk.join hkS0 hsB
              replace HS := Lib.hid (Recs.keep HS.out hkS0 (.inl (by have := HHI.out; omega)))
              replace hsz := Nat.le_trans hsz hkS0.size
              clear hkS0
              have p0 : (w6.setCell ⟨B, 0, none⟩ (.int .i64 o)).cell? ⟨B, 0, none⟩ = some (.int .i64 o) := kB.cell 0 rfl
              have p1 : (w6.setCell ⟨B, 0, none⟩ (.int .i64 o)).cell? ⟨B, 1, none⟩ = some (.string s) := kB.cell 1 rfl
              have p2 : (w6.setCell ⟨B, 0, none⟩ (.int .i64 o)).cell? ⟨B, 2, none⟩ = some (.int .i64 (1 + y)) := kB.cell 2 rfl
              have p3 : (w6.setCell ⟨B, 0, none⟩ (.int .i64 o)).cell? ⟨B, 3, none⟩ = some (.int .i64 (1 + z)) := kB.cell 3 rfl
              have r0 : (w6.setCell ⟨B, 0, none⟩ (.int .i64 o)).cell? ⟨w.heap.size, 0, none⟩ = some (.int .i64 0) := kR.cell 0 rfl
              have r1 : (w6.setCell ⟨B, 0, none⟩ (.int .i64 o)).cell? ⟨w.heap.size, 1, none⟩ = some (.string ⟨#[]⟩) := kR.cell 1 rfl
              have r2 : (w6.setCell ⟨B, 0, none⟩ (.int .i64 o)).cell? ⟨w.heap.size, 2, none⟩ = some (.int .i64 0) := kR.cell 2 rfl
              have r3 : (w6.setCell ⟨B, 0, none⟩ (.int .i64 o)).cell? ⟨w.heap.size, 3, none⟩ = some (.int .i64 0) := kR.cell 3 rfl
              have f0 := kR.frozen 0
              have f1 := kR.frozen 1
              have f2 := kR.frozen 2
              have f3 := kR.frozen 3
              have HR_ := Lib.hid kR; have HH_ := Lib.hid h; have HKK_ := Lib.hid hk
              clear kB kR h hk HS hsz
              go_wp2_with fail
              obtain ⟨e0, hk4⟩ := fin4 HR_.out (.int .i64 o) (.string s) (.int .i64 (1 + y)) (.int .i64 (1 + z))
              have h4 := HH_.out.keep hk4 hgl
              have hk5 := HKK_.out.join hk4 (Nat.le_refl _)
              have HH4 := Lib.hid h4; have HK5 := Lib.hid hk5
              clear h4 hk5 hk4 HR_ HH_ HKK_ p0 p1 p2 p3 r0 r1 r2 r3 f0 f1 f2 f3
              clear fB0 gB0
              generalize (((((w6.setCell ⟨B, 0, none⟩ (.int .i64 o)).setCell ⟨w.heap.size, 0, none⟩ (.int .i64 o)).setCell ⟨w.heap.size, 1, none⟩ (.string s)).setCell ⟨w.heap.size, 2, none⟩ (.int .i64 (1 + y))).setCell ⟨w.heap.size, 3, none⟩ (.int .i64 (1 + z))) = wf at *
              refine bodyPost_ret (results_cell_row (P := Tryz.prog) Tryz.results14 _ wf w.heap.size 41 _ (0, 0) _ rfl e0 Tryz.underlying41 rfl (by kernel_rfl)) rfl ?_
              exact ⟨_, _, _, _, rfl, HS1.out, HH4.out.more (by omega), HK5.out⟩
           · have t_0b : (t == 0) = false := by simpa using t_0
             by_cases t_1 : t = 1
             · subst t_1
               as_aux_lemma =>
                have fB2 := kB.frozen 2
                have gB2 : w5.cell? ⟨B, 2, none⟩ = some (.int .i64 (1 + y)) := kB.cell 2 rfl
                have hkS2 : Keep B (B + 1) w5 (w5.setCell ⟨B, 2, none⟩ (.int .i64 100)) := keep_setCell (p := ⟨B, 2, none⟩) (Keep.refl B (B + 1) w5) (Nat.le_refl B) (Nat.lt_succ_self B) (.int .i64 100)
                replace kB := kB.set 2 (.int .i64 100)
                replace kR := kR.keep hkS2 (.inl (by omega))
                replace h := h.keep hkS2 (by omega)
                replace hk := hk.join hkS2 hsB
                replace HS := Lib.hid (Recs.keep HS.out hkS2 (.inl (by have := HHI.out; omega)))
                replace hsz := Nat.le_trans hsz hkS2.size
                clear hkS2
                have p0 : (w5.setCell ⟨B, 2, none⟩ (.int .i64 100)).cell? ⟨B, 0, none⟩ = some (.int .i64 (1 + x)) := kB.cell 0 rfl
                have p1 : (w5.setCell ⟨B, 2, none⟩ (.int .i64 100)).cell? ⟨B, 1, none⟩ = some (.string s) := kB.cell 1 rfl
                have p2 : (w5.setCell ⟨B, 2, none⟩ (.int .i64 100)).cell? ⟨B, 2, none⟩ = some (.int .i64 100) := kB.cell 2 rfl
                have p3 : (w5.setCell ⟨B, 2, none⟩ (.int .i64 100)).cell? ⟨B, 3, none⟩ = some (.int .i64 (1 + z)) := kB.cell 3 rfl
                have r0 : (w5.setCell ⟨B, 2, none⟩ (.int .i64 100)).cell? ⟨w.heap.size, 0, none⟩ = some (.int .i64 0) := kR.cell 0 rfl
                have r1 : (w5.setCell ⟨B, 2, none⟩ (.int .i64 100)).cell? ⟨w.heap.size, 1, none⟩ = some (.string ⟨#[]⟩) := kR.cell 1 rfl
                have r2 : (w5.setCell ⟨B, 2, none⟩ (.int .i64 100)).cell? ⟨w.heap.size, 2, none⟩ = some (.int .i64 0) := kR.cell 2 rfl
                have r3 : (w5.setCell ⟨B, 2, none⟩ (.int .i64 100)).cell? ⟨w.heap.size, 3, none⟩ = some (.int .i64 0) := kR.cell 3 rfl
                have f0 := kR.frozen 0
                have f1 := kR.frozen 1
                have f2 := kR.frozen 2
                have f3 := kR.frozen 3
                have HR_ := Lib.hid kR; have HH_ := Lib.hid h; have HKK_ := Lib.hid hk
                clear kB kR h hk HS hsz
                go_wp2_with fail
                obtain ⟨e0, hk4⟩ := fin4 HR_.out (.int .i64 (1 + x)) (.string s) (.int .i64 100) (.int .i64 (1 + z))
                have h4 := HH_.out.keep hk4 hgl
                have hk5 := HKK_.out.join hk4 (Nat.le_refl _)
                have HH4 := Lib.hid h4; have HK5 := Lib.hid hk5
                clear h4 hk5 hk4 HR_ HH_ HKK_ p0 p1 p2 p3 r0 r1 r2 r3 f0 f1 f2 f3
                clear fB2 gB2
                generalize (((((w5.setCell ⟨B, 2, none⟩ (.int .i64 100)).setCell ⟨w.heap.size, 0, none⟩ (.int .i64 (1 + x))).setCell ⟨w.heap.size, 1, none⟩ (.string s)).setCell ⟨w.heap.size, 2, none⟩ (.int .i64 100)).setCell ⟨w.heap.size, 3, none⟩ (.int .i64 (1 + z))) = wf at *
                refine bodyPost_ret (results_cell_row (P := Tryz.prog) Tryz.results14 _ wf w.heap.size 41 _ (0, 0) _ rfl e0 Tryz.underlying41 rfl (by kernel_rfl)) rfl ?_
                exact ⟨_, _, _, _, rfl, HS1.out, HH4.out.more (by omega), HK5.out⟩
             · have t_1b : (t == 1) = false := by simpa using t_1
               by_cases t_2 : t = 2
               · subst t_2
                 as_aux_lemma =>
                  have fB1 := kB.frozen 1
                  have gB1 : w5.cell? ⟨B, 1, none⟩ = some (.string s) := kB.cell 1 rfl
                  have hkS1 : Keep B (B + 1) w5 (w5.setCell ⟨B, 1, none⟩ (.string ⟨#[103]⟩)) := keep_setCell (p := ⟨B, 1, none⟩) (Keep.refl B (B + 1) w5) (Nat.le_refl B) (Nat.lt_succ_self B) (.string ⟨#[103]⟩)
                  replace kB := kB.set 1 (.string ⟨#[103]⟩)
                  replace kR := kR.keep hkS1 (.inl (by omega))
                  replace h := h.keep hkS1 (by omega)
                  replace hk := hk.join hkS1 hsB
                  replace HS := Lib.hid (Recs.keep HS.out hkS1 (.inl (by have := HHI.out; omega)))
                  replace hsz := Nat.le_trans hsz hkS1.size
                  clear hkS1
                  have p0 : (w5.setCell ⟨B, 1, none⟩ (.string ⟨#[103]⟩)).cell? ⟨B, 0, none⟩ = some (.int .i64 (1 + x)) := kB.cell 0 rfl
                  have p1 : (w5.setCell ⟨B, 1, none⟩ (.string ⟨#[103]⟩)).cell? ⟨B, 1, none⟩ = some (.string ⟨#[103]⟩) := kB.cell 1 rfl
                  have p2 : (w5.setCell ⟨B, 1, none⟩ (.string ⟨#[103]⟩)).cell? ⟨B, 2, none⟩ = some (.int .i64 (1 + y)) := kB.cell 2 rfl
                  have p3 : (w5.setCell ⟨B, 1, none⟩ (.string ⟨#[103]⟩)).cell? ⟨B, 3, none⟩ = some (.int .i64 (1 + z)) := kB.cell 3 rfl
                  have r0 : (w5.setCell ⟨B, 1, none⟩ (.string ⟨#[103]⟩)).cell? ⟨w.heap.size, 0, none⟩ = some (.int .i64 0) := kR.cell 0 rfl
                  have r1 : (w5.setCell ⟨B, 1, none⟩ (.string ⟨#[103]⟩)).cell? ⟨w.heap.size, 1, none⟩ = some (.string ⟨#[]⟩) := kR.cell 1 rfl
                  have r2 : (w5.setCell ⟨B, 1, none⟩ (.string ⟨#[103]⟩)).cell? ⟨w.heap.size, 2, none⟩ = some (.int .i64 0) := kR.cell 2 rfl
                  have r3 : (w5.setCell ⟨B, 1, none⟩ (.string ⟨#[103]⟩)).cell? ⟨w.heap.size, 3, none⟩ = some (.int .i64 0) := kR.cell 3 rfl
                  have f0 := kR.frozen 0
                  have f1 := kR.frozen 1
                  have f2 := kR.frozen 2
                  have f3 := kR.frozen 3
                  have HR_ := Lib.hid kR; have HH_ := Lib.hid h; have HKK_ := Lib.hid hk
                  clear kB kR h hk HS hsz
                  go_wp2_with fail
                  obtain ⟨e0, hk4⟩ := fin4 HR_.out (.int .i64 (1 + x)) (.string ⟨#[103]⟩) (.int .i64 (1 + y)) (.int .i64 (1 + z))
                  have h4 := HH_.out.keep hk4 hgl
                  have hk5 := HKK_.out.join hk4 (Nat.le_refl _)
                  have HH4 := Lib.hid h4; have HK5 := Lib.hid hk5
                  clear h4 hk5 hk4 HR_ HH_ HKK_ p0 p1 p2 p3 r0 r1 r2 r3 f0 f1 f2 f3
                  clear fB1 gB1
                  generalize (((((w5.setCell ⟨B, 1, none⟩ (.string ⟨#[103]⟩)).setCell ⟨w.heap.size, 0, none⟩ (.int .i64 (1 + x))).setCell ⟨w.heap.size, 1, none⟩ (.string ⟨#[103]⟩)).setCell ⟨w.heap.size, 2, none⟩ (.int .i64 (1 + y))).setCell ⟨w.heap.size, 3, none⟩ (.int .i64 (1 + z))) = wf at *
                  refine bodyPost_ret (results_cell_row (P := Tryz.prog) Tryz.results14 _ wf w.heap.size 41 _ (0, 0) _ rfl e0 Tryz.underlying41 rfl (by kernel_rfl)) rfl ?_
                  exact ⟨_, _, _, _, rfl, by decide, HH4.out.more (by omega), HK5.out⟩
               · have t_2b : (t == 2) = false := by simpa using t_2
                 as_aux_lemma =>
                  have p0 : w5.cell? ⟨B, 0, none⟩ = some (.int .i64 (1 + x)) := kB.cell 0 rfl
                  have p1 : w5.cell? ⟨B, 1, none⟩ = some (.string s) := kB.cell 1 rfl
                  have p2 : w5.cell? ⟨B, 2, none⟩ = some (.int .i64 (1 + y)) := kB.cell 2 rfl
                  have p3 : w5.cell? ⟨B, 3, none⟩ = some (.int .i64 (1 + z)) := kB.cell 3 rfl
                  have r0 : w5.cell? ⟨w.heap.size, 0, none⟩ = some (.int .i64 0) := kR.cell 0 rfl
                  have r1 : w5.cell? ⟨w.heap.size, 1, none⟩ = some (.string ⟨#[]⟩) := kR.cell 1 rfl
                  have r2 : w5.cell? ⟨w.heap.size, 2, none⟩ = some (.int .i64 0) := kR.cell 2 rfl
                  have r3 : w5.cell? ⟨w.heap.size, 3, none⟩ = some (.int .i64 0) := kR.cell 3 rfl
                  have f0 := kR.frozen 0
                  have f1 := kR.frozen 1
                  have f2 := kR.frozen 2
                  have f3 := kR.frozen 3
                  have HR_ := Lib.hid kR; have HH_ := Lib.hid h; have HKK_ := Lib.hid hk
                  clear kB kR h hk HS hsz
                  go_wp2_with fail
                  obtain ⟨e0, hk4⟩ := fin4 HR_.out (.int .i64 (1 + x)) (.string s) (.int .i64 (1 + y)) (.int .i64 (1 + z))
                  have h4 := HH_.out.keep hk4 hgl
                  have hk5 := HKK_.out.join hk4 (Nat.le_refl _)
                  have HH4 := Lib.hid h4; have HK5 := Lib.hid hk5
                  clear h4 hk5 hk4 HR_ HH_ HKK_ p0 p1 p2 p3 r0 r1 r2 r3 f0 f1 f2 f3
                  generalize ((((w5.setCell ⟨w.heap.size, 0, none⟩ (.int .i64 (1 + x))).setCell ⟨w.heap.size, 1, none⟩ (.string s)).setCell ⟨w.heap.size, 2, none⟩ (.int .i64 (1 + y))).setCell ⟨w.heap.size, 3, none⟩ (.int .i64 (1 + z))) = wf at *
                  refine bodyPost_ret (results_cell_row (P := Tryz.prog) Tryz.results14 _ wf w.heap.size 41 _ (0, 0) _ rfl e0 Tryz.underlying41 rfl (by kernel_rfl)) rfl ?_
                  exact ⟨_, _, _, _, rfl, HS1.out, HH4.out.more (by omega), HK5.out⟩
      · go_wp2_with fail
        generalize w3.alloc (.cells #[.int .i64 (1 + x), .string s, .int .i64 (1 + y), .int .i64 (1 + z)] 41) = wc at *
        have hsB : w.heap.size ≤ w3.heap.size := Nat.le_of_lt hRlt
        generalize w3.heap.size = B at *
        refine (pick_any g _ 40 _ h (by omega) (by omega)).mono ?_
        rintro e w4 ⟨t, rfl, t0, t1, hN, hkn⟩
        replace h := hN; clear hN
        replace hk := hk.trans hkn
        replace kR := kR.keep hkn (.inr (by omega))
        replace HS := Lib.hid (Recs.keep HS.out hkn hd)
        replace hsz := Nat.le_trans hsz hkn.size
        replace kB := kB.keep hkn (.inr (by omega))
        clear hkn
        by_cases t_0 : t = 0
        · subst t_0
          as_aux_lemma =>
           go_wp2_with fail
           refine (pick_any g _ 6 _ h (by omega) (by omega)).mono ?_
           rintro e w5 ⟨o, rfl, o0, o1, hN, hkn⟩
           replace h := hN; clear hN
           replace hk := hk.trans hkn
           replace kR := kR.keep hkn (.inr (by omega))
           replace HS := Lib.hid (Recs.keep HS.out hkn hd)
           replace hsz := Nat.le_trans hsz hkn.size
           replace kB := kB.keep hkn (.inr (by omega))
           clear hkn
           have fB0 := kB.frozen 0
           have gB0 : w5.cell? ⟨B, 0, none⟩ = some (.int .i64 (1 + x)) := kB.cell 0 rfl
           have hkS0 : Keep B (B + 1) w5 (w5.setCell ⟨B, 0, none⟩ (.int .i64 o)) := keep_setCell (p := ⟨B, 0, none⟩) (Keep.refl B (B + 1) w5) (Nat.le_refl B) (Nat.lt_succ_self B) (.int .i64 o)
           replace kB := kB.set 0 (.int .i64 o)
           replace kR := kR.keep hkS0 (.inl (by omega))
           replace h := h.keep hkS0 (by omega)
           replace hk := hk.join hkS0 hsB
           replace HS := Lib.hid (Recs.keep HS.out hkS0 (.inl (by have := HHI.out; omega)))
           replace hsz := Nat.le_trans hsz hkS0.size
           clear hkS0
           have p0 : (w5.setCell ⟨B, 0, none⟩ (.int .i64 o)).cell? ⟨B, 0, none⟩ = some (.int .i64 o) := kB.cell 0 rfl
           have p1 : (w5.setCell ⟨B, 0, none⟩ (.int .i64 o)).cell? ⟨B, 1, none⟩ = some (.string s) := kB.cell 1 rfl
           have p2 : (w5.setCell ⟨B, 0, none⟩ (.int .i64 o)).cell? ⟨B, 2, none⟩ = some (.int .i64 (1 + y)) := kB.cell 2 rfl
           have p3 : (w5.setCell ⟨B, 0, none⟩ (.int .i64 o)).cell? ⟨B, 3, none⟩ = some (.int .i64 (1 + z)) := kB.cell 3 rfl
           have r0 : (w5.setCell ⟨B, 0, none⟩ (.int .i64 o)).cell? ⟨w.heap.size, 0, none⟩ = some (.int .i64 0) := kR.cell 0 rfl
           have r1 : (w5.setCell ⟨B, 0, none⟩ (.int .i64 o)).cell? ⟨w.heap.size, 1, none⟩ = some (.string ⟨#[]⟩) := kR.cell 1 rfl
           have r2 : (w5.setCell ⟨B, 0, none⟩ (.int .i64 o)).cell? ⟨w.heap.size, 2, none⟩ = some (.int .i64 0) := kR.cell 2 rfl
           have r3 : (w5.setCell ⟨B, 0, none⟩ (.int .i64 o)).cell? ⟨w.heap.size, 3, none⟩ = some (.int .i64 0) := kR.cell 3 rfl
           have f0 := kR.frozen 0
           have f1 := kR.frozen 1
           have f2 := kR.frozen 2
           have f3 := kR.frozen 3
           have HR_ := Lib.hid kR; have HH_ := Lib.hid h; have HKK_ := Lib.hid hk
           clear kB kR h hk HS hsz
           go_wp2_with fail
           obtain ⟨e0, hk4⟩ := fin4 HR_.out (.int .i64 o) (.string s) (.int .i64 (1 + y)) (.int .i64 (1 + z))
           have h4 := HH_.out.keep hk4 hgl
           have hk5 := HKK_.out.join hk4 (Nat.le_refl _)
           have HH4 := Lib.hid h4; have HK5 := Lib.hid hk5
           clear h4 hk5 hk4 HR_ HH_ HKK_ p0 p1 p2 p3 r0 r1 r2 r3 f0 f1 f2 f3
           clear fB0 gB0
           generalize (((((w5.setCell ⟨B, 0, none⟩ (.int .i64 o)).setCell ⟨w.heap.size, 0, none⟩ (.int .i64 o)).setCell ⟨w.heap.size, 1, none⟩ (.string s)).setCell ⟨w.heap.size, 2, none⟩ (.int .i64 (1 + y))).setCell ⟨w.heap.size, 3, none⟩ (.int .i64 (1 + z))) = wf at *
           refine bodyPost_ret (results_cell_row (P := Tryz.prog) Tryz.results14 _ wf w.heap.size 41 _ (0, 0) _ rfl e0 Tryz.underlying41 rfl (by kernel_rfl)) rfl ?_
           exact ⟨_, _, _, _, rfl, HS1.out, HH4.out.more (by omega), HK5.out⟩
        · have t_0b : (t == 0) = false := by simpa using t_0
          by_cases t_1 : t = 1
          · subst t_1
            as_aux_lemma =>
             have fB2 := kB.frozen 2
             have gB2 : w4.cell? ⟨B, 2, none⟩ = some (.int .i64 (1 + y)) := kB.cell 2 rfl
             have hkS2 : Keep B (B + 1) w4 (w4.setCell ⟨B, 2, none⟩ (.int .i64 100)) := keep_setCell (p := ⟨B, 2, none⟩) (Keep.refl B (B + 1) w4) (Nat.le_refl B) (Nat.lt_succ_self B) (.int .i64 100)
             replace kB := kB.set 2 (.int .i64 100)
             replace kR := kR.keep hkS2 (.inl (by omega))
             replace h := h.keep hkS2 (by omega)
             replace hk := hk.join hkS2 hsB
             replace HS := Lib.hid (Recs.keep HS.out hkS2 (.inl (by have := HHI.out; omega)))
             replace hsz := Nat.le_trans hsz hkS2.size
             clear hkS2
             have p0 : (w4.setCell ⟨B, 2, none⟩ (.int .i64 100)).cell? ⟨B, 0, none⟩ = some (.int .i64 (1 + x)) := kB.cell 0 rfl
             have p1 : (w4.setCell ⟨B, 2, none⟩ (.int .i64 100)).cell? ⟨B, 1, none⟩ = some (.string s) := kB.cell 1 rfl
             have p2 : (w4.setCell ⟨B, 2, none⟩ (.int .i64 100)).cell? ⟨B, 2, none⟩ = some (.int .i64 100) := kB.cell 2 rfl
             have p3 : (w4.setCell ⟨B, 2, none⟩ (.int .i64 100)).cell? ⟨B, 3, none⟩ = some (.int .i64 (1 + z)) := kB.cell 3 rfl
             have r0 : (w4.setCell ⟨B, 2, none⟩ (.int .i64 100)).cell? ⟨w.heap.size, 0, none⟩ = some (.int .i64 0) := kR.cell 0 rfl
             have r1 : (w4.setCell ⟨B, 2, none⟩ (.int .i64 100)).cell? ⟨w.heap.size, 1, none⟩ = some (.string ⟨#[]⟩) := kR.cell 1 rfl
             have r2 : (w4.setCell ⟨B, 2, none⟩ (.int .i64 100)).cell? ⟨w.heap.size, 2, none⟩ = some (.int .i64 0) := kR.cell 2 rfl
             have r3 : (w4.setCell ⟨B, 2, none⟩ (.int .i64 100)).cell? ⟨w.heap.size, 3, none⟩ = some (.int .i64 0) := kR.cell 3 rfl
             have f0 := kR.frozen 0
             have f1 := kR.frozen 1
             have f2 := kR.frozen 2
             have f3 := kR.frozen 3
             have HR_ := Lib.hid kR; have HH_ := Lib.hid h; have HKK_ := Lib.hid hk
             clear kB kR h hk HS hsz
             go_wp2_with fail
             obtain ⟨e0, hk4⟩ := fin4 HR_.out (.int .i64 (1 + x)) (.string s) (.int .i64 100) (.int .i64 (1 + z))
             have h4 := HH_.out.keep hk4 hgl
             have hk5 := HKK_.out.join hk4 (Nat.le_refl _)
             have HH4 := Lib.hid h4; have HK5 := Lib.hid hk5
             clear h4 hk5 hk4 HR_ HH_ HKK_ p0 p1 p2 p3 r0 r1 r2 r3 f0 f1 f2 f3
             clear fB2 gB2
             generalize (((((w4.setCell ⟨B, 2, none⟩ (.int .i64 100)).setCell ⟨w.heap.size, 0, none⟩ (.int .i64 (1 + x))).setCell ⟨w.heap.size, 1, none⟩ (.string s)).setCell ⟨w.heap.size, 2, none⟩ (.int .i64 100)).setCell ⟨w.heap.size, 3, none⟩ (.int .i64 (1 + z))) = wf at *
             refine bodyPost_ret (results_cell_row (P := Tryz.prog) Tryz.results14 _ wf w.heap.size 41 _ (0, 0) _ rfl e0 Tryz.underlying41 rfl (by kernel_rfl)) rfl ?_
             exact ⟨_, _, _, _, rfl, HS1.out, HH4.out.more (by omega), HK5.out⟩
          · have t_1b : (t == 1) = false := by simpa using t_1
            by_cases t_2 : t = 2
            · subst t_2
              as_aux_lemma =>
               have fB1 := kB.frozen 1
               have gB1 : w4.cell? ⟨B, 1, none⟩ = some (.string s) := kB.cell 1 rfl
               have hkS1 : Keep B (B + 1) w4 (w4.setCell ⟨B, 1, none⟩ (.string ⟨#[103]⟩)) := keep_setCell (p := ⟨B, 1, none⟩) (Keep.refl B (B + 1) w4) (Nat.le_refl B) (Nat.lt_succ_self B) (.string ⟨#[103]⟩)
               replace kB := kB.set 1 (.string ⟨#[103]⟩)
               replace kR := kR.keep hkS1 (.inl (by omega))
               replace h := h.keep hkS1 (by omega)
               replace hk := hk.join hkS1 hsB
               replace HS := Lib.hid (Recs.keep HS.out hkS1 (.inl (by have := HHI.out; omega)))
               replace hsz := Nat.le_trans hsz hkS1.size
               clear hkS1
               have p0 : (w4.setCell ⟨B, 1, none⟩ (.string ⟨#[103]⟩)).cell? ⟨B, 0, none⟩ = some (.int .i64 (1 + x)) := kB.cell 0 rfl
               have p1 : (w4.setCell ⟨B, 1, none⟩ (.string ⟨#[103]⟩)).cell? ⟨B, 1, none⟩ = some (.string ⟨#[103]⟩) := kB.cell 1 rfl
               have p2 : (w4.setCell ⟨B, 1, none⟩ (.string ⟨#[103]⟩)).cell? ⟨B, 2, none⟩ = some (.int .i64 (1 + y)) := kB.cell 2 rfl
               have p3 : (w4.setCell ⟨B, 1, none⟩ (.string ⟨#[103]⟩)).cell? ⟨B, 3, none⟩ = some (.int .i64 (1 + z)) := kB.cell 3 rfl
               have r0 : (w4.setCell ⟨B, 1, none⟩ (.string ⟨#[103]⟩)).cell? ⟨w.heap.size, 0, none⟩ = some (.int .i64 0) := kR.cell 0 rfl
               have r1 : (w4.setCell ⟨B, 1, none⟩ (.string ⟨#[103]⟩)).cell? ⟨w.heap.size, 1, none⟩ = some (.string ⟨#[]⟩) := kR.cell 1 rfl
               have r2 : (w4.setCell ⟨B, 1, none⟩ (.string ⟨#[103]⟩)).cell? ⟨w.heap.size, 2, none⟩ = some (.int .i64 0) := kR.cell 2 rfl
               have r3 : (w4.setCell ⟨B, 1, none⟩ (.string ⟨#[103]⟩)).cell? ⟨w.heap.size, 3, none⟩ = some (.int .i64 0) := kR.cell 3 rfl
               have f0 := kR.frozen 0
               have f1 := kR.frozen 1
               have f2 := kR.frozen 2
               have f3 := kR.frozen 3
               have HR_ := Lib.hid kR; have HH_ := Lib.hid h; have HKK_ := Lib.hid hk
               clear kB kR h hk HS hsz
               go_wp2_with fail
               obtain ⟨e0, hk4⟩ := fin4 HR_.out (.int .i64 (1 + x)) (.string ⟨#[103]⟩) (.int .i64 (1 + y)) (.int .i64 (1 + z))
               have h4 := HH_.out.keep hk4 hgl
               have hk5 := HKK_.out.join hk4 (Nat.le_refl _)
               have HH4 := Lib.hid h4; have HK5 := Lib.hid hk5
               clear h4 hk5 hk4 HR_ HH_ HKK_ p0 p1 p2 p3 r0 r1 r2 r3 f0 f1 f2 f3
               clear fB1 gB1
               generalize (((((w4.setCell ⟨B, 1, none⟩ (.string ⟨#[103]⟩)).setCell ⟨w.heap.size, 0, none⟩ (.int .i64 (1 + x))).setCell ⟨w.heap.size, 1, none⟩ (.string ⟨#[103]⟩)).setCell ⟨w.heap.size, 2, none⟩ (.int .i64 (1 + y))).setCell ⟨w.heap.size, 3, none⟩ (.int .i64 (1 + z))) = wf at *
               refine bodyPost_ret (results_cell_row (P := Tryz.prog) Tryz.results14 _ wf w.heap.size 41 _ (0, 0) _ rfl e0 Tryz.underlying41 rfl (by kernel_rfl)) rfl ?_
               exact ⟨_, _, _, _, rfl, by decide, HH4.out.more (by omega), HK5.out⟩
            · have t_2b : (t == 2) = false := by simpa using t_2
              as_aux_lemma =>
               have p0 : w4.cell? ⟨B, 0, none⟩ = some (.int .i64 (1 + x)) := kB.cell 0 rfl
               have p1 : w4.cell? ⟨B, 1, none⟩ = some (.string s) := kB.cell 1 rfl
               have p2 : w4.cell? ⟨B, 2, none⟩ = some (.int .i64 (1 + y)) := kB.cell 2 rfl
               have p3 : w4.cell? ⟨B, 3, none⟩ = some (.int .i64 (1 + z)) := kB.cell 3 rfl
               have r0 : w4.cell? ⟨w.heap.size, 0, none⟩ = some (.int .i64 0) := kR.cell 0 rfl
               have r1 : w4.cell? ⟨w.heap.size, 1, none⟩ = some (.string ⟨#[]⟩) := kR.cell 1 rfl
               have r2 : w4.cell? ⟨w.heap.size, 2, none⟩ = some (.int .i64 0) := kR.cell 2 rfl
               have r3 : w4.cell? ⟨w.heap.size, 3, none⟩ = some (.int .i64 0) := kR.cell 3 rfl
               have f0 := kR.frozen 0
               have f1 := kR.frozen 1
               have f2 := kR.frozen 2
               have f3 := kR.frozen 3
               have HR_ := Lib.hid kR; have HH_ := Lib.hid h; have HKK_ := Lib.hid hk
               clear kB kR h hk HS hsz
               go_wp2_with fail
               obtain ⟨e0, hk4⟩ := fin4 HR_.out (.int .i64 (1 + x)) (.string s) (.int .i64 (1 + y)) (.int .i64 (1 + z))
               have h4 := HH_.out.keep hk4 hgl
               have hk5 := HKK_.out.join hk4 (Nat.le_refl _)
               have HH4 := Lib.hid h4; have HK5 := Lib.hid hk5
               clear h4 hk5 hk4 HR_ HH_ HKK_ p0 p1 p2 p3 r0 r1 r2 r3 f0 f1 f2 f3
               generalize ((((w4.setCell ⟨w.heap.size, 0, none⟩ (.int .i64 (1 + x))).setCell ⟨w.heap.size, 1, none⟩ (.string s)).setCell ⟨w.heap.size, 2, none⟩ (.int .i64 (1 + y))).setCell ⟨w.heap.size, 3, none⟩ (.int .i64 (1 + z))) = wf at *
               refine bodyPost_ret (results_cell_row (P := Tryz.prog) Tryz.results14 _ wf w.heap.size 41 _ (0, 0) _ rfl e0 Tryz.underlying41 rfl (by kernel_rfl)) rfl ?_
               exact ⟨_, _, _, _, rfl, HS1.out, HH4.out.more (by omega), HK5.out⟩
end Go.Proofs.YtlihmomopofdnaaGreatDoor
