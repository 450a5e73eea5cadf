/-
  The document's crate: Good, walked.
  Conditions: none.
-/
import Derived.Test.YtadioaeeobmdgaaDoorCra
import Derived.Test.YtadioaeeobmdgaaDoorQt
set_option linter.unusedVariables false
set_option linter.unusedSimpArgs false
namespace Go.Proofs.YtadioaeeobmdgaaDoor
open Go.RowKit

set_option maxRecDepth 20000 in
set_option maxHeartbeats 6400000 in
theorem refgood_any (b : Cr.Batch) (hok : BatOk b) (rv : Value) (w : World) (h : Recs w rv b.recs) :
    Calls Tryd.prog 24 #[batV b rv] w fun e w' => e = .returned (.bool (Cr.good b)) ∧ Below w.heap.size w w' := by
  have HZ := Lib.hid h
  obtain ⟨a, cap, rfl⟩ := h.form
  have HR := Lib.hid hok.2.2.2.2.2.2
  obtain ⟨⟨o1, o2⟩, ⟨o3, o4⟩, ⟨o5, o6⟩, ⟨o7, o8⟩, ⟨o9, o10⟩, o11, -⟩ := hok
  obtain ⟨base, count, prod, seq, time, recs⟩ := b
  have HB0 : Hid (Below w.heap.size w (w.alloc (.cells #[.int .i64 base, .int .i64 count, .int .i64 prod, .int .i64 seq, .int .i64 time, .slice a recs.length cap] 24))) := (Below.refl _ _).alloc (Nat.le_refl _) _
  obtain ⟨c0, c1, c2, c3, c4, c5⟩ := bat_cells w ⟨base, count, prod, seq, time, recs⟩ (.slice a recs.length cap) _ (Below.refl _ _)
  have hsz : (w.alloc (.cells #[.int .i64 base, .int .i64 count, .int .i64 prod, .int .i64 seq, .int .i64 time, .slice a recs.length cap] 24)).heap.size = w.heap.size + 1 := World.size_alloc _ _
  have HG : Hid (Cr.good ⟨base, count, prod, seq, time, recs⟩ = (Cr.isNum base && (Cr.isNum prod && (Cr.isNum seq && (Cr.isNum time && (decide (1 ≤ count) && (decide (count ≤ 8) && (decide (base ≤ 1099511627776 - count) &&
    (decide ((recs.length : Int) ≤ count) && Cr.goodRecs (base + count) base recs))))))))) := rfl
  dsimp only [batCells] at *
  clear h
  unfold maxLen at o11
  unfold batV
  dsimp only
  have N0 := Lib.hid (fun w => refnum_any base w)
  have N2 := Lib.hid (fun w => refnum_any prod w)
  have N3 := Lib.hid (fun w => refnum_any seq w)
  have N4 := Lib.hid (fun w => refnum_any time w)
  cases q0 : Cr.isNum base
  · rw [q0] at N0
    have HX : Hid (Cr.good ⟨base, count, prod, seq, time, recs⟩ = false) := by
      rw [Hid, HG.out, q0]
      simp
    clear HG q0
    go_enter Tryd.func24, Tryd.ntmps24
    go_wp2_with fail
    refine (N0.out _).mono ?_
    rintro e w5 ⟨rfl, rfl⟩
    go_wp2
    go_ret
    exact ⟨by rw [HX.out]; rfl, HB0.out⟩
  rw [q0] at N0
  have qb : 0 ≤ base ∧ base ≤ 1099511627776 := by simpa only [Cr.isNum, Bool.and_eq_true, decide_eq_true_eq] using q0
  obtain ⟨qb1, qb2⟩ := qb
  by_cases d1 : 1 ≤ count
  rotate_left
  · have HX : Hid (Cr.good ⟨base, count, prod, seq, time, recs⟩ = false) := by
      rw [Hid, HG.out, decide_eq_false d1]
      simp
    clear HG
    go_enter Tryd.func24, Tryd.ntmps24
    go_wp2_with fail
    refine (N0.out _).mono ?_
    rintro e w5 ⟨rfl, rfl⟩
    go_wp2
    go_ret
    exact ⟨by rw [HX.out]; rfl, HB0.out⟩
  by_cases d2 : count ≤ 8
  rotate_left
  · have HX : Hid (Cr.good ⟨base, count, prod, seq, time, recs⟩ = false) := by
      rw [Hid, HG.out, decide_eq_false d2]
      simp
    clear HG
    go_enter Tryd.func24, Tryd.ntmps24
    go_wp2_with fail
    refine (N0.out _).mono ?_
    rintro e w5 ⟨rfl, rfl⟩
    go_wp2
    go_ret
    exact ⟨by rw [HX.out]; rfl, HB0.out⟩
  by_cases d3 : base ≤ 1099511627776 - count
  rotate_left
  · have HX : Hid (Cr.good ⟨base, count, prod, seq, time, recs⟩ = false) := by
      rw [Hid, HG.out, decide_eq_false d3]
      simp
    clear HG
    go_enter Tryd.func24, Tryd.ntmps24
    go_wp2_with fail
    refine (N0.out _).mono ?_
    rintro e w5 ⟨rfl, rfl⟩
    go_wp2
    go_ret
    exact ⟨by rw [HX.out]; rfl, HB0.out⟩
  cases q2 : Cr.isNum prod
  · rw [q2] at N2
    have HX : Hid (Cr.good ⟨base, count, prod, seq, time, recs⟩ = false) := by
      rw [Hid, HG.out, q2]
      simp
    clear HG q2
    go_enter Tryd.func24, Tryd.ntmps24
    go_wp2_with fail
    refine (N0.out _).mono ?_
    rintro e w5 ⟨rfl, rfl⟩
    go_wp2_with fail
    refine (N2.out _).mono ?_
    rintro e w5 ⟨rfl, rfl⟩
    go_wp2
    go_ret
    exact ⟨by rw [HX.out]; rfl, HB0.out⟩
  rw [q2] at N2
  cases q3 : Cr.isNum seq
  · rw [q3] at N3
    have HX : Hid (Cr.good ⟨base, count, prod, seq, time, recs⟩ = false) := by
      rw [Hid, HG.out, q3]
      simp
    clear HG q3
    go_enter Tryd.func24, Tryd.ntmps24
    go_wp2_with fail
    refine (N0.out _).mono ?_
    rintro e w5 ⟨rfl, rfl⟩
    go_wp2_with fail
    refine (N2.out _).mono ?_
    rintro e w5 ⟨rfl, rfl⟩
    go_wp2_with fail
    refine (N3.out _).mono ?_
    rintro e w5 ⟨rfl, rfl⟩
    go_wp2
    go_ret
    exact ⟨by rw [HX.out]; rfl, HB0.out⟩
  rw [q3] at N3
  cases q4 : Cr.isNum time
  · rw [q4] at N4
    have HX : Hid (Cr.good ⟨base, count, prod, seq, time, recs⟩ = false) := by
      rw [Hid, HG.out, q4]
      simp
    clear HG q4
    go_enter Tryd.func24, Tryd.ntmps24
    go_wp2_with fail
    refine (N0.out _).mono ?_
    rintro e w5 ⟨rfl, rfl⟩
    go_wp2_with fail
    refine (N2.out _).mono ?_
    rintro e w5 ⟨rfl, rfl⟩
    go_wp2_with fail
    refine (N3.out _).mono ?_
    rintro e w5 ⟨rfl, rfl⟩
    go_wp2_with fail
    refine (N4.out _).mono ?_
    rintro e w5 ⟨rfl, rfl⟩
    go_wp2
    go_ret
    exact ⟨by rw [HX.out]; rfl, HB0.out⟩
  rw [q4] at N4
  by_cases d4 : (recs.length : Int) ≤ count
  rotate_left
  · have HX : Hid (Cr.good ⟨base, count, prod, seq, time, recs⟩ = false) := by
      rw [Hid, HG.out, decide_eq_false d4]
      simp
    clear HG
    go_enter Tryd.func24, Tryd.ntmps24
    go_wp2_with fail
    refine (N0.out _).mono ?_
    rintro e w5 ⟨rfl, rfl⟩
    go_wp2_with fail
    refine (N2.out _).mono ?_
    rintro e w5 ⟨rfl, rfl⟩
    go_wp2_with fail
    refine (N3.out _).mono ?_
    rintro e w5 ⟨rfl, rfl⟩
    go_wp2_with fail
    refine (N4.out _).mono ?_
    rintro e w5 ⟨rfl, rfl⟩
    go_wp2
    go_ret
    exact ⟨by rw [HX.out]; rfl, HB0.out⟩
  have HH : Hid (Cr.good ⟨base, count, prod, seq, time, recs⟩ = Cr.goodRecs (base + count) base recs) := by
    rw [Hid, HG.out, q0, q2, q3, q4, decide_eq_true d1, decide_eq_true d2, decide_eq_true d3, decide_eq_true d4]
    rfl
  clear HG q0 q2 q3 q4
  go_enter Tryd.func24, Tryd.ntmps24
  go_wp2_with fail
  refine (N0.out _).mono ?_
  rintro e w5 ⟨rfl, rfl⟩
  go_wp2_with fail
  refine (N2.out _).mono ?_
  rintro e w5 ⟨rfl, rfl⟩
  go_wp2_with fail
  refine (N3.out _).mono ?_
  rintro e w5 ⟨rfl, rfl⟩
  go_wp2_with fail
  refine (N4.out _).mono ?_
  rintro e w5 ⟨rfl, rfl⟩
  go_wp2
  clear N0 N2 N3 N4
  generalize w.alloc (.cells #[.int .i64 base, .int .i64 count, .int .i64 prod, .int .i64 seq, .int .i64 time, .slice a recs.length cap] 24) = w0 at *
  have HC : Hid (∀ W, Below w0.heap.size w0 W → W.cell? ⟨w.heap.size, 0, none⟩ = some (.int .i64 base) ∧ W.cell? ⟨w.heap.size, 1, none⟩ = some (.int .i64 count) ∧ W.cell? ⟨w.heap.size, 5, none⟩ = some (.slice a recs.length cap)) := fun W hW =>
    ⟨(hW.cell (p := ⟨w.heap.size, 0, none⟩) (by simp only; omega)).trans c0, (hW.cell (p := ⟨w.heap.size, 1, none⟩) (by simp only; omega)).trans c1, (hW.cell (p := ⟨w.heap.size, 5, none⟩) (by simp only; omega)).trans c5⟩
  clear c0 c1 c2 c3 c4 c5
  go_loopw [4, 3] (fun i nx w4 => ∃ (k : Nat) (n : Int), i = .int .i64 k ∧ nx = .int .i64 (n - 1) ∧ 0 ≤ n ∧ n ≤ 1099511627786 ∧ k ≤ recs.length ∧ Cr.goodRecs (base + count) base recs = Cr.goodRecs (base + count) n (recs.drop k) ∧ Below w0.heap.size w0 w4) (fun i _ _ => recs.length - (intOf i).toNat)
  case atStart => exact ⟨0, base, rfl, rfl, by omega, by omega, by omega, rfl, Below.refl _ _⟩
  case round =>
    obtain ⟨k, n, rfl, rfl, hn1, hn2, hk2, hr, hb2⟩ := hrel
    have HR2 := Lib.hid hr
    have B2 := Lib.hid hb2
    have BW2 : Hid (Below w.heap.size w wr) := bt HB0.out B2.out
    obtain ⟨e0, e1, e5⟩ := HC.out _ hb2
    clear hr hb2
    by_cases hlt : k < recs.length
    · obtain ⟨x, hx⟩ : ∃ x, recs[k]? = some x := ⟨recs[k], by simp [hlt]⟩
      have hxo := HR.out x (List.mem_of_getElem? hx)
      have HS := Lib.hid (goodRecs_step (base + count) n recs k x hx)
      obtain ⟨g, off, cap', he, hg, p0, p1, p2, p3⟩ := HZ.out.get BW2.out hx
      injection he with he1 he2 he3
      subst he1 he3
      obtain ⟨x0, xk, xv, xg⟩ := x
      have hxo2 := hxo.1
      have HN := Lib.hid (fun w => refrec_any ⟨x0, xk, xv, xg⟩ hxo w)
      obtain ⟨xo1, xo2⟩ := hxo2
      unfold recV at HN
      dsimp only at *
      clear he2 hxo
      have L5 := fun b : BelowOf wr => b.cell e5
      have L0 := fun b : BelowOf wr => b.cell e0
      have L1 := fun b : BelowOf wr => b.cell e1
      have M0 := fun b : BelowOf wr => b.cell p0
      have M1 := fun b : BelowOf wr => b.cell p1
      have M2 := fun b : BelowOf wr => b.cell p2
      have M3 := fun b : BelowOf wr => b.cell p3
      by_cases hok : Cr.isRec ⟨x0, xk, xv, xg⟩ = true ∧ n ≤ x0 ∧ x0 < base + count
      · obtain ⟨k1, k2, k3⟩ := hok
        have HX : Hid (Cr.goodRecs (base + count) base recs = Cr.goodRecs (base + count) (x0 + 1) (recs.drop (k + 1))) := by
          rw [Hid, HR2.out, HS.out, k1, decide_eq_true k2, decide_eq_true k3]
          rfl
        rw [k1] at HN
        clear HS k1
        have g1 : decide (x0 ≤ n - 1) = false := decide_eq_false (by omega)
        have g2 : decide (base + count ≤ x0) = false := decide_eq_false (by omega)
        go_wp2
        refine wp_region_below (by kernel_rfl) (by kernel_rfl) ?_
        repeat (go_big_quiet_step ((refine (HN.out _).mono ?_; rintro e w' ⟨rfl, hb⟩; exact ⟨rfl, belowOf_call (Subtype.property _) hb⟩)))
        refine wpQuiet_nil ?_
        intro w9 hC9
        obtain ⟨⟨w9, hb9⟩, rfl⟩ := hC9
        clear L5 L0 L1 M0 M1 M2 M3
        have B9 : Hid (Below w0.heap.size w0 w9) := bt B2.out hb9
        have BW9 : Hid (Below w.heap.size w w9) := bt HB0.out B9.out
        have p9 := (hb9.cell (World.block_lt_of_cell? wr _ p0)).trans p0
        have e9 := (hb9.cell (World.block_lt_of_cell? wr _ e5)).trans e5
        clear hb9
        go_wp2
        go_roundw
        case rel => exact ⟨k + 1, x0 + 1, by go_num, by go_num, by omega, by omega, by omega, HX.out, B9.out⟩
        case measure => simp [intOf]; omega
      · have HX : Hid (Cr.good ⟨base, count, prod, seq, time, recs⟩ = false) := by
          rw [Hid, HH.out, HR2.out, HS.out]
          cases h : (Cr.isRec ⟨x0, xk, xv, xg⟩ && (decide (n ≤ x0) && (decide (x0 < base + count) && Cr.goodRecs (base + count) (x0 + 1) (recs.drop (k + 1))))) with
          | false => rfl
          | true =>
            simp only [Bool.and_eq_true, decide_eq_true_eq] at h
            exact absurd ⟨h.1, h.2.1, h.2.2.1⟩ hok
        clear HS
        cases hb : Cr.isRec ⟨x0, xk, xv, xg⟩ with
        | false =>
          rw [hb] at HN
          clear hb hok
          go_wp2
          refine wp_region_below (by kernel_rfl) (by kernel_rfl) ?_
          repeat (go_big_quiet_step ((refine (HN.out _).mono ?_; rintro e w' ⟨rfl, hb⟩; exact ⟨rfl, belowOf_call (Subtype.property _) hb⟩)))
          refine wpQuiet_nil ?_
          intro w9 hC9
          obtain ⟨⟨w9, hb9⟩, rfl⟩ := hC9
          clear L5 L0 L1 M0 M1 M2 M3
          have B9 : Hid (Below w0.heap.size w0 w9) := bt B2.out hb9
          have BW9 : Hid (Below w.heap.size w w9) := bt HB0.out B9.out
          have p9 := (hb9.cell (World.block_lt_of_cell? wr _ p0)).trans p0
          have e9 := (hb9.cell (World.block_lt_of_cell? wr _ e5)).trans e5
          clear hb9
          go_wp2
          go_ret
          exact ⟨by rw [HX.out]; rfl, BW9.out⟩
        | true =>
          rw [hb] at HN
          by_cases hn : n ≤ x0
          · have hn2 : ¬ x0 < base + count := fun h => hok ⟨hb, hn, h⟩
            clear hb hok
            have g1 : decide (x0 ≤ n - 1) = false := decide_eq_false (by omega)
            have g2 : decide (base + count ≤ x0) = true := decide_eq_true (by omega)
            go_wp2
            refine wp_region_below (by kernel_rfl) (by kernel_rfl) ?_
            repeat (go_big_quiet_step ((refine (HN.out _).mono ?_; rintro e w' ⟨rfl, hb⟩; exact ⟨rfl, belowOf_call (Subtype.property _) hb⟩)))
            refine wpQuiet_nil ?_
            intro w9 hC9
            obtain ⟨⟨w9, hb9⟩, rfl⟩ := hC9
            clear L5 L0 L1 M0 M1 M2 M3
            have B9 : Hid (Below w0.heap.size w0 w9) := bt B2.out hb9
            have BW9 : Hid (Below w.heap.size w w9) := bt HB0.out B9.out
            have p9 := (hb9.cell (World.block_lt_of_cell? wr _ p0)).trans p0
            have e9 := (hb9.cell (World.block_lt_of_cell? wr _ e5)).trans e5
            clear hb9
            go_wp2
            go_ret
            exact ⟨by rw [HX.out]; rfl, BW9.out⟩
          · clear hb hok
            have g1 : decide (x0 ≤ n - 1) = true := decide_eq_true (by omega)
            go_wp2
            refine wp_region_below (by kernel_rfl) (by kernel_rfl) ?_
            repeat (go_big_quiet_step ((refine (HN.out _).mono ?_; rintro e w' ⟨rfl, hb⟩; exact ⟨rfl, belowOf_call (Subtype.property _) hb⟩)))
            refine wpQuiet_nil ?_
            intro w9 hC9
            obtain ⟨⟨w9, hb9⟩, rfl⟩ := hC9
            clear L5 L0 L1 M0 M1 M2 M3
            have B9 : Hid (Below w0.heap.size w0 w9) := bt B2.out hb9
            have BW9 : Hid (Below w.heap.size w w9) := bt HB0.out B9.out
            have p9 := (hb9.cell (World.block_lt_of_cell? wr _ p0)).trans p0
            have e9 := (hb9.cell (World.block_lt_of_cell? wr _ e5)).trans e5
            clear hb9
            go_wp2
            go_ret
            exact ⟨by rw [HX.out]; rfl, BW9.out⟩
    · obtain rfl : k = recs.length := by omega
      have HX : Hid (Cr.good ⟨base, count, prod, seq, time, recs⟩ = true) := by
        rw [Hid, HH.out, HR2.out, List.drop_length]
        rfl
      go_wp2
      go_ret
      exact ⟨by rw [HX.out]; rfl, BW2.out⟩

end Go.Proofs.YtadioaeeobmdgaaDoor
