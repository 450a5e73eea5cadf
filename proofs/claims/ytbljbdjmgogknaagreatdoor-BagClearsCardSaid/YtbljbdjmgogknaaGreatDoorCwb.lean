/-
  Crate: Good, walked.
  Conditions: none.
-/
import Derived.Test.YtbljbdjmgogknaaGreatDoorCwa
set_option linter.unusedVariables false
set_option linter.unusedSimpArgs false
namespace Go.Proofs.YtbljbdjmgogknaaGreatDoor
open Go.RowKit

/-- A batch as a value; its records stand elsewhere. -/
def batV (b : Cr.Batch) (rv : Value) : Value := .agg #[.int .i64 b.base, .int .i64 b.count, .int .i64 b.prod, .int .i64 b.seq, .int .i64 b.time, rv]
def batCells (b : Cr.Batch) (rv : Value) : Array Value := #[.int .i64 b.base, .int .i64 b.count, .int .i64 b.prod, .int .i64 b.seq, .int .i64 b.time, rv]
def BatOk (b : Cr.Batch) : Prop := Bd.inR b.base ∧ Bd.inR b.count ∧ Bd.inR b.prod ∧ Bd.inR b.seq ∧ Bd.inR b.time ∧ b.recs.length ≤ maxLen ∧ ∀ x ∈ b.recs, RecOk x
theorem four_cells (w : World) (a b c d : Int) (k : Nat) (h : k < 4) (W : World) (hb : Below (w.alloc (.cells #[.int .i64 a, .int .i64 b, .int .i64 c, .int .i64 d] 3)).heap.size (w.alloc (.cells #[.int .i64 a, .int .i64 b, .int .i64 c, .int .i64 d] 3)) W) :
    W.cell? ⟨w.heap.size, k, none⟩ = some (.int .i64 ([a, b, c, d].getD k 0)) := by
  have e1 := (hb.block w.heap.size (by simp)).trans (heap_alloc_new w _)
  match k, h with
  | 0, _ => simp [World.cell?, e1]
  | 1, _ => simp [World.cell?, e1]
  | 2, _ => simp [World.cell?, e1]
  | 3, _ => simp [World.cell?, e1]
theorem bat_cells (w : World) (b : Cr.Batch) (rv : Value) (W : World) (hb : Below (w.alloc (.cells (batCells b rv) 36)).heap.size (w.alloc (.cells (batCells b rv) 36)) W) :
    W.cell? ⟨w.heap.size, 0, none⟩ = some (.int .i64 b.base) ∧ W.cell? ⟨w.heap.size, 1, none⟩ = some (.int .i64 b.count) ∧ W.cell? ⟨w.heap.size, 2, none⟩ = some (.int .i64 b.prod) ∧ W.cell? ⟨w.heap.size, 3, none⟩ = some (.int .i64 b.seq) ∧
      W.cell? ⟨w.heap.size, 4, none⟩ = some (.int .i64 b.time) ∧ W.cell? ⟨w.heap.size, 5, none⟩ = some rv := by
  have e1 := (hb.block w.heap.size (by simp)).trans (heap_alloc_new w _)
  simp [World.cell?, e1, batCells]
theorem rec_cells (w : World) (x : Cr.Rec) (W : World) (hb : Below (w.alloc (.cells #[.int .i64 x.off, .string ⟨x.key.toArray⟩, .string ⟨x.val.toArray⟩, .bool x.gone] 67)).heap.size (w.alloc (.cells #[.int .i64 x.off, .string ⟨x.key.toArray⟩, .string ⟨x.val.toArray⟩, .bool x.gone] 67)) W) :
    W.cell? ⟨w.heap.size, 0, none⟩ = some (.int .i64 x.off) ∧ W.cell? ⟨w.heap.size, 1, none⟩ = some (.string ⟨x.key.toArray⟩) ∧ W.cell? ⟨w.heap.size, 2, none⟩ = some (.string ⟨x.val.toArray⟩) ∧ W.cell? ⟨w.heap.size, 3, none⟩ = some (.bool x.gone) := by
  have e1 := (hb.block w.heap.size (by simp)).trans (heap_alloc_new w _)
  simp [World.cell?, e1]
theorem goodRecs_step (hi next : Int) (l : List Cr.Rec) (k : Nat) (x : Cr.Rec) (h : l[k]? = some x) : Cr.goodRecs hi next (l.drop k) = (Cr.isRec x && (decide (next ≤ x.off) && (decide (x.off < hi) && Cr.goodRecs hi (x.off + 1) (l.drop (k + 1))))) := by
  obtain ⟨hk, rfl⟩ := List.getElem?_eq_some_iff.1 h
  rw [List.drop_eq_getElem_cons hk]
  rfl
set_option maxRecDepth 20000 in
set_option maxHeartbeats 6400000 in
theorem good_any (b : Cr.Batch) (hok : BatOk b) (rv : Value) (w : World) (h : Recs w rv b.recs) :
    Calls Tryz.prog 75 #[batV b rv] w fun e w' => e = .returned (.bool (Cr.good b)) ∧ Below w.heap.size w w' := by
  have HB0 : Hid (Below w.heap.size w (w.alloc (.cells (batCells b rv) 36))) := (Below.refl _ _).alloc (Nat.le_refl _) _
  have HZ := Lib.hid h
  have HC := Lib.hid (bat_cells w b rv)
  have hsz : (w.alloc (.cells (batCells b rv) 36)).heap.size = w.heap.size + 1 := World.size_alloc _ _
  have hw0 : w.alloc (.cells #[.int .i64 b.base, .int .i64 b.count, .int .i64 b.prod, .int .i64 b.seq, .int .i64 b.time, rv] 36) = w.alloc (.cells (batCells b rv) 36) := rfl
  have HW0 := Lib.hid hw0
  have HG : Hid (Cr.good b = (Cr.isNum b.base && (Cr.isNum b.prod && (Cr.isNum b.seq && (Cr.isNum b.time && (decide (1 ≤ b.count) && (decide (b.count ≤ 8) && (decide (b.base ≤ 1099511627776 - b.count) &&
    (decide ((b.recs.length : Int) ≤ b.count) && Cr.goodRecs (b.base + b.count) b.base b.recs))))))))) := rfl
  obtain ⟨⟨o1, o2⟩, ⟨o3, o4⟩, ⟨o5, o6⟩, ⟨o7, o8⟩, ⟨o9, o10⟩, o11, o12⟩ := hok
  have HR := Lib.hid o12
  obtain ⟨a, cap, hrv, -⟩ := h
  obtain ⟨base, count, prod, seq, time, recs⟩ := b
  simp only at *
  clear hw0 o12
  unfold maxLen at o11
  unfold batV
  simp only
  subst hrv
  go_enter Tryz.func75, Tryz.ntmps75
  go_wp2_with fail
  rw [HW0.out]
  clear HW0
  generalize w.alloc (.cells (batCells ⟨base, count, prod, seq, time, recs⟩ (.slice a recs.length cap)) 36) = w0 at *
  have HF := Lib.hid (four_cells w0 base prod seq time)
  have B1 : Hid (Below w0.heap.size w0 (w0.alloc (.cells #[.int .i64 base, .int .i64 prod, .int .i64 seq, .int .i64 time] 3))) := (Below.refl _ _).alloc (Nat.le_refl _) _
  generalize w0.alloc (.cells #[.int .i64 base, .int .i64 prod, .int .i64 seq, .int .i64 time] 3) = w1 at *
  go_loopw [18] (fun i wr => ∃ k : Nat, i = .int .i64 k ∧ k ≤ 4 ∧ (∀ j, j < k → Cr.isNum ([base, prod, seq, time].getD j 0) = true) ∧ Below w1.heap.size w1 wr) (fun i _ => 4 - (intOf i).toNat)
  case atStart => exact ⟨0, rfl, by omega, fun j hj => by omega, Below.refl _ _⟩
  case round =>
    obtain ⟨k, rfl, hk, hn, hb⟩ := hrel
    have HN := Lib.hid hn
    have HB := Lib.hid hb
    clear hn hb
    have BW : Hid (Below w.heap.size w wr) := HB0.out.trans ((B1.out.trans (HB.out.mono B1.out.size)).mono HB0.out.size)
    by_cases hlt : k < 4
    · have hc1 := HF.out k hlt _ HB.out
      rw [hsz] at hc1
      have HNI := Lib.hid (fun w => isNum_any ([base, prod, seq, time].getD k 0) w)
      have HNX : Hid (Cr.isNum ([base, prod, seq, time].getD k 0) = true → ∀ j, j < k + 1 → Cr.isNum ([base, prod, seq, time].getD j 0) = true) := fun h j hj => by
        by_cases e : j = k
        · rw [e]; exact h
        · exact HN.out j (by omega)
      have HNG : Hid (Cr.isNum ([base, prod, seq, time].getD k 0) = false → Cr.good ⟨base, count, prod, seq, time, recs⟩ = false) := fun h => by
        rw [HG.out]
        match k, hlt, h with
        | 0, _, h => rw [show Cr.isNum base = false from h]; rfl
        | 1, _, h => rw [show Cr.isNum prod = false from h]; simp
        | 2, _, h => rw [show Cr.isNum seq = false from h]; simp
        | 3, _, h => rw [show Cr.isNum time = false from h]; simp
      generalize [base, prod, seq, time].getD k 0 = n at *
      cases hb : Cr.isNum n with
      | true =>
        rw [hb] at HNI
        have HX := Lib.hid (HNX.out hb)
        clear HNX HNG hb
        go_wp2_with fail
        refine (HNI.out _).mono ?_
        rintro e w5 ⟨rfl, rfl⟩
        go_wp2
        go_roundw
        case rel => exact ⟨k + 1, by go_num, by omega, HX.out, HB.out⟩
        case measure => simp [intOf]; omega
      | false =>
        rw [hb] at HNI
        have HX := Lib.hid (HNG.out hb)
        clear HNX HNG hb
        go_wp2_with fail
        refine (HNI.out _).mono ?_
        rintro e w5 ⟨rfl, rfl⟩
        go_wp2
        go_ret
        exact ⟨by rw [HX.out]; rfl, BW.out⟩
    · obtain rfl : k = 4 := by omega
      have n0 : Cr.isNum base = true := HN.out 0 (by omega)
      have n1 : Cr.isNum prod = true := HN.out 1 (by omega)
      have n2 : Cr.isNum seq = true := HN.out 2 (by omega)
      have n3 : Cr.isNum time = true := HN.out 3 (by omega)
      have HG2 : Hid (Cr.good ⟨base, count, prod, seq, time, recs⟩ = (decide (1 ≤ count) && (decide (count ≤ 8) && (decide (base ≤ 1099511627776 - count) && (decide ((recs.length : Int) ≤ count) && Cr.goodRecs (base + count) base recs))))) := by
        rw [Hid, HG.out, n0, n1, n2, n3]
        rfl
      simp only [Cr.isNum, Bool.and_eq_true, decide_eq_true_eq] at n0
      obtain ⟨n0, n00⟩ := n0
      clear n1 n2 n3 HG HN
      have HBB : Hid (Below w0.heap.size w0 wr) := B1.out.trans (HB.out.mono B1.out.size)
      obtain ⟨c0, c1, c2, c3, c4, c5⟩ := HC.out _ HBB.out
      by_cases hc : 1 ≤ count ∧ count ≤ 8 ∧ base ≤ 1099511627776 - count ∧ (recs.length : Int) ≤ count
      · obtain ⟨d1, d2, d3, d4⟩ := hc
        have HH : Hid (Cr.good ⟨base, count, prod, seq, time, recs⟩ = Cr.goodRecs (base + count) base recs) := by
          rw [Hid, HG2.out, decide_eq_true d1, decide_eq_true d2, decide_eq_true d3, decide_eq_true d4]
          rfl
        have HZr : Hid (Recs wr (.slice a recs.length cap) recs) := HZ.out.kept BW.out
        clear HG2 HZ HB B1 HF
        generalize wr = w3 at *
        go_wp2_with fail
        go_loopw [55, 5] (fun i nx w4 => ∃ (k : Nat) (n : Int), i = .int .i64 k ∧ nx = .int .i64 n ∧ k ≤ recs.length ∧ Cr.goodRecs (base + count) base recs = Cr.goodRecs (base + count) n (recs.drop k) ∧ Below w3.heap.size w3 w4) (fun i _ _ => recs.length - (intOf i).toNat)
        case atStart => exact ⟨0, base, rfl, rfl, by omega, rfl, Below.refl _ _⟩
        case round =>
          obtain ⟨k, n, rfl, rfl, hk2, hr, hb2⟩ := hrel
          have HR2 := Lib.hid hr
          have B2 := Lib.hid hb2
          have BW2 : Hid (Below w.heap.size w wr) := bt BW.out B2.out
          clear hr hb2
          by_cases hlt : k < recs.length
          · obtain ⟨x, hx⟩ : ∃ x, recs[k]? = some x := ⟨recs[k], by simp [hlt]⟩
            have hxo := HR.out x (List.mem_of_getElem? hx)
            have HS := Lib.hid (goodRecs_step (base + count) n recs k x hx)
            obtain ⟨a', cap', he, hcells⟩ := HZr.out
            injection he with he1 he2 he3
            subst he1 he3
            obtain ⟨g, off, rfl, hg, q0, q1, q2, q3⟩ := hcells k x hx
            have p0 := (B2.out.cell (p := ⟨g, off + k * 4, none⟩) hg).trans q0
            have p1 := (B2.out.cell (p := ⟨g, off + k * 4 + 1, none⟩) hg).trans q1
            have p2 := (B2.out.cell (p := ⟨g, off + k * 4 + 2, none⟩) hg).trans q2
            have p3 := (B2.out.cell (p := ⟨g, off + k * 4 + 3, none⟩) hg).trans q3
            obtain ⟨x0, xk, xv, xg⟩ := x
            obtain ⟨⟨xo1, xo2⟩, xkl, xvl⟩ := hxo
            simp only at p0 p1 p2 p3 xo1 xo2 xkl xvl
            clear q0 q1 q2 q3 hcells he2
            have BA : Hid (Below w.heap.size w (wr.alloc (.cells #[.int .i64 x0, .string ⟨xk.toArray⟩, .string ⟨xv.toArray⟩, .bool xg] 67))) := BW2.out.alloc BW2.out.size _
            have B2A : Hid (Below w3.heap.size w3 (wr.alloc (.cells #[.int .i64 x0, .string ⟨xk.toArray⟩, .string ⟨xv.toArray⟩, .bool xg] 67))) := B2.out.alloc B2.out.size _
            have HCX := Lib.hid (rec_cells wr ⟨x0, xk, xv, xg⟩)
            have HN := Lib.hid (fun w => isRec_any ⟨x0, xk, xv, xg⟩ ⟨⟨xo1, xo2⟩, xkl, xvl⟩ w)
            have hHS : Cr.goodRecs (base + count) n (recs.drop k) = (Cr.isRec ⟨x0, xk, xv, xg⟩ && (decide (n ≤ x0) && (decide (x0 < base + count) && Cr.goodRecs (base + count) (x0 + 1) (recs.drop (k + 1))))) := HS.out
            by_cases hok : Cr.isRec ⟨x0, xk, xv, xg⟩ = true ∧ n ≤ x0 ∧ x0 < base + count
            · obtain ⟨k1, k2, k3⟩ := hok
              have HX : Hid (Cr.goodRecs (base + count) base recs = Cr.goodRecs (base + count) (x0 + 1) (recs.drop (k + 1))) := by
                rw [Hid, HR2.out, hHS, k1, decide_eq_true k2, decide_eq_true k3]
                rfl
              rw [k1] at HN
              clear hHS HS k1
              go_wp2_with fail
              refine (HN.out _).mono ?_
              rintro e w6 ⟨rfl, hb6⟩
              have B6 : Hid (Below w3.heap.size w3 w6) := bt B2A.out hb6
              obtain ⟨t0, t1, t2, t3⟩ := HCX.out _ hb6
              obtain ⟨e0, e1, _, _, _, e5⟩ := HC.out _ (bt HBB.out B6.out)
              try dsimp only at t0 e0 e1
              clear hb6
              go_wp2
              go_roundw
              case rel => exact ⟨k + 1, x0 + 1, by go_num, by go_num, by omega, HX.out, B6.out⟩
              case measure => simp [intOf]; omega
            · have HX : Hid (Cr.good ⟨base, count, prod, seq, time, recs⟩ = false) := by
                rw [Hid, HH.out, HR2.out, hHS]
                cases h : (Cr.isRec ⟨x0, xk, xv, xg⟩ && (decide (n ≤ x0) && (decide (x0 < base + count) && Cr.goodRecs (base + count) (x0 + 1) (recs.drop (k + 1))))) with
                | false => rfl
                | true =>
                  simp only [Bool.and_eq_true, decide_eq_true_eq] at h
                  exact absurd ⟨h.1, h.2.1, h.2.2.1⟩ hok
              clear hHS HS
              cases hb : Cr.isRec ⟨x0, xk, xv, xg⟩ with
              | false =>
                rw [hb] at HN
                clear hb hok
                go_wp2_with fail
                refine (HN.out _).mono ?_
                rintro e w6 ⟨rfl, hb6⟩
                have B6 : Hid (Below w.heap.size w w6) := bt BA.out hb6
                obtain ⟨t0, t1, t2, t3⟩ := HCX.out _ hb6
                obtain ⟨e0, e1, _, _, _, e5⟩ := HC.out _ (bt HBB.out (bt B2A.out hb6))
                try dsimp only at t0 e0 e1
                clear hb6
                go_wp2
                go_ret
                exact ⟨by rw [HX.out]; rfl, B6.out⟩
              | true =>
                rw [hb] at HN
                by_cases hn : n ≤ x0
                · have hn2 : ¬ x0 < base + count := fun h => hok ⟨hb, hn, h⟩
                  clear hb hok
                  go_wp2_with fail
                  refine (HN.out _).mono ?_
                  rintro e w6 ⟨rfl, hb6⟩
                  have B6 : Hid (Below w.heap.size w w6) := bt BA.out hb6
                  obtain ⟨t0, t1, t2, t3⟩ := HCX.out _ hb6
                  obtain ⟨e0, e1, _, _, _, e5⟩ := HC.out _ (bt HBB.out (bt B2A.out hb6))
                  try dsimp only at t0 e0 e1
                  clear hb6
                  go_wp2
                  go_ret
                  exact ⟨by rw [HX.out]; rfl, B6.out⟩
                · clear hb hok
                  go_wp2_with fail
                  refine (HN.out _).mono ?_
                  rintro e w6 ⟨rfl, hb6⟩
                  have B6 : Hid (Below w.heap.size w w6) := bt BA.out hb6
                  obtain ⟨t0, t1, t2, t3⟩ := HCX.out _ hb6
                  obtain ⟨e0, e1, _, _, _, e5⟩ := HC.out _ (bt HBB.out (bt B2A.out hb6))
                  try dsimp only at t0 e0 e1
                  clear hb6
                  go_wp2
                  go_ret
                  exact ⟨by rw [HX.out]; rfl, B6.out⟩
          · obtain rfl : k = recs.length := by omega
            have HX : Hid (Cr.good ⟨base, count, prod, seq, time, recs⟩ = true) := by
              rw [Hid, HH.out, HR2.out, List.drop_length]
              rfl
            go_wp2
            go_ret
            exact ⟨by rw [HX.out]; rfl, BW2.out⟩
      · have HX : Hid (Cr.good ⟨base, count, prod, seq, time, recs⟩ = false) := by
          rw [Hid, HG2.out]
          by_cases e1 : 1 ≤ count
          · by_cases e2 : count ≤ 8
            · by_cases e3 : base ≤ 1099511627776 - count
              · rw [decide_eq_false (p := (recs.length : Int) ≤ count) (fun e4 => hc ⟨e1, e2, e3, e4⟩)]; simp
              · rw [decide_eq_false e3]; simp
            · rw [decide_eq_false e2]; simp
          · rw [decide_eq_false e1]; rfl
        go_wp2
        all_goals first
          | (exfalso; omega)
          | (go_ret; exact ⟨by rw [HX.out]; rfl, BW.out⟩)

end Go.Proofs.YtbljbdjmgogknaaGreatDoor
