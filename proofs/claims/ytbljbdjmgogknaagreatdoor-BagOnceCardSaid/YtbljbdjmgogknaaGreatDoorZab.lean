/-
  Cwb / Cwc / Cwd / Cl / We / Ws: texts of one proof, one behind the other.
  Conditions: none of its own.
-/
import Derived.Test.YtbljbdjmgogknaaGreatDoorZaa
import Derived.Laws.StructEq
import Derived.BigQuiet
import Derived.Laws.ResultCell
import Derived.Laws.Rows
import Derived.Deep.DeepCutAuto
import Derived.Deep.CutBlock
/-
  Crate: Good, walked.
  Conditions: none.
-/
set_option linter.unusedVariables false
set_option linter.unusedSimpArgs false
namespace Go.Proofs.YtbljbdjmgogknaaGreatDoor
open Go.RowKit

/-- A batch as a value; its records stand elsewhere. -/
def batV (b : Cr.Batch) (rv : Value) : Value := .agg #[.int .i64 b.base, .int .i64 b.count, .int .i64 b.prod, .int .i64 b.seq, .int .i64 b.time, rv]
def batCells (b : Cr.Batch) (rv : Value) : Array Value := #[.int .i64 b.base, .int .i64 b.count, .int .i64 b.prod, .int .i64 b.seq, .int .i64 b.time, rv]
def BatOk (b : Cr.Batch) : Prop := Bd.inR b.base ∧ Bd.inR b.count ∧ Bd.inR b.prod ∧ Bd.inR b.seq ∧ Bd.inR b.time ∧ b.recs.length ≤ maxLen ∧ ∀ x ∈ b.recs, RecOk x
theorem four_cells (w : World) (a b c d : Int) (k : Nat) (h : k < 4) (W : World) (hb : Below (w.alloc (.cells #[.int .i64 a, .int .i64 b, .int .i64 c, .int .i64 d] 3)).heap.size (w.alloc (.cells #[.int .i64 a, .int .i64 b, .int .i64 c, .int .i64 d] 3)) W) :
    W.cell? ⟨w.heap.size, k, none⟩ = some (.int .i64 ([a, b, c, d].getD k 0)) := by
  have e1 := (hb.block w.heap.size (by simp)).trans (heap_alloc_new w _)
  match k, h with
  | 0, _ => simp [World.cell?, e1]
  | 1, _ => simp [World.cell?, e1]
  | 2, _ => simp [World.cell?, e1]
  | 3, _ => simp [World.cell?, e1]
theorem bat_cells (w : World) (b : Cr.Batch) (rv : Value) (W : World) (hb : Below (w.alloc (.cells (batCells b rv) 36)).heap.size (w.alloc (.cells (batCells b rv) 36)) W) :
    W.cell? ⟨w.heap.size, 0, none⟩ = some (.int .i64 b.base) ∧ W.cell? ⟨w.heap.size, 1, none⟩ = some (.int .i64 b.count) ∧ W.cell? ⟨w.heap.size, 2, none⟩ = some (.int .i64 b.prod) ∧ W.cell? ⟨w.heap.size, 3, none⟩ = some (.int .i64 b.seq) ∧
      W.cell? ⟨w.heap.size, 4, none⟩ = some (.int .i64 b.time) ∧ W.cell? ⟨w.heap.size, 5, none⟩ = some rv := by
  have e1 := (hb.block w.heap.size (by simp)).trans (heap_alloc_new w _)
  simp [World.cell?, e1, batCells]
theorem rec_cells (w : World) (x : Cr.Rec) (W : World) (hb : Below (w.alloc (.cells #[.int .i64 x.off, .string ⟨x.key.toArray⟩, .string ⟨x.val.toArray⟩, .bool x.gone] 67)).heap.size (w.alloc (.cells #[.int .i64 x.off, .string ⟨x.key.toArray⟩, .string ⟨x.val.toArray⟩, .bool x.gone] 67)) W) :
    W.cell? ⟨w.heap.size, 0, none⟩ = some (.int .i64 x.off) ∧ W.cell? ⟨w.heap.size, 1, none⟩ = some (.string ⟨x.key.toArray⟩) ∧ W.cell? ⟨w.heap.size, 2, none⟩ = some (.string ⟨x.val.toArray⟩) ∧ W.cell? ⟨w.heap.size, 3, none⟩ = some (.bool x.gone) := by
  have e1 := (hb.block w.heap.size (by simp)).trans (heap_alloc_new w _)
  simp [World.cell?, e1]
theorem goodRecs_step (hi next : Int) (l : List Cr.Rec) (k : Nat) (x : Cr.Rec) (h : l[k]? = some x) : Cr.goodRecs hi next (l.drop k) = (Cr.isRec x && (decide (next ≤ x.off) && (decide (x.off < hi) && Cr.goodRecs hi (x.off + 1) (l.drop (k + 1))))) := by
  obtain ⟨hk, rfl⟩ := List.getElem?_eq_some_iff.1 h
  rw [List.drop_eq_getElem_cons hk]
  rfl
set_option maxRecDepth 20000 in
set_option maxHeartbeats 6400000 in
theorem good_any (b : Cr.Batch) (hok : BatOk b) (rv : Value) (w : World) (h : Recs w rv b.recs) :
    Calls Tryz.prog 75 #[batV b rv] w fun e w' => e = .returned (.bool (Cr.good b)) ∧ Below w.heap.size w w' := by
  have HB0 : Hid (Below w.heap.size w (w.alloc (.cells (batCells b rv) 36))) := (Below.refl _ _).alloc (Nat.le_refl _) _
  have HZ := Lib.hid h
  have HC := Lib.hid (bat_cells w b rv)
  have hsz : (w.alloc (.cells (batCells b rv) 36)).heap.size = w.heap.size + 1 := World.size_alloc _ _
  have hw0 : w.alloc (.cells #[.int .i64 b.base, .int .i64 b.count, .int .i64 b.prod, .int .i64 b.seq, .int .i64 b.time, rv] 36) = w.alloc (.cells (batCells b rv) 36) := rfl
  have HW0 := Lib.hid hw0
  have HG : Hid (Cr.good b = (Cr.isNum b.base && (Cr.isNum b.prod && (Cr.isNum b.seq && (Cr.isNum b.time && (decide (1 ≤ b.count) && (decide (b.count ≤ 8) && (decide (b.base ≤ 1099511627776 - b.count) &&
    (decide ((b.recs.length : Int) ≤ b.count) && Cr.goodRecs (b.base + b.count) b.base b.recs))))))))) := rfl
  obtain ⟨⟨o1, o2⟩, ⟨o3, o4⟩, ⟨o5, o6⟩, ⟨o7, o8⟩, ⟨o9, o10⟩, o11, o12⟩ := hok
  have HR := Lib.hid o12
  obtain ⟨a, cap, hrv, -⟩ := h
  obtain ⟨base, count, prod, seq, time, recs⟩ := b
  simp only at *
  clear hw0 o12
  unfold maxLen at o11
  unfold batV
  simp only
  subst hrv
  go_enter Tryz.func75, Tryz.ntmps75
  go_wp2_with fail
  rw [HW0.out]
  clear HW0
  generalize w.alloc (.cells (batCells ⟨base, count, prod, seq, time, recs⟩ (.slice a recs.length cap)) 36) = w0 at *
  have HF := Lib.hid (four_cells w0 base prod seq time)
  have B1 : Hid (Below w0.heap.size w0 (w0.alloc (.cells #[.int .i64 base, .int .i64 prod, .int .i64 seq, .int .i64 time] 3))) := (Below.refl _ _).alloc (Nat.le_refl _) _
  generalize w0.alloc (.cells #[.int .i64 base, .int .i64 prod, .int .i64 seq, .int .i64 time] 3) = w1 at *
  go_loopw [18] (fun i wr => ∃ k : Nat, i = .int .i64 k ∧ k ≤ 4 ∧ (∀ j, j < k → Cr.isNum ([base, prod, seq, time].getD j 0) = true) ∧ Below w1.heap.size w1 wr) (fun i _ => 4 - (intOf i).toNat)
  case atStart => exact ⟨0, rfl, by omega, fun j hj => by omega, Below.refl _ _⟩
  case round =>
    obtain ⟨k, rfl, hk, hn, hb⟩ := hrel
    have HN := Lib.hid hn
    have HB := Lib.hid hb
    clear hn hb
    have BW : Hid (Below w.heap.size w wr) := HB0.out.trans ((B1.out.trans (HB.out.mono B1.out.size)).mono HB0.out.size)
    by_cases hlt : k < 4
    · have hc1 := HF.out k hlt _ HB.out
      rw [hsz] at hc1
      have HNI := Lib.hid (fun w => isNum_any ([base, prod, seq, time].getD k 0) w)
      have HNX : Hid (Cr.isNum ([base, prod, seq, time].getD k 0) = true → ∀ j, j < k + 1 → Cr.isNum ([base, prod, seq, time].getD j 0) = true) := fun h j hj => by
        by_cases e : j = k
        · rw [e]; exact h
        · exact HN.out j (by omega)
      have HNG : Hid (Cr.isNum ([base, prod, seq, time].getD k 0) = false → Cr.good ⟨base, count, prod, seq, time, recs⟩ = false) := fun h => by
        rw [HG.out]
        match k, hlt, h with
        | 0, _, h => rw [show Cr.isNum base = false from h]; rfl
        | 1, _, h => rw [show Cr.isNum prod = false from h]; simp
        | 2, _, h => rw [show Cr.isNum seq = false from h]; simp
        | 3, _, h => rw [show Cr.isNum time = false from h]; simp
      generalize [base, prod, seq, time].getD k 0 = n at *
      cases hb : Cr.isNum n with
      | true =>
        rw [hb] at HNI
        have HX := Lib.hid (HNX.out hb)
        clear HNX HNG hb
        go_wp2_with fail
        refine (HNI.out _).mono ?_
        rintro e w5 ⟨rfl, rfl⟩
        go_wp2
        go_roundw
        case rel => exact ⟨k + 1, by go_num, by omega, HX.out, HB.out⟩
        case measure => simp [intOf]; omega
      | false =>
        rw [hb] at HNI
        have HX := Lib.hid (HNG.out hb)
        clear HNX HNG hb
        go_wp2_with fail
        refine (HNI.out _).mono ?_
        rintro e w5 ⟨rfl, rfl⟩
        go_wp2
        go_ret
        exact ⟨by rw [HX.out]; rfl, BW.out⟩
    · obtain rfl : k = 4 := by omega
      have n0 : Cr.isNum base = true := HN.out 0 (by omega)
      have n1 : Cr.isNum prod = true := HN.out 1 (by omega)
      have n2 : Cr.isNum seq = true := HN.out 2 (by omega)
      have n3 : Cr.isNum time = true := HN.out 3 (by omega)
      have HG2 : Hid (Cr.good ⟨base, count, prod, seq, time, recs⟩ = (decide (1 ≤ count) && (decide (count ≤ 8) && (decide (base ≤ 1099511627776 - count) && (decide ((recs.length : Int) ≤ count) && Cr.goodRecs (base + count) base recs))))) := by
        rw [Hid, HG.out, n0, n1, n2, n3]
        rfl
      simp only [Cr.isNum, Bool.and_eq_true, decide_eq_true_eq] at n0
      obtain ⟨n0, n00⟩ := n0
      clear n1 n2 n3 HG HN
      have HBB : Hid (Below w0.heap.size w0 wr) := B1.out.trans (HB.out.mono B1.out.size)
      obtain ⟨c0, c1, c2, c3, c4, c5⟩ := HC.out _ HBB.out
      by_cases hc : 1 ≤ count ∧ count ≤ 8 ∧ base ≤ 1099511627776 - count ∧ (recs.length : Int) ≤ count
      · obtain ⟨d1, d2, d3, d4⟩ := hc
        have HH : Hid (Cr.good ⟨base, count, prod, seq, time, recs⟩ = Cr.goodRecs (base + count) base recs) := by
          rw [Hid, HG2.out, decide_eq_true d1, decide_eq_true d2, decide_eq_true d3, decide_eq_true d4]
          rfl
        have HZr : Hid (Recs wr (.slice a recs.length cap) recs) := HZ.out.kept BW.out
        clear HG2 HZ HB B1 HF
        generalize wr = w3 at *
        go_wp2_with fail
        go_loopw [55, 5] (fun i nx w4 => ∃ (k : Nat) (n : Int), i = .int .i64 k ∧ nx = .int .i64 n ∧ k ≤ recs.length ∧ Cr.goodRecs (base + count) base recs = Cr.goodRecs (base + count) n (recs.drop k) ∧ Below w3.heap.size w3 w4) (fun i _ _ => recs.length - (intOf i).toNat)
        case atStart => exact ⟨0, base, rfl, rfl, by omega, rfl, Below.refl _ _⟩
        case round =>
          obtain ⟨k, n, rfl, rfl, hk2, hr, hb2⟩ := hrel
          have HR2 := Lib.hid hr
          have B2 := Lib.hid hb2
          have BW2 : Hid (Below w.heap.size w wr) := bt BW.out B2.out
          clear hr hb2
          by_cases hlt : k < recs.length
          · obtain ⟨x, hx⟩ : ∃ x, recs[k]? = some x := ⟨recs[k], by simp [hlt]⟩
            have hxo := HR.out x (List.mem_of_getElem? hx)
            have HS := Lib.hid (goodRecs_step (base + count) n recs k x hx)
            obtain ⟨a', cap', he, hcells⟩ := HZr.out
            injection he with he1 he2 he3
            subst he1 he3
            obtain ⟨g, off, rfl, hg, q0, q1, q2, q3⟩ := hcells k x hx
            have p0 := (B2.out.cell (p := ⟨g, off + k * 4, none⟩) hg).trans q0
            have p1 := (B2.out.cell (p := ⟨g, off + k * 4 + 1, none⟩) hg).trans q1
            have p2 := (B2.out.cell (p := ⟨g, off + k * 4 + 2, none⟩) hg).trans q2
            have p3 := (B2.out.cell (p := ⟨g, off + k * 4 + 3, none⟩) hg).trans q3
            obtain ⟨x0, xk, xv, xg⟩ := x
            obtain ⟨⟨xo1, xo2⟩, xkl, xvl⟩ := hxo
            simp only at p0 p1 p2 p3 xo1 xo2 xkl xvl
            clear q0 q1 q2 q3 hcells he2
            have BA : Hid (Below w.heap.size w (wr.alloc (.cells #[.int .i64 x0, .string ⟨xk.toArray⟩, .string ⟨xv.toArray⟩, .bool xg] 67))) := BW2.out.alloc BW2.out.size _
            have B2A : Hid (Below w3.heap.size w3 (wr.alloc (.cells #[.int .i64 x0, .string ⟨xk.toArray⟩, .string ⟨xv.toArray⟩, .bool xg] 67))) := B2.out.alloc B2.out.size _
            have HCX := Lib.hid (rec_cells wr ⟨x0, xk, xv, xg⟩)
            have HN := Lib.hid (fun w => isRec_any ⟨x0, xk, xv, xg⟩ ⟨⟨xo1, xo2⟩, xkl, xvl⟩ w)
            have hHS : Cr.goodRecs (base + count) n (recs.drop k) = (Cr.isRec ⟨x0, xk, xv, xg⟩ && (decide (n ≤ x0) && (decide (x0 < base + count) && Cr.goodRecs (base + count) (x0 + 1) (recs.drop (k + 1))))) := HS.out
            by_cases hok : Cr.isRec ⟨x0, xk, xv, xg⟩ = true ∧ n ≤ x0 ∧ x0 < base + count
            · obtain ⟨k1, k2, k3⟩ := hok
              have HX : Hid (Cr.goodRecs (base + count) base recs = Cr.goodRecs (base + count) (x0 + 1) (recs.drop (k + 1))) := by
                rw [Hid, HR2.out, hHS, k1, decide_eq_true k2, decide_eq_true k3]
                rfl
              rw [k1] at HN
              clear hHS HS k1
              go_wp2_with fail
              refine (HN.out _).mono ?_
              rintro e w6 ⟨rfl, hb6⟩
              have B6 : Hid (Below w3.heap.size w3 w6) := bt B2A.out hb6
              obtain ⟨t0, t1, t2, t3⟩ := HCX.out _ hb6
              obtain ⟨e0, e1, _, _, _, e5⟩ := HC.out _ (bt HBB.out B6.out)
              try dsimp only at t0 e0 e1
              clear hb6
              go_wp2
              go_roundw
              case rel => exact ⟨k + 1, x0 + 1, by go_num, by go_num, by omega, HX.out, B6.out⟩
              case measure => simp [intOf]; omega
            · have HX : Hid (Cr.good ⟨base, count, prod, seq, time, recs⟩ = false) := by
                rw [Hid, HH.out, HR2.out, hHS]
                cases h : (Cr.isRec ⟨x0, xk, xv, xg⟩ && (decide (n ≤ x0) && (decide (x0 < base + count) && Cr.goodRecs (base + count) (x0 + 1) (recs.drop (k + 1))))) with
                | false => rfl
                | true =>
                  simp only [Bool.and_eq_true, decide_eq_true_eq] at h
                  exact absurd ⟨h.1, h.2.1, h.2.2.1⟩ hok
              clear hHS HS
              cases hb : Cr.isRec ⟨x0, xk, xv, xg⟩ with
              | false =>
                rw [hb] at HN
                clear hb hok
                go_wp2_with fail
                refine (HN.out _).mono ?_
                rintro e w6 ⟨rfl, hb6⟩
                have B6 : Hid (Below w.heap.size w w6) := bt BA.out hb6
                obtain ⟨t0, t1, t2, t3⟩ := HCX.out _ hb6
                obtain ⟨e0, e1, _, _, _, e5⟩ := HC.out _ (bt HBB.out (bt B2A.out hb6))
                try dsimp only at t0 e0 e1
                clear hb6
                go_wp2
                go_ret
                exact ⟨by rw [HX.out]; rfl, B6.out⟩
              | true =>
                rw [hb] at HN
                by_cases hn : n ≤ x0
                · have hn2 : ¬ x0 < base + count := fun h => hok ⟨hb, hn, h⟩
                  clear hb hok
                  go_wp2_with fail
                  refine (HN.out _).mono ?_
                  rintro e w6 ⟨rfl, hb6⟩
                  have B6 : Hid (Below w.heap.size w w6) := bt BA.out hb6
                  obtain ⟨t0, t1, t2, t3⟩ := HCX.out _ hb6
                  obtain ⟨e0, e1, _, _, _, e5⟩ := HC.out _ (bt HBB.out (bt B2A.out hb6))
                  try dsimp only at t0 e0 e1
                  clear hb6
                  go_wp2
                  go_ret
                  exact ⟨by rw [HX.out]; rfl, B6.out⟩
                · clear hb hok
                  go_wp2_with fail
                  refine (HN.out _).mono ?_
                  rintro e w6 ⟨rfl, hb6⟩
                  have B6 : Hid (Below w.heap.size w w6) := bt BA.out hb6
                  obtain ⟨t0, t1, t2, t3⟩ := HCX.out _ hb6
                  obtain ⟨e0, e1, _, _, _, e5⟩ := HC.out _ (bt HBB.out (bt B2A.out hb6))
                  try dsimp only at t0 e0 e1
                  clear hb6
                  go_wp2
                  go_ret
                  exact ⟨by rw [HX.out]; rfl, B6.out⟩
          · obtain rfl : k = recs.length := by omega
            have HX : Hid (Cr.good ⟨base, count, prod, seq, time, recs⟩ = true) := by
              rw [Hid, HH.out, HR2.out, List.drop_length]
              rfl
            go_wp2
            go_ret
            exact ⟨by rw [HX.out]; rfl, BW2.out⟩
      · have HX : Hid (Cr.good ⟨base, count, prod, seq, time, recs⟩ = false) := by
          rw [Hid, HG2.out]
          by_cases e1 : 1 ≤ count
          · by_cases e2 : count ≤ 8
            · by_cases e3 : base ≤ 1099511627776 - count
              · rw [decide_eq_false (p := (recs.length : Int) ≤ count) (fun e4 => hc ⟨e1, e2, e3, e4⟩)]; simp
              · rw [decide_eq_false e3]; simp
            · rw [decide_eq_false e2]; simp
          · rw [decide_eq_false e1]; rfl
        go_wp2
        all_goals first
          | (exfalso; omega)
          | (go_ret; exact ⟨by rw [HX.out]; rfl, BW.out⟩)

end Go.Proofs.YtbljbdjmgogknaaGreatDoor
/-
  Crate: Fits, walked, with the library's functions under it; the document's num, rec, Fits.
  Conditions: none.
-/
set_option linter.unusedVariables false
set_option linter.unusedSimpArgs false
namespace Go.Proofs.YtbljbdjmgogknaaGreatDoor
open Go.RowKit

/-- A record's cells, in a later world. -/
theorem Recs.get {w w' : World} {v : Value} {l : List Cr.Rec} (h : Recs w v l) (hb : Below w.heap.size w w') {k : Nat} {x : Cr.Rec} (hk : l[k]? = some x) : ∃ g off cap, v = .slice (some ⟨g, off, none⟩) l.length cap ∧ g < w.heap.size ∧
    w'.cell? ⟨g, off + k * 4, none⟩ = some (.int .i64 x.off) ∧ w'.cell? ⟨g, off + k * 4 + 1, none⟩ = some (.string ⟨x.key.toArray⟩) ∧ w'.cell? ⟨g, off + k * 4 + 2, none⟩ = some (.string ⟨x.val.toArray⟩) ∧ w'.cell? ⟨g, off + k * 4 + 3, none⟩ = some (.bool x.gone) := by
  obtain ⟨a, cap, rfl, hc⟩ := h
  obtain ⟨g, off, rfl, hg, h1, h2, h3, h4⟩ := hc k x hk
  exact ⟨g, off, cap, rfl, hg, (hb.cell (p := ⟨g, off + k * 4, none⟩) hg).trans h1, (hb.cell (p := ⟨g, off + k * 4 + 1, none⟩) hg).trans h2, (hb.cell (p := ⟨g, off + k * 4 + 2, none⟩) hg).trans h3, (hb.cell (p := ⟨g, off + k * 4 + 3, none⟩) hg).trans h4⟩
theorem Recs.form {w : World} {v : Value} {l : List Cr.Rec} (h : Recs w v l) : ∃ a cap, v = .slice a l.length cap := by
  obtain ⟨a, cap, rfl, _⟩ := h
  exact ⟨a, cap, rfl⟩
/-- The first record that cannot be. -/
def idxBad : Nat → List Cr.Rec → Int
  | _, [] => -1
  | k, x :: r => if Cr.isRec x then idxBad (k + 1) r else k
theorem idxBad_step (l : List Cr.Rec) (k : Nat) (x : Cr.Rec) (h : l[k]? = some x) : idxBad k (l.drop k) = if Cr.isRec x then idxBad (k + 1) (l.drop (k + 1)) else k := by
  obtain ⟨hk, rfl⟩ := List.getElem?_eq_some_iff.1 h
  rw [List.drop_eq_getElem_cons hk]
  rfl
theorem idxBad_all (l : List Cr.Rec) : ∀ k, decide (0 ≤ idxBad k l) = !l.all Cr.isRec ∧ -1 ≤ idxBad k l ∧ idxBad k l ≤ k + l.length := by
  induction l with
  | nil => intro k; simp [idxBad]
  | cons x r ih =>
    intro k
    cases h : Cr.isRec x with
    | true =>
      obtain ⟨h1, h2, h3⟩ := ih (k + 1)
      simp only [idxBad, h, if_true, List.all_cons, Bool.true_and, List.length_cons]
      exact ⟨h1, h2, by omega⟩
    | false =>
      simp [idxBad, h]
      omega
theorem all_step (l : List Cr.Rec) (k : Nat) (x : Cr.Rec) (h : l[k]? = some x) : (l.drop k).all Cr.isRec = (Cr.isRec x && (l.drop (k + 1)).all Cr.isRec) := by
  obtain ⟨hk, rfl⟩ := List.getElem?_eq_some_iff.1 h
  rw [List.drop_eq_getElem_cons hk]
  rfl
theorem fits1_any (x : Cr.Rec) (hx : RecOk x) (w : World) : Calls Tryz.prog 126 #[recV x] w fun e w' => e = .returned (.bool (!Cr.isRec x)) ∧ Below w.heap.size w w' := by
  have HN := Lib.hid (fun w => isRec_any x hx w)
  obtain ⟨t0, t1, t2, t3⟩ := rec_cells w x _ (Below.refl _ _)
  obtain ⟨x0, xk, xv, xg⟩ := x
  have HB0 : Hid (Below w.heap.size w (w.alloc (.cells #[.int .i64 x0, .string ⟨xk.toArray⟩, .string ⟨xv.toArray⟩, .bool xg] 67))) := (Below.refl _ _).alloc (Nat.le_refl _) _
  generalize Cr.isRec ⟨x0, xk, xv, xg⟩ = r at HN
  clear hx
  unfold recV at *
  dsimp only at *
  go_enter Tryz.func126, Tryz.ntmps126
  go_wp2_with fail
  refine (HN.out _).mono ?_
  rintro e w1 ⟨rfl, hb⟩
  have HB := Lib.hid (bt HB0.out hb)
  clear hb
  go_wp2
  go_ret
  exact ⟨rfl, HB.out⟩
set_option maxHeartbeats 800000 in
theorem idx_any (l : List Cr.Rec) (hok : ∀ x ∈ l, RecOk x) (hl : l.length ≤ maxLen) (rv : Value) (w : World) (h : Recs w rv l) :
    Calls Tryz.prog 125 #[rv, .func (.func 126) #[] #[]] w fun e w' => e = .returned (.int .i64 (idxBad 0 l)) ∧ Below w.heap.size w w' := by
  have HZ := Lib.hid h
  have HR := Lib.hid hok
  obtain ⟨a, cap, rfl⟩ := h.form
  unfold maxLen at hl
  clear h hok
  go_enter Tryz.func125, Tryz.ntmps125
  go_wp2
  go_loopw [8] (fun i wr => ∃ k : Nat, i = .int .i64 k ∧ k ≤ l.length ∧ idxBad 0 l = idxBad k (l.drop k) ∧ Below w.heap.size w wr) (fun i _ => l.length - (intOf i).toNat)
  case atStart => exact ⟨0, rfl, by omega, rfl, Below.refl _ _⟩
  case round =>
    obtain ⟨k, rfl, hk, hr, hb⟩ := hrel
    have HR2 := Lib.hid hr
    have HB := Lib.hid hb
    clear hr hb
    by_cases hlt : k < l.length
    · obtain ⟨x, hx⟩ : ∃ x, l[k]? = some x := ⟨l[k], by simp [hlt]⟩
      have HN := Lib.hid (fun w => fits1_any x (HR.out x (List.mem_of_getElem? hx)) w)
      have HS := Lib.hid (idxBad_step l k x hx)
      obtain ⟨g, off, cap', he, hg, p0, p1, p2, p3⟩ := HZ.out.get HB.out hx
      injection he with he1 he2 he3
      subst he1 he3
      obtain ⟨x0, xk, xv, xg⟩ := x
      unfold recV at HN
      dsimp only at *
      clear he2
      cases hb : Cr.isRec ⟨x0, xk, xv, xg⟩ with
      | true =>
        have HX : Hid (idxBad 0 l = idxBad (k + 1) (l.drop (k + 1))) := by rw [Hid, HR2.out, HS.out, hb]; rfl
        rw [hb] at HN
        clear HS hb
        go_wp2_with fail
        refine (HN.out _).mono ?_
        rintro e w5 ⟨rfl, hb5⟩
        have B5 := Lib.hid (bt HB.out hb5)
        clear hb5
        go_wp2
        go_roundw
        case rel => exact ⟨k + 1, by go_num, by omega, HX.out, B5.out⟩
        case measure => simp [intOf]; omega
      | false =>
        have HX : Hid (idxBad 0 l = k) := by rw [Hid, HR2.out, HS.out, hb]; rfl
        rw [hb] at HN
        clear HS hb
        go_wp2_with fail
        refine (HN.out _).mono ?_
        rintro e w5 ⟨rfl, hb5⟩
        have B5 := Lib.hid (bt HB.out hb5)
        clear hb5
        go_wp2
        go_ret
        exact ⟨by rw [HX.out]; rfl, B5.out⟩
    · obtain rfl : k = l.length := by omega
      have HX : Hid (idxBad 0 l = -1) := by rw [Hid, HR2.out, List.drop_length]; rfl
      go_wp2
      go_ret
      exact ⟨by rw [HX.out]; rfl, HB.out⟩
theorem contains_any (l : List Cr.Rec) (hok : ∀ x ∈ l, RecOk x) (hl : l.length ≤ maxLen) (rv : Value) (w : World) (h : Recs w rv l) :
    Calls Tryz.prog 101 #[rv, .func (.func 126) #[] #[]] w fun e w' => e = .returned (.bool (!l.all Cr.isRec)) ∧ Below w.heap.size w w' := by
  have HI := Lib.hid (idx_any l hok hl rv w h)
  obtain ⟨h1, h2, h3⟩ := idxBad_all l 0
  have H1 := Lib.hid h1
  unfold maxLen at hl
  clear h hok h1
  generalize idxBad 0 l = n at *
  go_enter Tryz.func101, Tryz.ntmps101
  go_wp2_with fail
  refine HI.out.mono ?_
  rintro e w1 ⟨rfl, hb⟩
  have HB := Lib.hid hb
  clear hb
  go_wp2
  go_ret
  refine ⟨?_, HB.out⟩
  rw [← H1.out]
  rfl
theorem fits_any (l : List Cr.Rec) (hok : ∀ x ∈ l, RecOk x) (hl : l.length ≤ maxLen) (rv : Value) (w : World) (h : Recs w rv l) :
    Calls Tryz.prog 103 #[rv] w fun e w' => e = .returned (.bool (Cr.fits l)) ∧ Below w.heap.size w w' := by
  have HI := Lib.hid (contains_any l hok hl rv w h)
  have HE : Hid (Cr.fits l = (decide (1 ≤ l.length) && (decide (l.length ≤ 8) && l.all Cr.isRec))) := rfl
  obtain ⟨a, cap, rfl⟩ := h.form
  unfold maxLen at hl
  clear h hok
  by_cases h1 : 1 ≤ l.length
  · by_cases h2 : l.length ≤ 8
    · have HX : Hid (Cr.fits l = l.all Cr.isRec) := by rw [Hid, HE.out, decide_eq_true h1, decide_eq_true h2]; rfl
      generalize l.all Cr.isRec = r at HI HX
      generalize l.length = n at *
      go_enter Tryz.func103, Tryz.ntmps103
      go_wp2_with fail
      refine HI.out.mono ?_
      rintro e w1 ⟨rfl, hb⟩
      have HB := Lib.hid hb
      clear hb
      go_wp2
      go_ret
      exact ⟨by rw [HX.out]; simp, HB.out⟩
    · have HX : Hid (Cr.fits l = false) := by rw [Hid, HE.out, decide_eq_false h2]; simp
      generalize l.length = n at *
      go_enter Tryz.func103, Tryz.ntmps103
      go_wp2
      go_ret
      exact ⟨by rw [HX.out]; simp, Below.refl _ _⟩
  · have HX : Hid (Cr.fits l = false) := by rw [Hid, HE.out, decide_eq_false h1]; simp
    obtain rfl : l = [] := List.eq_nil_of_length_eq_zero (by omega)
    go_enter Tryz.func103, Tryz.ntmps103
    go_wp2
    go_ret
    exact ⟨by rw [HX.out]; simp, Below.refl _ _⟩

end Go.Proofs.YtbljbdjmgogknaaGreatDoor
/-
  Crate: Same, walked, with the library's Equal under it; the document's Same.
  Conditions: none.
-/
set_option linter.unusedVariables false
set_option linter.unusedSimpArgs false
namespace Go.Proofs.YtbljbdjmgogknaaGreatDoor
open Go.RowKit

set_option maxHeartbeats 800000 in
theorem rec_neq (x0 y0 : Int) (xk yk xv yv : List UInt8) (xg yg : Bool) (w : World) :
    (binOp .neq 67 (.agg #[.int .i64 x0, .string ⟨xk.toArray⟩, .string ⟨xv.toArray⟩, .bool xg]) (.agg #[.int .i64 y0, .string ⟨yk.toArray⟩, .string ⟨yv.toArray⟩, .bool yg])).run Tryz.prog w = .ok (.bool (!Cr.recEq ⟨x0, xk, xv, xg⟩ ⟨y0, yk, yv, yg⟩)) w := by
  have hS : Tryz.prog.underlying 67 = some (.struct (Tryz.prog.fieldsOf 67)) := by kernel_rfl
  have hp : Tryz.prog.stoodInHeld 67 = false := by kernel_rfl
  rw [run_neq_struct, show (10000 : Nat) = 9999 + 1 from rfl, run_equalIn_agg w 9999 67 _ _ hS hp]
  simp only [Program.fieldsOf, Tryz.underlying67]
  have u1 := Tryz.underlying3
  have u2 := Tryz.underlying9
  have u3 := Tryz.underlying4
  have a1 := Tryz.isAgg3
  have a2 := Tryz.isAgg9
  have a3 := Tryz.isAgg4
  have z1 := Tryz.sizeOf3
  have z2 := Tryz.sizeOf9
  have z3 := Tryz.sizeOf4
  go_simp

  unfold Cr.recEq
  by_cases h1 : x0 = y0 <;> by_cases h2 : xk = yk <;> by_cases h3 : xv = yv <;> by_cases h4 : xg = yg <;> simp [h1, h2, h3, h4]
theorem recsEq_len {l r : List Cr.Rec} (h : l.length ≠ r.length) : Cr.recsEq l r = false := by
  cases hc : Cr.recsEq l r with
  | false => rfl
  | true => exact absurd (congrArg List.length (Cr.recsEq_iff.1 hc)) h
theorem recsEq_step {l r : List Cr.Rec} {k : Nat} {x y : Cr.Rec} (hx : l[k]? = some x) (hy : r[k]? = some y) : Cr.recsEq (l.drop k) (r.drop k) = (Cr.recEq x y && Cr.recsEq (l.drop (k + 1)) (r.drop (k + 1))) := by
  obtain ⟨hk, rfl⟩ := List.getElem?_eq_some_iff.1 hx
  obtain ⟨hk2, rfl⟩ := List.getElem?_eq_some_iff.1 hy
  rw [List.drop_eq_getElem_cons hk, List.drop_eq_getElem_cons hk2]
  rfl
set_option maxHeartbeats 800000 in
theorem equal_any (l r : List Cr.Rec) (hl : l.length ≤ maxLen) (hr : r.length ≤ maxLen) (lv rv : Value) (w : World) (h1 : Recs w lv l) (h2 : Recs w rv r) :
    Calls Tryz.prog 64 #[lv, rv] w fun e w' => e = .returned (.bool (Cr.recsEq l r)) ∧ Below w.heap.size w w' := by
  have H1 := Lib.hid h1
  have H2 := Lib.hid h2
  obtain ⟨a1, cap1, rfl⟩ := h1.form
  obtain ⟨a2, cap2, rfl⟩ := h2.form
  unfold maxLen at hl hr
  clear h1 h2
  by_cases hlen : l.length = r.length
  · go_enter Tryz.func64, Tryz.ntmps64
    go_wp2
    go_loopw [13] (fun i wr => ∃ k : Nat, i = .int .i64 k ∧ k ≤ l.length ∧ Cr.recsEq l r = Cr.recsEq (l.drop k) (r.drop k) ∧ Below w.heap.size w wr) (fun i _ => l.length - (intOf i).toNat)
    case atStart => exact ⟨0, rfl, by omega, rfl, Below.refl _ _⟩
    case round =>
      obtain ⟨k, rfl, hk, hq, hb⟩ := hrel
      have HQ := Lib.hid hq
      have HB := Lib.hid hb
      clear hq hb
      by_cases hlt : k < l.length
      · obtain ⟨x, hx⟩ : ∃ x, l[k]? = some x := ⟨l[k], by simp [hlt]⟩
        obtain ⟨y, hy⟩ : ∃ y, r[k]? = some y := ⟨r[k]'(by omega), by simp [← hlen, hlt]⟩
        have HS := Lib.hid (recsEq_step hx hy)
        obtain ⟨g, off, cap', he, hg, p0, p1, p2, p3⟩ := H1.out.get HB.out hx
        injection he with he1 he2 he3
        subst he1 he3
        obtain ⟨g2, off2, cap2', he', hg2, s0, s1, s2, s3⟩ := H2.out.get HB.out hy
        injection he' with he1' he2' he3'
        subst he1' he3'
        obtain ⟨x0, xk, xv, xg⟩ := x
        obtain ⟨y0, yk, yv, yg⟩ := y
        dsimp only at *
        clear he2 he2'
        have hn := fun w => rec_neq x0 y0 xk yk xv yv xg yg w
        have hk2 : k < r.length := by omega
        cases hb : Cr.recEq ⟨x0, xk, xv, xg⟩ ⟨y0, yk, yv, yg⟩ with
        | true =>
          have HX : Hid (Cr.recsEq l r = Cr.recsEq (l.drop (k + 1)) (r.drop (k + 1))) := by rw [Hid, HQ.out, HS.out, hb]; rfl
          simp only [hb, Bool.not_true] at hn
          clear HS hb
          go_wp2
          go_quiet (fail)
          have BQ : Hid (Below w.heap.size w (wr.drewN nq)) := below_drewN HB.out nq
          go_wp2
          go_roundw
          case rel => exact ⟨k + 1, by go_num, by omega, HX.out, BQ.out⟩
          case measure => simp [intOf]; omega
        | false =>
          have HX : Hid (Cr.recsEq l r = false) := by rw [Hid, HQ.out, HS.out, hb]; rfl
          simp only [hb, Bool.not_false] at hn
          clear HS hb
          go_wp2
          go_quiet (fail)
          have BQ : Hid (Below w.heap.size w (wr.drewN nq)) := below_drewN HB.out nq
          go_wp2
          go_ret
          exact ⟨by rw [HX.out]; rfl, BQ.out⟩
      · obtain rfl : k = l.length := by omega
        have HX : Hid (Cr.recsEq l r = true) := by rw [Hid, HQ.out, List.drop_length, hlen, List.drop_length]; rfl
        go_wp2
        go_ret
        exact ⟨by rw [HX.out]; rfl, HB.out⟩
  · have HX := Lib.hid (recsEq_len hlen)
    go_enter Tryz.func64, Tryz.ntmps64
    go_wp2
    go_ret
    exact ⟨by rw [HX.out]; rfl, Below.refl _ _⟩

set_option maxRecDepth 20000 in
set_option maxHeartbeats 3200000 in
theorem same_any (a b : Cr.Batch) (ha : BatOk a) (hb : BatOk b) (av bv : Value) (w : World) (h1 : Recs w av a.recs) (h2 : Recs w bv b.recs) :
    Calls Tryz.prog 40 #[batV a av, batV b bv] w fun e w' => e = .returned (.bool (Cr.same a b)) ∧ Below w.heap.size w w' := by
  have H1 := Lib.hid h1
  have H2 := Lib.hid h2
  obtain ⟨aa, acap, rfl⟩ := h1.form
  obtain ⟨ba, bcap, rfl⟩ := h2.form
  have hla := ha.2.2.2.2.2.1
  have hlb := hb.2.2.2.2.2.1
  have hra := ha.2.2.2.2.2.2
  have hrb := hb.2.2.2.2.2.2
  obtain ⟨a0, a1, a2, a3, a4, al⟩ := a
  obtain ⟨b0, b1, b2, b3, b4, bl⟩ := b
  dsimp only at *
  have B1 : Hid (Below w.heap.size w (w.alloc (.cells #[.int .i64 a0, .int .i64 a1, .int .i64 a2, .int .i64 a3, .int .i64 a4, .slice aa al.length acap] 36))) := (Below.refl _ _).alloc (Nat.le_refl _) _
  have hsz : (w.alloc (.cells #[.int .i64 a0, .int .i64 a1, .int .i64 a2, .int .i64 a3, .int .i64 a4, .slice aa al.length acap] 36)).heap.size = w.heap.size + 1 := World.size_alloc _ _
  have C1 := Lib.hid (bat_cells w ⟨a0, a1, a2, a3, a4, al⟩ (.slice aa al.length acap))
  have hw1 : w.alloc (.cells #[.int .i64 a0, .int .i64 a1, .int .i64 a2, .int .i64 a3, .int .i64 a4, .slice aa al.length acap] 36) = w.alloc (.cells (batCells ⟨a0, a1, a2, a3, a4, al⟩ (.slice aa al.length acap)) 36) := rfl
  have HW1 := Lib.hid hw1
  have B2 : Hid (Below (w.alloc (.cells #[.int .i64 a0, .int .i64 a1, .int .i64 a2, .int .i64 a3, .int .i64 a4, .slice aa al.length acap] 36)).heap.size (w.alloc (.cells #[.int .i64 a0, .int .i64 a1, .int .i64 a2, .int .i64 a3, .int .i64 a4, .slice aa al.length acap] 36)) ((w.alloc (.cells #[.int .i64 a0, .int .i64 a1, .int .i64 a2, .int .i64 a3, .int .i64 a4, .slice aa al.length acap] 36)).alloc (.cells #[.int .i64 b0, .int .i64 b1, .int .i64 b2, .int .i64 b3, .int .i64 b4, .slice ba bl.length bcap] 36))) := (Below.refl _ _).alloc (Nat.le_refl _) _
  have C2 := Lib.hid (bat_cells (w.alloc (.cells #[.int .i64 a0, .int .i64 a1, .int .i64 a2, .int .i64 a3, .int .i64 a4, .slice aa al.length acap] 36)) ⟨b0, b1, b2, b3, b4, bl⟩ (.slice ba bl.length bcap))
  have HE : Hid (Cr.same ⟨a0, a1, a2, a3, a4, al⟩ ⟨b0, b1, b2, b3, b4, bl⟩ = (a0 == b0 && a1 == b1 && a2 == b2 && a3 == b3 && a4 == b4 && Cr.recsEq al bl)) := rfl
  unfold maxLen at hla hlb
  rw [← hw1] at C1
  clear hw1 HW1 ha hb h1 h2
  unfold batV
  dsimp only
  unfold batCells at C2
  dsimp only at C1 C2
  have hsz2 : ((w.alloc (.cells #[.int .i64 a0, .int .i64 a1, .int .i64 a2, .int .i64 a3, .int .i64 a4, .slice aa al.length acap] 36)).alloc (.cells #[.int .i64 b0, .int .i64 b1, .int .i64 b2, .int .i64 b3, .int .i64 b4, .slice ba bl.length bcap] 36)).heap.size = w.heap.size + 2 := by rw [World.size_alloc, hsz]
  obtain ⟨d0, d1, d2, d3, d4, d5⟩ := C2.out _ (Below.refl _ _)
  obtain ⟨c0, c1, c2, c3, c4, c5⟩ := C1.out _ B2.out
  rw [hsz] at d0 d1 d2 d3 d4 d5
  by_cases e0 : a0 = b0
  rotate_left
  · have HX : Hid (Cr.same ⟨a0, a1, a2, a3, a4, al⟩ ⟨b0, b1, b2, b3, b4, bl⟩ = false) := by
      rw [Hid, HE.out, show (a0 == b0) = false by simpa using e0]
      simp
    clear HE
    go_enter Tryz.func40, Tryz.ntmps40
    go_wp2
    go_ret
    exact ⟨by rw [HX.out]; rfl, bt B1.out B2.out⟩
  subst e0
  by_cases e1 : a1 = b1
  rotate_left
  · have HX : Hid (Cr.same ⟨a0, a1, a2, a3, a4, al⟩ ⟨a0, b1, b2, b3, b4, bl⟩ = false) := by
      rw [Hid, HE.out, show (a1 == b1) = false by simpa using e1]
      simp
    clear HE
    go_enter Tryz.func40, Tryz.ntmps40
    go_wp2
    go_ret
    exact ⟨by rw [HX.out]; rfl, bt B1.out B2.out⟩
  subst e1
  by_cases e2 : a2 = b2
  rotate_left
  · have HX : Hid (Cr.same ⟨a0, a1, a2, a3, a4, al⟩ ⟨a0, a1, b2, b3, b4, bl⟩ = false) := by
      rw [Hid, HE.out, show (a2 == b2) = false by simpa using e2]
      simp
    clear HE
    go_enter Tryz.func40, Tryz.ntmps40
    go_wp2
    go_ret
    exact ⟨by rw [HX.out]; rfl, bt B1.out B2.out⟩
  subst e2
  by_cases e3 : a3 = b3
  rotate_left
  · have HX : Hid (Cr.same ⟨a0, a1, a2, a3, a4, al⟩ ⟨a0, a1, a2, b3, b4, bl⟩ = false) := by
      rw [Hid, HE.out, show (a3 == b3) = false by simpa using e3]
      simp
    clear HE
    go_enter Tryz.func40, Tryz.ntmps40
    go_wp2
    go_ret
    exact ⟨by rw [HX.out]; rfl, bt B1.out B2.out⟩
  subst e3
  by_cases e4 : a4 = b4
  rotate_left
  · have HX : Hid (Cr.same ⟨a0, a1, a2, a3, a4, al⟩ ⟨a0, a1, a2, a3, b4, bl⟩ = false) := by
      rw [Hid, HE.out, show (a4 == b4) = false by simpa using e4]
      simp
    clear HE
    go_enter Tryz.func40, Tryz.ntmps40
    go_wp2
    go_ret
    exact ⟨by rw [HX.out]; rfl, bt B1.out B2.out⟩
  subst e4
  have HX : Hid (Cr.same ⟨a0, a1, a2, a3, a4, al⟩ ⟨a0, a1, a2, a3, a4, bl⟩ = Cr.recsEq al bl) := by
    rw [Hid, HE.out]
    simp
  have BB : Hid (Below w.heap.size w ((w.alloc (.cells #[.int .i64 a0, .int .i64 a1, .int .i64 a2, .int .i64 a3, .int .i64 a4, .slice aa al.length acap] 36)).alloc (.cells #[.int .i64 a0, .int .i64 a1, .int .i64 a2, .int .i64 a3, .int .i64 a4, .slice ba bl.length bcap] 36))) := bt B1.out B2.out
  have HQ := Lib.hid (equal_any al bl hla hlb _ _ _ (H1.out.kept BB.out) (H2.out.kept BB.out))
  clear HE
  go_enter Tryz.func40, Tryz.ntmps40
  go_wp2_with fail
  refine HQ.out.mono ?_
  rintro e w5 ⟨rfl, hb5⟩
  have B5 := Lib.hid (bt BB.out hb5)
  clear hb5
  go_wp2
  go_ret
  exact ⟨by rw [HX.out]; rfl, B5.out⟩

end Go.Proofs.YtbljbdjmgogknaaGreatDoor
/-
  A block of cells, told whole: read, stored into, kept; a row of the call's own stored into at any cell. No program in sight.
  Conditions: none.
-/
set_option linter.unusedVariables false
set_option linter.unusedSimpArgs false
namespace Go.Proofs.YtbljbdjmgogknaaGreatDoor
open Go.RowKit

/-- A block's cells. -/
def Cl (w : World) (g : Nat) (cs : List Value) (t : TypeId) : Prop := w.heap[g]? = some (.cells cs.toArray t (0, 0))
theorem Cl.cell {w : World} {g : Nat} {cs : List Value} {t : TypeId} (h : Cl w g cs t) (k : Nat) : w.cell? ⟨g, k, none⟩ = cs[k]? := by
  unfold Cl at h
  simp [World.cell?, h]
theorem Cl.free {w : World} {g : Nat} {cs : List Value} {t : TypeId} (h : Cl w g cs t) (k : Nat) : w.frozen? ⟨g, k, none⟩ = false := by
  unfold Cl at h
  simp [World.frozen?, h]
theorem Cl.lt {w : World} {g : Nat} {cs : List Value} {t : TypeId} (h : Cl w g cs t) : g < w.heap.size := (Array.getElem?_eq_some_iff.1 h).1
theorem Cl.new (w : World) (cs : List Value) (t : TypeId) : Cl (w.alloc (.cells cs.toArray t)) w.heap.size cs t := heap_alloc_new w _
theorem Cl.set {w : World} {g : Nat} {cs : List Value} {t : TypeId} (h : Cl w g cs t) (k : Nat) (u : Value) : Cl (w.setCell ⟨g, k, none⟩ u) g (cs.set k u) t := by
  unfold Cl at h ⊢
  simp [World.setCell, Array.getElem?_modify, h]
theorem Cl.other {w : World} {g : Nat} {cs : List Value} {t : TypeId} (h : Cl w g cs t) (p : Addr) (u : Value) (hp : p.block ≠ g) : Cl (w.setCell p u) g cs t := (Below.heap_setCell _ _ _ _ (fun e => hp e.symm)).trans h
theorem Cl.keep {S : Nat → Prop} {w w' : World} {g : Nat} {cs : List Value} {t : TypeId} (h : Cl w g cs t) (k : Keeps S w w') (hs : ¬ S g) : Cl w' g cs t := (k.block g h.lt hs).trans h
theorem Cl.below {w w' : World} {g : Nat} {cs : List Value} {t : TypeId} (h : Cl w g cs t) (hb : Below w.heap.size w w') : Cl w' g cs t := (hb.block g h.lt).trans h
theorem Cl.alloc {w : World} {g : Nat} {cs : List Value} {t : TypeId} (h : Cl w g cs t) (o : Obj) : Cl (w.alloc o) g cs t := (Below.heap_alloc w o g h.lt).trans h
theorem Cl.grown {w w' : World} {g : Nat} {cs : List Value} {t : TypeId} {row : Option Nat} (h : Cl w g cs t) (hg : w.grownBy w' row) (hne : some g ≠ row) : Cl w' g cs t := (hg.block g h.lt hne).trans h
theorem Cl.drewN {w : World} {g : Nat} {cs : List Value} {t : TypeId} (h : Cl w g cs t) (n : Nat) : Cl (w.drewN n) g cs t := h
theorem Cl.cell6 {w : World} {g : Nat} {a b c d e f : Value} {t : TypeId} (h : Cl w g [a, b, c, d, e, f] t) : w.cell? ⟨g, 0, none⟩ = some a ∧ w.cell? ⟨g, 1, none⟩ = some b ∧ w.cell? ⟨g, 2, none⟩ = some c ∧ w.cell? ⟨g, 3, none⟩ = some d ∧ w.cell? ⟨g, 4, none⟩ = some e ∧ w.cell? ⟨g, 5, none⟩ = some f :=
  ⟨h.cell 0, h.cell 1, h.cell 2, h.cell 3, h.cell 4, h.cell 5⟩
theorem Cl.free6 {w : World} {g : Nat} {cs : List Value} {t : TypeId} (h : Cl w g cs t) : w.frozen? ⟨g, 0, none⟩ = false ∧ w.frozen? ⟨g, 1, none⟩ = false ∧ w.frozen? ⟨g, 2, none⟩ = false ∧ w.frozen? ⟨g, 3, none⟩ = false ∧ w.frozen? ⟨g, 4, none⟩ = false ∧ w.frozen? ⟨g, 5, none⟩ = false :=
  ⟨h.free 0, h.free 1, h.free 2, h.free 3, h.free 4, h.free 5⟩
theorem Cl.cell4 {w : World} {g : Nat} {a b c d : Value} {t : TypeId} (h : Cl w g [a, b, c, d] t) : w.cell? ⟨g, 0, none⟩ = some a ∧ w.cell? ⟨g, 1, none⟩ = some b ∧ w.cell? ⟨g, 2, none⟩ = some c ∧ w.cell? ⟨g, 3, none⟩ = some d :=
  ⟨h.cell 0, h.cell 1, h.cell 2, h.cell 3⟩
theorem Sl.setc {w : World} {B size : Nat} {v : Value} {n : Nat} {xs : List Value} (h : Sl w B size v n xs) (k : Nat) (hk : k < n * size) (u : Value) :
    ∃ g off cap u0, v = .slice (some ⟨g, off, none⟩) n cap ∧ B ≤ g ∧ w.cell? ⟨g, off + k, none⟩ = some u0 ∧ w.frozen? ⟨g, off + k, none⟩ = false ∧ Sl (w.setCell ⟨g, off + k, none⟩ u) B size v n (xs.set k u) := by
  obtain ⟨hlen, h2⟩ := h
  rcases h2 with ⟨_, rfl⟩ | ⟨g, off, cap, rfl, hB, hg, hn, hm, hr, ht⟩
  · rw [Nat.zero_mul] at hk; omega
  · have hth := ht k (Nat.lt_of_lt_of_le hk (Nat.mul_le_mul_right _ hn))
    obtain ⟨u0, hu0⟩ := Option.isSome_iff_exists.1 hth.1
    refine ⟨g, off, cap, u0, rfl, hB, hu0, hth.2, by rw [List.length_set]; exact hlen, .inr ⟨g, off, cap, rfl, hB, by simpa [World.setCell] using hg, hn, hm, ?_, ?_⟩⟩
    · intro j z hz
      rw [List.getElem?_set] at hz
      by_cases e : k = j
      · subst e
        rw [if_pos rfl, if_pos (by omega)] at hz
        injection hz with hz
        subst hz
        exact World.cell?_setCell_same _ _ _ hu0
      · rw [if_neg e] at hz
        rw [World.cell?_setCell_other _ _ _ _ (fun he => e (by injection he with _ he2; omega))]
        exact hr j z hz
    · exact World.there_setCells (vs := [u]) ht g (off + k)
theorem Sl.otherCell {w : World} {B size : Nat} {v : Value} {n : Nat} {xs : List Value} (h : Sl w B size v n xs) (p : Addr) (u : Value) (hp : v.ownBlock ≠ some p.block) : Sl (w.setCell p u) B size v n xs :=
  h.kept (S := fun k => k = p.block) (Keeps.setCell _ _ _ _ rfl) (fun k hk e => hp (e ▸ hk))

theorem results_cl_tmp {P : Program} {fn : Func} {p u : Tmp} {ty : TypeId} (h : fn.results = #[.cell p ty, .tmp u]) (tmps : Array Value) (w : World) (g : Nat) (t : TypeId) (cs : List Value) (d : TypeDesc) (hp : tmps.getD p undef = .pointer (some ⟨g, 0, none⟩)) (hg : Cl w g cs t)
    (hu : P.underlying ty = some d) (hd : (match d with | .struct _ | .array _ _ => true | _ => false) = true) (hi : (P.info? ty).map (·.size) = some cs.length) : (results fn tmps).run P w = .ok (.tuple #[.agg cs.toArray, tmps.getD u undef]) w := by
  rw [results_cell_tmp h, hp]
  simp [asAddr, run_loadVar_row w g t ty cs.toArray (0, 0) d hg hu hd (by simpa using hi)]
theorem Cl.src {w : World} {g : Nat} {cs : List Value} {t : TypeId} (h : Cl w g cs t) (size m c : Nat) (hl : cs.length = m * size) : SrcIs w size (.slice (some ⟨g, 0, none⟩) m c) m cs :=
  .inr ⟨_, c, rfl, hl, fun j u hu => by
    have e : (Addr.add ⟨g, 0, none⟩ j) = ⟨g, j, none⟩ := by
      unfold Addr.add
      split
      · subst_vars; rfl
      · simp
    rw [e, h.cell j]; exact hu⟩
theorem results_cl {P : Program} {fn : Func} {p : Tmp} {ty : TypeId} (h : fn.results = #[.cell p ty]) (tmps : Array Value) (w : World) (g : Nat) (t : TypeId) (cs : List Value) (d : TypeDesc) (hp : tmps.getD p undef = .pointer (some ⟨g, 0, none⟩)) (hg : Cl w g cs t)
    (hu : P.underlying ty = some d) (hd : (match d with | .struct _ | .array _ _ => true | _ => false) = true) (hi : (P.info? ty).map (·.size) = some cs.length) : (results fn tmps).run P w = .ok (.agg cs.toArray) w :=
  results_cell_row h tmps w g t cs.toArray (0, 0) d hp hg hu hd (by simpa using hi)

end Go.Proofs.YtbljbdjmgogknaaGreatDoor
/-
  Wire: rows of like things in memory; whether two are the same (printed by wip/gen/mkweq.py).
  Conditions: none but the model's longest length.
-/
set_option linter.unusedVariables false
set_option linter.unusedSimpArgs false
namespace Go.Proofs.YtbljbdjmgogknaaGreatDoor
open Go.RowKit

/-- A slice of like things: its cells. -/
def Rw {α : Type} (sz : Nat) (f : α → List Value) (w : World) (v : Value) (l : List α) : Prop :=
  ∃ a cap, v = .slice a l.length cap ∧ ∀ i x, l[i]? = some x → ∃ g off, a = some ⟨g, off, none⟩ ∧ g < w.heap.size ∧ ∀ j u, (f x)[j]? = some u → w.cell? ⟨g, off + i * sz + j, none⟩ = some u
theorem Rw.form {α : Type} {sz : Nat} {f : α → List Value} {w : World} {v : Value} {l : List α} (h : Rw sz f w v l) : ∃ a cap, v = .slice a l.length cap := by
  obtain ⟨a, cap, rfl, _⟩ := h
  exact ⟨a, cap, rfl⟩
theorem Rw.keep {α : Type} {sz : Nat} {f : α → List Value} {S : Nat → Prop} {w w' : World} {v : Value} {l : List α} (h : Rw sz f w v l) (k : Keeps S w w') (hs : ∀ j, v.ownBlock = some j → ¬ S j) : Rw sz f w' v l := by
  obtain ⟨a, cap, rfl, hc⟩ := h
  refine ⟨a, cap, rfl, fun i x hx => ?_⟩
  obtain ⟨g, off, rfl, hg, h0⟩ := hc i x hx
  exact ⟨g, off, rfl, Nat.lt_of_lt_of_le hg k.size, fun j u hu => (k.cell (a := ⟨g, off + i * sz + j, none⟩) hg (hs g rfl)).trans (h0 j u hu)⟩
theorem Rw.kept {α : Type} {sz : Nat} {f : α → List Value} {w w' : World} {v : Value} {l : List α} (h : Rw sz f w v l) (hb : Below w.heap.size w w') : Rw sz f w' v l := h.keep (Keeps.below (fun _ => False) hb) (fun _ _ => id)
theorem Rw.get {α : Type} {sz : Nat} {f : α → List Value} {w w' : World} {v : Value} {l : List α} (h : Rw sz f w v l) (hb : Below w.heap.size w w') {k : Nat} {x : α} (hk : l[k]? = some x) :
    ∃ g off cap, v = .slice (some ⟨g, off, none⟩) l.length cap ∧ g < w.heap.size ∧ ∀ j u, (f x)[j]? = some u → w'.cell? ⟨g, off + k * sz + j, none⟩ = some u := by
  obtain ⟨a, cap, rfl, hc⟩ := h
  obtain ⟨g, off, rfl, hg, h0⟩ := hc k x hk
  exact ⟨g, off, cap, rfl, hg, fun j u hu => (hb.cell (p := ⟨g, off + k * sz + j, none⟩) hg).trans (h0 j u hu)⟩
theorem Rw.nil {α : Type} (sz : Nat) (f : α → List Value) (w : World) : Rw sz f w (.slice none 0 0) [] := ⟨none, 0, rfl, fun i x hx => by simp at hx⟩
theorem Ints.form {w : World} {v : Value} {l : List Int} (h : Ints w v l) : ∃ a cap, v = .slice a l.length cap := by
  obtain ⟨a, cap, rfl, _⟩ := h
  exact ⟨a, cap, rfl⟩
theorem Ints.nil (w : World) : Ints w (.slice none 0 0) [] := ⟨none, 0, rfl, fun i hi => by simp at hi⟩
theorem Ints.get {w w' : World} {v : Value} {l : List Int} (h : Ints w v l) (hb : Below w.heap.size w w') {k : Nat} {x : Int} (hk : l[k]? = some x) :
    ∃ g off cap, v = .slice (some ⟨g, off, none⟩) l.length cap ∧ g < w.heap.size ∧ w'.cell? ⟨g, off + k, none⟩ = some (.int .i64 x) := by
  obtain ⟨a, cap, rfl, hc⟩ := h
  obtain ⟨hlt, rfl⟩ := List.getElem?_eq_some_iff.1 hk
  obtain ⟨g, off, rfl, hg, h0⟩ := hc k hlt
  exact ⟨g, off, cap, rfl, hg, (hb.cell (p := ⟨g, off + k, none⟩) hg).trans (by rw [h0]; simp [List.getD, hlt])⟩
theorem Ints.keep {S : Nat → Prop} {w w' : World} {v : Value} {l : List Int} (h : Ints w v l) (k : Keeps S w w') (hs : ∀ j, v.ownBlock = some j → ¬ S j) : Ints w' v l := by
  obtain ⟨a, cap, rfl, hc⟩ := h
  refine ⟨a, cap, rfl, fun i hi => ?_⟩
  obtain ⟨g, off, rfl, hg, h0⟩ := hc i hi
  exact ⟨g, off, rfl, Nat.lt_of_lt_of_le hg k.size, (k.cell (a := ⟨g, off + i, none⟩) hg (hs g rfl)).trans h0⟩
def lifeC (x : Int × Int) : List Value := [.int .i64 x.1, .int .i64 x.2]
def slotC (x : Wi.Slot) : List Value := [.int .i64 x.1, .int .i64 x.2.1, .int .i64 x.2.2]

set_option maxHeartbeats 800000 in
theorem life_neq (x0 x1 y0 y1 : Int) (w : World) :
    (binOp .neq 90 (.agg #[.int .i64 x0, .int .i64 x1]) (.agg #[.int .i64 y0, .int .i64 y1])).run Tryz.prog w = .ok (.bool (!decide ((x0, x1) = (y0, y1)))) w := by
  have hS : Tryz.prog.underlying 90 = some (.struct (Tryz.prog.fieldsOf 90)) := by kernel_rfl
  have hp : Tryz.prog.stoodInHeld 90 = false := by kernel_rfl
  rw [run_neq_struct, show (10000 : Nat) = 9999 + 1 from rfl, run_equalIn_agg w 9999 90 _ _ hS hp]
  simp only [Program.fieldsOf, Tryz.underlying90]
  have u1 := Tryz.underlying3
  have a1 := Tryz.isAgg3
  have z1 := Tryz.sizeOf3
  go_simp

  by_cases h0 : x0 = y0 <;> by_cases h1 : x1 = y1 <;> simp [h0, h1]
set_option maxHeartbeats 800000 in
theorem slot_neq (x0 x1 x2 y0 y1 y2 : Int) (w : World) :
    (binOp .neq 109 (.agg #[.int .i64 x0, .int .i64 x1, .int .i64 x2]) (.agg #[.int .i64 y0, .int .i64 y1, .int .i64 y2])).run Tryz.prog w = .ok (.bool (!decide ((x0, x1, x2) = (y0, y1, y2)))) w := by
  have hS : Tryz.prog.underlying 109 = some (.struct (Tryz.prog.fieldsOf 109)) := by kernel_rfl
  have hp : Tryz.prog.stoodInHeld 109 = false := by kernel_rfl
  rw [run_neq_struct, show (10000 : Nat) = 9999 + 1 from rfl, run_equalIn_agg w 9999 109 _ _ hS hp]
  simp only [Program.fieldsOf, Tryz.underlying109]
  have u1 := Tryz.underlying3
  have a1 := Tryz.isAgg3
  have z1 := Tryz.sizeOf3
  go_simp

  by_cases h0 : x0 = y0 <;> by_cases h1 : x1 = y1 <;> by_cases h2 : x2 = y2 <;> simp [h0, h1, h2]
set_option maxHeartbeats 1600000 in
theorem eqInts_any (l r : List Int) (hl : l.length ≤ maxLen) (hr : r.length ≤ maxLen) (lv rv : Value) (w : World) (h1 : Ints w lv l) (h2 : Ints w rv r) :
    Calls Tryz.prog 38 #[lv, rv] w fun e w' => e = .returned (.bool (decide (l = r))) ∧ Below w.heap.size w w' := by
  have H1 := Lib.hid h1
  have H2 := Lib.hid h2
  obtain ⟨a1, cap1, rfl⟩ := h1.form
  obtain ⟨a2, cap2, rfl⟩ := h2.form
  unfold maxLen at hl hr
  clear h1 h2
  by_cases hlen : l.length = r.length
  · go_enter Tryz.func38, Tryz.ntmps38
    go_wp2
    go_loopw [13] (fun i wr => ∃ k : Nat, i = .int .i64 k ∧ k ≤ l.length ∧ decide (l = r) = decide (l.drop k = r.drop k) ∧ Below w.heap.size w wr) (fun i _ => l.length - (intOf i).toNat)
    case atStart => exact ⟨0, rfl, by omega, rfl, Below.refl _ _⟩
    case round =>
      obtain ⟨k, rfl, hk, hq, hb⟩ := hrel
      have HQ := Lib.hid hq
      have HB := Lib.hid hb
      clear hq hb
      by_cases hlt : k < l.length
      · obtain ⟨x, hx⟩ : ∃ x, l[k]? = some x := ⟨l[k], by simp [hlt]⟩
        obtain ⟨y, hy⟩ : ∃ y, r[k]? = some y := ⟨r[k]'(by omega), by simp [← hlen, hlt]⟩
        have HS := Lib.hid (Wi.eq_step hx hy)
        obtain ⟨g, off, cap', he, hg, p0⟩ := H1.out.get HB.out hx
        injection he with he1 he2 he3
        subst he1 he3
        obtain ⟨g2, off2, cap2', he', hg2, s0⟩ := H2.out.get HB.out hy
        injection he' with he1' he2' he3'
        subst he1' he3'
        skip
        skip
        try dsimp only at *
        clear he2 he2'
        skip
        have hn : (x != y) = !decide (x = y) := by by_cases e : x = y <;> simp [e]
        have hk2 : k < r.length := by omega
        cases hb : decide (x = y) with
        | true =>
          have HX : Hid (decide (l = r) = decide (l.drop (k + 1) = r.drop (k + 1))) := by rw [Hid, HQ.out, HS.out, hb]; rfl
          simp only [hb, Bool.not_true] at hn
          clear HS hb
          go_wp2
          go_quiet (fail)
          have BQ : Hid (Below w.heap.size w (wr.drewN nq)) := below_drewN HB.out nq
          go_wp2
          go_roundw
          case rel => exact ⟨k + 1, by go_num, by omega, HX.out, BQ.out⟩
          case measure => simp [intOf]; omega
        | false =>
          have HX : Hid (decide (l = r) = false) := by rw [Hid, HQ.out, HS.out, hb]; rfl
          simp only [hb, Bool.not_false] at hn
          clear HS hb
          go_wp2
          go_quiet (fail)
          have BQ : Hid (Below w.heap.size w (wr.drewN nq)) := below_drewN HB.out nq
          go_wp2
          go_ret
          exact ⟨by rw [HX.out]; rfl, BQ.out⟩
      · obtain rfl : k = l.length := by omega
        have HX : Hid (decide (l = r) = true) := by rw [Hid, HQ.out]; exact Wi.eq_end hlen
        go_wp2
        go_ret
        exact ⟨by rw [HX.out]; rfl, HB.out⟩
  · have HX := Lib.hid (Wi.eq_len hlen)
    go_enter Tryz.func38, Tryz.ntmps38
    go_wp2
    go_ret
    exact ⟨by rw [HX.out]; rfl, Below.refl _ _⟩
set_option maxHeartbeats 1600000 in
theorem eqLifes_any (l r : List (Int × Int)) (hl : l.length ≤ maxLen) (hr : r.length ≤ maxLen) (lv rv : Value) (w : World) (h1 : Rw 2 lifeC w lv l) (h2 : Rw 2 lifeC w rv r) :
    Calls Tryz.prog 39 #[lv, rv] w fun e w' => e = .returned (.bool (decide (l = r))) ∧ Below w.heap.size w w' := by
  have H1 := Lib.hid h1
  have H2 := Lib.hid h2
  obtain ⟨a1, cap1, rfl⟩ := h1.form
  obtain ⟨a2, cap2, rfl⟩ := h2.form
  unfold maxLen at hl hr
  clear h1 h2
  by_cases hlen : l.length = r.length
  · go_enter Tryz.func39, Tryz.ntmps39
    go_wp2
    go_loopw [13] (fun i wr => ∃ k : Nat, i = .int .i64 k ∧ k ≤ l.length ∧ decide (l = r) = decide (l.drop k = r.drop k) ∧ Below w.heap.size w wr) (fun i _ => l.length - (intOf i).toNat)
    case atStart => exact ⟨0, rfl, by omega, rfl, Below.refl _ _⟩
    case round =>
      obtain ⟨k, rfl, hk, hq, hb⟩ := hrel
      have HQ := Lib.hid hq
      have HB := Lib.hid hb
      clear hq hb
      by_cases hlt : k < l.length
      · obtain ⟨x, hx⟩ : ∃ x, l[k]? = some x := ⟨l[k], by simp [hlt]⟩
        obtain ⟨y, hy⟩ : ∃ y, r[k]? = some y := ⟨r[k]'(by omega), by simp [← hlen, hlt]⟩
        have HS := Lib.hid (Wi.eq_step (α := (Int × Int)) hx hy)
        obtain ⟨g, off, cap', he, hg, pc⟩ := H1.out.get HB.out hx
        injection he with he1 he2 he3
        subst he1 he3
        obtain ⟨g2, off2, cap2', he', hg2, sc⟩ := H2.out.get HB.out hy
        injection he' with he1' he2' he3'
        subst he1' he3'
        obtain ⟨x0, x1⟩ := x
        obtain ⟨y0, y1⟩ := y
        try dsimp only at *
        clear he2 he2'
        have p0 : wr.cell? ⟨g, off + k * 2, none⟩ = some (.int .i64 x0) := pc 0 _ rfl
        have s0 : wr.cell? ⟨g2, off2 + k * 2, none⟩ = some (.int .i64 y0) := sc 0 _ rfl
        have p1 : wr.cell? ⟨g, off + k * 2 + 1, none⟩ = some (.int .i64 x1) := pc 1 _ rfl
        have s1 : wr.cell? ⟨g2, off2 + k * 2 + 1, none⟩ = some (.int .i64 y1) := sc 1 _ rfl
        clear pc sc
        have hn := fun w => life_neq x0 x1 y0 y1 w
        have hk2 : k < r.length := by omega
        cases hb : decide ((x0, x1) = (y0, y1)) with
        | true =>
          have HX : Hid (decide (l = r) = decide (l.drop (k + 1) = r.drop (k + 1))) := by rw [Hid, HQ.out, HS.out, hb]; rfl
          simp only [hb, Bool.not_true] at hn
          clear HS hb
          go_wp2
          go_quiet (fail)
          have BQ : Hid (Below w.heap.size w (wr.drewN nq)) := below_drewN HB.out nq
          go_wp2
          go_roundw
          case rel => exact ⟨k + 1, by go_num, by omega, HX.out, BQ.out⟩
          case measure => simp [intOf]; omega
        | false =>
          have HX : Hid (decide (l = r) = false) := by rw [Hid, HQ.out, HS.out, hb]; rfl
          simp only [hb, Bool.not_false] at hn
          clear HS hb
          go_wp2
          go_quiet (fail)
          have BQ : Hid (Below w.heap.size w (wr.drewN nq)) := below_drewN HB.out nq
          go_wp2
          go_ret
          exact ⟨by rw [HX.out]; rfl, BQ.out⟩
      · obtain rfl : k = l.length := by omega
        have HX : Hid (decide (l = r) = true) := by rw [Hid, HQ.out]; exact Wi.eq_end hlen
        go_wp2
        go_ret
        exact ⟨by rw [HX.out]; rfl, HB.out⟩
  · have HX := Lib.hid (Wi.eq_len hlen)
    go_enter Tryz.func39, Tryz.ntmps39
    go_wp2
    go_ret
    exact ⟨by rw [HX.out]; rfl, Below.refl _ _⟩
set_option maxHeartbeats 1600000 in
theorem eqSlots_any (l r : List Wi.Slot) (hl : l.length ≤ maxLen) (hr : r.length ≤ maxLen) (lv rv : Value) (w : World) (h1 : Rw 3 slotC w lv l) (h2 : Rw 3 slotC w rv r) :
    Calls Tryz.prog 67 #[lv, rv] w fun e w' => e = .returned (.bool (decide (l = r))) ∧ Below w.heap.size w w' := by
  have H1 := Lib.hid h1
  have H2 := Lib.hid h2
  obtain ⟨a1, cap1, rfl⟩ := h1.form
  obtain ⟨a2, cap2, rfl⟩ := h2.form
  unfold maxLen at hl hr
  clear h1 h2
  by_cases hlen : l.length = r.length
  · go_enter Tryz.func67, Tryz.ntmps67
    go_wp2
    go_loopw [13] (fun i wr => ∃ k : Nat, i = .int .i64 k ∧ k ≤ l.length ∧ decide (l = r) = decide (l.drop k = r.drop k) ∧ Below w.heap.size w wr) (fun i _ => l.length - (intOf i).toNat)
    case atStart => exact ⟨0, rfl, by omega, rfl, Below.refl _ _⟩
    case round =>
      obtain ⟨k, rfl, hk, hq, hb⟩ := hrel
      have HQ := Lib.hid hq
      have HB := Lib.hid hb
      clear hq hb
      by_cases hlt : k < l.length
      · obtain ⟨x, hx⟩ : ∃ x, l[k]? = some x := ⟨l[k], by simp [hlt]⟩
        obtain ⟨y, hy⟩ : ∃ y, r[k]? = some y := ⟨r[k]'(by omega), by simp [← hlen, hlt]⟩
        have HS := Lib.hid (Wi.eq_step (α := Wi.Slot) hx hy)
        obtain ⟨g, off, cap', he, hg, pc⟩ := H1.out.get HB.out hx
        injection he with he1 he2 he3
        subst he1 he3
        obtain ⟨g2, off2, cap2', he', hg2, sc⟩ := H2.out.get HB.out hy
        injection he' with he1' he2' he3'
        subst he1' he3'
        obtain ⟨x0, x1, x2⟩ := x
        obtain ⟨y0, y1, y2⟩ := y
        try dsimp only at *
        clear he2 he2'
        have p0 : wr.cell? ⟨g, off + k * 3, none⟩ = some (.int .i64 x0) := pc 0 _ rfl
        have s0 : wr.cell? ⟨g2, off2 + k * 3, none⟩ = some (.int .i64 y0) := sc 0 _ rfl
        have p1 : wr.cell? ⟨g, off + k * 3 + 1, none⟩ = some (.int .i64 x1) := pc 1 _ rfl
        have s1 : wr.cell? ⟨g2, off2 + k * 3 + 1, none⟩ = some (.int .i64 y1) := sc 1 _ rfl
        have p2 : wr.cell? ⟨g, off + k * 3 + 2, none⟩ = some (.int .i64 x2) := pc 2 _ rfl
        have s2 : wr.cell? ⟨g2, off2 + k * 3 + 2, none⟩ = some (.int .i64 y2) := sc 2 _ rfl
        clear pc sc
        have hn := fun w => slot_neq x0 x1 x2 y0 y1 y2 w
        have hk2 : k < r.length := by omega
        cases hb : decide ((x0, x1, x2) = (y0, y1, y2)) with
        | true =>
          have HX : Hid (decide (l = r) = decide (l.drop (k + 1) = r.drop (k + 1))) := by rw [Hid, HQ.out, HS.out, hb]; rfl
          simp only [hb, Bool.not_true] at hn
          clear HS hb
          go_wp2
          go_quiet (fail)
          have BQ : Hid (Below w.heap.size w (wr.drewN nq)) := below_drewN HB.out nq
          go_wp2
          go_roundw
          case rel => exact ⟨k + 1, by go_num, by omega, HX.out, BQ.out⟩
          case measure => simp [intOf]; omega
        | false =>
          have HX : Hid (decide (l = r) = false) := by rw [Hid, HQ.out, HS.out, hb]; rfl
          simp only [hb, Bool.not_false] at hn
          clear HS hb
          go_wp2
          go_quiet (fail)
          have BQ : Hid (Below w.heap.size w (wr.drewN nq)) := below_drewN HB.out nq
          go_wp2
          go_ret
          exact ⟨by rw [HX.out]; rfl, BQ.out⟩
      · obtain rfl : k = l.length := by omega
        have HX : Hid (decide (l = r) = true) := by rw [Hid, HQ.out]; exact Wi.eq_end hlen
        go_wp2
        go_ret
        exact ⟨by rw [HX.out]; rfl, HB.out⟩
  · have HX := Lib.hid (Wi.eq_len hlen)
    go_enter Tryz.func67, Tryz.ntmps67
    go_wp2
    go_ret
    exact ⟨by rw [HX.out]; rfl, Below.refl _ _⟩

end Go.Proofs.YtbljbdjmgogknaaGreatDoor
/-
  Wire: a message in memory; whether two are the same (printed by wip/gen/mkwsame.py).
  Conditions: none but the model's longest length.
-/
set_option linter.unusedVariables false
set_option linter.unusedSimpArgs false
namespace Go.Proofs.YtbljbdjmgogknaaGreatDoor
open Go.RowKit

/-- The slices of a message. -/
structure MsgV where
  chain : Value
  lives : Value
  brecs : Value
  table : Value
  qrecs : Value
  parts : Value
  arecs : Value
def wreqC (q : Wi.Req) (rv : Value) : List Value := [.int .i64 q.client, .int .i64 q.n, .int .i64 q.kind, .int .i64 q.part, .int .i64 q.seq, .int .i64 q.off, .int .i64 q.max, .int .i64 q.gen, .string ⟨q.group.toArray⟩, .string ⟨q.member.toArray⟩, rv]
def wrespC (q : Wi.Resp) (pv rv : Value) : List Value := [.int .i64 q.client, .int .i64 q.n, .int .i64 q.code, .int .i64 q.off, .int .i64 q.high, .int .i64 q.gen, pv, rv]
def msgC (m : Wi.Msg) (v : MsgV) : List Value := [.int .i64 m.kind, .int .i64 m.frm, .int .i64 m.to, .int .i64 m.part, .int .i64 m.ep, .int .i64 m.off, .int .i64 m.high, .int .i64 m.life, .int .i64 m.pep, v.chain, .int .i64 m.learner, v.lives,
  .int .i64 m.batch.base, .int .i64 m.batch.count, .int .i64 m.batch.prod, .int .i64 m.batch.seq, .int .i64 m.batch.time, v.brecs, v.table,
  .int .i64 m.req.client, .int .i64 m.req.n, .int .i64 m.req.kind, .int .i64 m.req.part, .int .i64 m.req.seq, .int .i64 m.req.off, .int .i64 m.req.max, .int .i64 m.req.gen, .string ⟨m.req.group.toArray⟩, .string ⟨m.req.member.toArray⟩, v.qrecs,
  .int .i64 m.resp.client, .int .i64 m.resp.n, .int .i64 m.resp.code, .int .i64 m.resp.off, .int .i64 m.resp.high, .int .i64 m.resp.gen, v.parts, v.arecs]
def msgV (m : Wi.Msg) (v : MsgV) : Value := .agg (msgC m v).toArray
/-- A table: its rows. -/
def Tbl (w : World) (v : Value) (l : List Wi.Seen) : Prop :=
  ∃ a cap, v = .slice a l.length cap ∧ ∀ i x, l[i]? = some x → ∃ g off sv, a = some ⟨g, off, none⟩ ∧ g < w.heap.size ∧ w.cell? ⟨g, off + i * 2, none⟩ = some (.int .i64 x.1) ∧ w.cell? ⟨g, off + i * 2 + 1, none⟩ = some sv ∧ Rw 3 slotC w sv x.2
theorem Tbl.form {w : World} {v : Value} {l : List Wi.Seen} (h : Tbl w v l) : ∃ a cap, v = .slice a l.length cap := by
  obtain ⟨a, cap, rfl, _⟩ := h
  exact ⟨a, cap, rfl⟩
theorem Tbl.kept {w w' : World} {v : Value} {l : List Wi.Seen} (h : Tbl w v l) (hb : Below w.heap.size w w') : Tbl w' v l := by
  obtain ⟨a, cap, rfl, hc⟩ := h
  refine ⟨a, cap, rfl, fun i x hx => ?_⟩
  obtain ⟨g, off, sv, rfl, hg, h0, h1, h2⟩ := hc i x hx
  exact ⟨g, off, sv, rfl, Nat.lt_of_lt_of_le hg hb.size, (hb.cell (p := ⟨g, off + i * 2, none⟩) hg).trans h0, (hb.cell (p := ⟨g, off + i * 2 + 1, none⟩) hg).trans h1, h2.kept hb⟩
theorem Tbl.get {w w' : World} {v : Value} {l : List Wi.Seen} (h : Tbl w v l) (hb : Below w.heap.size w w') {k : Nat} {x : Wi.Seen} (hk : l[k]? = some x) : ∃ g off cap sv, v = .slice (some ⟨g, off, none⟩) l.length cap ∧ g < w.heap.size ∧
    w'.cell? ⟨g, off + k * 2, none⟩ = some (.int .i64 x.1) ∧ w'.cell? ⟨g, off + k * 2 + 1, none⟩ = some sv ∧ Rw 3 slotC w' sv x.2 := by
  obtain ⟨a, cap, rfl, hc⟩ := h
  obtain ⟨g, off, sv, rfl, hg, h0, h1, h2⟩ := hc k x hk
  exact ⟨g, off, cap, sv, rfl, hg, (hb.cell (p := ⟨g, off + k * 2, none⟩) hg).trans h0, (hb.cell (p := ⟨g, off + k * 2 + 1, none⟩) hg).trans h1, h2.kept hb⟩
theorem Tbl.nil (w : World) : Tbl w (.slice none 0 0) [] := ⟨none, 0, rfl, fun i x hx => by simp at hx⟩
/-- A message's slices stand in memory. -/
structure MsgAt (w : World) (m : Wi.Msg) (v : MsgV) : Prop where
  chain : Ints w v.chain m.chain
  lives : Rw 2 lifeC w v.lives m.lives
  brecs : Recs w v.brecs m.batch.recs
  table : Tbl w v.table m.table
  qrecs : Recs w v.qrecs m.req.recs
  parts : Ints w v.parts m.resp.parts
  arecs : Recs w v.arecs m.resp.recs
theorem MsgAt.kept {w w' : World} {m : Wi.Msg} {v : MsgV} (h : MsgAt w m v) (hb : Below w.heap.size w w') : MsgAt w' m v := ⟨h.chain.kept hb, h.lives.kept hb, h.brecs.kept hb, h.table.kept hb, h.qrecs.kept hb, h.parts.kept hb, h.arecs.kept hb⟩
/-- Its numbers and lengths are such as Go's. -/
structure MsgOk (m : Wi.Msg) : Prop where
  n : ∀ x ∈ [m.kind, m.frm, m.to, m.part, m.ep, m.off, m.high, m.life, m.pep, m.learner, m.req.client, m.req.n, m.req.kind, m.req.part, m.req.seq, m.req.off, m.req.max, m.req.gen, m.resp.client, m.resp.n, m.resp.code, m.resp.off, m.resp.high, m.resp.gen], Bd.inR x
  c : m.chain.length ≤ maxLen ∧ ∀ x ∈ m.chain, Bd.inR x
  l : m.lives.length ≤ maxLen ∧ ∀ x ∈ m.lives, Bd.inR x.1 ∧ Bd.inR x.2
  b : BatOk m.batch
  t : m.table.length ≤ maxLen ∧ ∀ x ∈ m.table, Bd.inR x.1 ∧ x.2.length ≤ maxLen ∧ ∀ y ∈ x.2, Bd.inR y.1 ∧ Bd.inR y.2.1 ∧ Bd.inR y.2.2
  q : m.req.group.length ≤ maxLen ∧ m.req.member.length ≤ maxLen ∧ m.req.recs.length ≤ maxLen ∧ ∀ x ∈ m.req.recs, RecOk x
  p : m.resp.parts.length ≤ maxLen ∧ ∀ x ∈ m.resp.parts, Bd.inR x
  a : m.resp.recs.length ≤ maxLen ∧ ∀ x ∈ m.resp.recs, RecOk x
theorem strEq (x y : List UInt8) (w : World) : (binOp .eql 9 (.string ⟨x.toArray⟩) (.string ⟨y.toArray⟩)).run Tryz.prog w = .ok (.bool (decide (x = y))) w := by
  have u2 := Tryz.underlying9
  go_simp
  by_cases h : x = y <;> simp [h]
theorem twoBox {w : World} (a b : List Value) (t : TypeId) : ∃ w1, (w.alloc (.cells a.toArray t)).alloc (.cells b.toArray t) = w1 ∧ Hid (Cl w1 w.heap.size a t) ∧ Hid (Cl w1 (w.heap.size + 1) b t) ∧ Hid (Below w.heap.size w w1) := by
  have hb : Below w.heap.size w ((w.alloc (.cells a.toArray t)).alloc (.cells b.toArray t)) := ((Below.refl _ _).alloc (Nat.le_refl _) _).alloc (by simp) _
  refine ⟨_, rfl, (Cl.new w _ _).alloc _, ?_, hb⟩
  have h1 := Cl.new (w.alloc (.cells a.toArray t)) b t
  rw [World.size_alloc] at h1
  exact h1
theorem oneBox {w : World} (a : List Value) (t : TypeId) : ∃ w1, w.alloc (.cells a.toArray t) = w1 ∧ Hid (Cl w1 w.heap.size a t) ∧ Hid (Below w.heap.size w w1) :=
  ⟨_, rfl, Cl.new w _ _, (Below.refl _ _).alloc (Nat.le_refl _) _⟩

set_option maxRecDepth 20000 in
set_option maxHeartbeats 6400000 in
theorem sameReqs_any (a b : Wi.Req) (av bv : Value) (w : World) (ha : Recs w av a.recs) (hb : Recs w bv b.recs) (la : a.recs.length ≤ maxLen) (lb : b.recs.length ≤ maxLen) :
    Calls Tryz.prog 42 #[.agg (wreqC a av).toArray, .agg (wreqC b bv).toArray] w fun e w' => e = .returned (.bool (Wi.reqEq a b)) ∧ Below w.heap.size w w' := by
  have HA := Lib.hid ha
  have HB := Lib.hid hb
  obtain ⟨sa, ca, rfl⟩ := ha.form
  obtain ⟨sb, cb, rfl⟩ := hb.form
  have LA := Lib.hid la
  have LB := Lib.hid lb
  unfold maxLen at la lb
  obtain ⟨x_client, x_n, x_kind, x_part, x_seq, x_off, x_max, x_gen, x_group, x_member, x_recs⟩ := a
  obtain ⟨y_client, y_n, y_kind, y_part, y_seq, y_off, y_max, y_gen, y_group, y_member, y_recs⟩ := b
  dsimp only at *
  have HE : Hid (Wi.reqEq ⟨x_client, x_n, x_kind, x_part, x_seq, x_off, x_max, x_gen, x_group, x_member, x_recs⟩ ⟨y_client, y_n, y_kind, y_part, y_seq, y_off, y_max, y_gen, y_group, y_member, y_recs⟩ = (Wi.reqNums ⟨x_client, x_n, x_kind, x_part, x_seq, x_off, x_max, x_gen, x_group, x_member, x_recs⟩ ⟨y_client, y_n, y_kind, y_part, y_seq, y_off, y_max, y_gen, y_group, y_member, y_recs⟩ && (decide (x_group = y_group) && (decide (x_member = y_member) && Cr.recsEq x_recs y_recs)))) := rfl
  generalize hr : Wi.reqEq ⟨x_client, x_n, x_kind, x_part, x_seq, x_off, x_max, x_gen, x_group, x_member, x_recs⟩ ⟨y_client, y_n, y_kind, y_part, y_seq, y_off, y_max, y_gen, y_group, y_member, y_recs⟩ = res at *
  clear hr ha hb
  unfold wreqC
  dsimp only
  go_enter Tryz.func42, Tryz.ntmps42
  obtain ⟨w1, hw1, CA, CB, B1⟩ := twoBox (w := w) [.int .i64 x_client, .int .i64 x_n, .int .i64 x_kind, .int .i64 x_part, .int .i64 x_seq, .int .i64 x_off, .int .i64 x_max, .int .i64 x_gen, .string ⟨x_group.toArray⟩, .string ⟨x_member.toArray⟩, .slice sa x_recs.length ca] [.int .i64 y_client, .int .i64 y_n, .int .i64 y_kind, .int .i64 y_part, .int .i64 y_seq, .int .i64 y_off, .int .i64 y_max, .int .i64 y_gen, .string ⟨y_group.toArray⟩, .string ⟨y_member.toArray⟩, .slice sb y_recs.length cb] 39
  go_upto_region 1 with (fail)
  first | rw [hw1] | skip
  clear hw1
  generalize w.heap.size + 1 = pb at *
  have RA := Lib.hid (HA.out.kept B1.out)
  have RB := Lib.hid (HB.out.kept B1.out)
  have BW : Hid (∀ W, Below w1.heap.size w1 W → Below w.heap.size w W) := fun W h => bt B1.out h
  generalize w.heap.size = pa at CA ⊢
  go_cut [5] (fun t5 wz => t5 = .bool (Wi.reqNums ⟨x_client, x_n, x_kind, x_part, x_seq, x_off, x_max, x_gen, x_group, x_member, x_recs⟩ ⟨y_client, y_n, y_kind, y_part, y_seq, y_off, y_max, y_gen, y_group, y_member, y_recs⟩) ∧ wz = w1)
  case first =>
    have a0 := CA.out.cell 0
    have b0 := CB.out.cell 0
    have a1 := CA.out.cell 1
    have b1 := CB.out.cell 1
    have a2 := CA.out.cell 2
    have b2 := CB.out.cell 2
    have a3 := CA.out.cell 3
    have b3 := CB.out.cell 3
    have a4 := CA.out.cell 4
    have b4 := CB.out.cell 4
    have a5 := CA.out.cell 5
    have b5 := CB.out.cell 5
    have a6 := CA.out.cell 6
    have b6 := CB.out.cell 6
    have a7 := CA.out.cell 7
    have b7 := CB.out.cell 7
    simp only [List.getElem?_cons_zero, List.getElem?_cons_succ] at a0 b0 a1 b1 a2 b2 a3 b3 a4 b4 a5 b5 a6 b6 a7 b7
    clear CA CB RA RB BW B1 HE
    by_cases e0 : x_client = y_client
    rotate_left
    · have HX : Hid (Wi.reqNums ⟨x_client, x_n, x_kind, x_part, x_seq, x_off, x_max, x_gen, x_group, x_member, x_recs⟩ ⟨y_client, y_n, y_kind, y_part, y_seq, y_off, y_max, y_gen, y_group, y_member, y_recs⟩ = false) := by
        unfold Hid Wi.reqNums
        simp [e0]
      go_wp2
      go_meet
      case rel => exact ⟨by rw [HX.out] <;> simp [e0], rfl⟩
    subst e0
    by_cases e1 : x_n = y_n
    rotate_left
    · have HX : Hid (Wi.reqNums ⟨x_client, x_n, x_kind, x_part, x_seq, x_off, x_max, x_gen, x_group, x_member, x_recs⟩ ⟨x_client, y_n, y_kind, y_part, y_seq, y_off, y_max, y_gen, y_group, y_member, y_recs⟩ = false) := by
        unfold Hid Wi.reqNums
        simp [e1]
      go_wp2
      go_meet
      case rel => exact ⟨by rw [HX.out] <;> simp [e1], rfl⟩
    subst e1
    by_cases e2 : x_kind = y_kind
    rotate_left
    · have HX : Hid (Wi.reqNums ⟨x_client, x_n, x_kind, x_part, x_seq, x_off, x_max, x_gen, x_group, x_member, x_recs⟩ ⟨x_client, x_n, y_kind, y_part, y_seq, y_off, y_max, y_gen, y_group, y_member, y_recs⟩ = false) := by
        unfold Hid Wi.reqNums
        simp [e2]
      go_wp2
      go_meet
      case rel => exact ⟨by rw [HX.out] <;> simp [e2], rfl⟩
    subst e2
    by_cases e3 : x_part = y_part
    rotate_left
    · have HX : Hid (Wi.reqNums ⟨x_client, x_n, x_kind, x_part, x_seq, x_off, x_max, x_gen, x_group, x_member, x_recs⟩ ⟨x_client, x_n, x_kind, y_part, y_seq, y_off, y_max, y_gen, y_group, y_member, y_recs⟩ = false) := by
        unfold Hid Wi.reqNums
        simp [e3]
      go_wp2
      go_meet
      case rel => exact ⟨by rw [HX.out] <;> simp [e3], rfl⟩
    subst e3
    by_cases e4 : x_seq = y_seq
    rotate_left
    · have HX : Hid (Wi.reqNums ⟨x_client, x_n, x_kind, x_part, x_seq, x_off, x_max, x_gen, x_group, x_member, x_recs⟩ ⟨x_client, x_n, x_kind, x_part, y_seq, y_off, y_max, y_gen, y_group, y_member, y_recs⟩ = false) := by
        unfold Hid Wi.reqNums
        simp [e4]
      go_wp2
      go_meet
      case rel => exact ⟨by rw [HX.out] <;> simp [e4], rfl⟩
    subst e4
    by_cases e5 : x_off = y_off
    rotate_left
    · have HX : Hid (Wi.reqNums ⟨x_client, x_n, x_kind, x_part, x_seq, x_off, x_max, x_gen, x_group, x_member, x_recs⟩ ⟨x_client, x_n, x_kind, x_part, x_seq, y_off, y_max, y_gen, y_group, y_member, y_recs⟩ = false) := by
        unfold Hid Wi.reqNums
        simp [e5]
      go_wp2
      go_meet
      case rel => exact ⟨by rw [HX.out] <;> simp [e5], rfl⟩
    subst e5
    by_cases e6 : x_max = y_max
    rotate_left
    · have HX : Hid (Wi.reqNums ⟨x_client, x_n, x_kind, x_part, x_seq, x_off, x_max, x_gen, x_group, x_member, x_recs⟩ ⟨x_client, x_n, x_kind, x_part, x_seq, x_off, y_max, y_gen, y_group, y_member, y_recs⟩ = false) := by
        unfold Hid Wi.reqNums
        simp [e6]
      go_wp2
      go_meet
      case rel => exact ⟨by rw [HX.out] <;> simp [e6], rfl⟩
    subst e6
    by_cases e7 : x_gen = y_gen
    rotate_left
    · have HX : Hid (Wi.reqNums ⟨x_client, x_n, x_kind, x_part, x_seq, x_off, x_max, x_gen, x_group, x_member, x_recs⟩ ⟨x_client, x_n, x_kind, x_part, x_seq, x_off, x_max, y_gen, y_group, y_member, y_recs⟩ = false) := by
        unfold Hid Wi.reqNums
        simp [e7]
      go_wp2
      go_meet
      case rel => exact ⟨by rw [HX.out] <;> simp [e7], rfl⟩
    subst e7
    have HX : Hid (Wi.reqNums ⟨x_client, x_n, x_kind, x_part, x_seq, x_off, x_max, x_gen, x_group, x_member, x_recs⟩ ⟨x_client, x_n, x_kind, x_part, x_seq, x_off, x_max, x_gen, y_group, y_member, y_recs⟩ = true) := by
      unfold Hid Wi.reqNums
      simp
    go_wp2
    go_meet
    case rel => exact ⟨by rw [HX.out], rfl⟩
  case rest =>
    obtain ⟨rfl, hwc⟩ := hcut
    subst hwc
    generalize Wi.reqNums ⟨x_client, x_n, x_kind, x_part, x_seq, x_off, x_max, x_gen, x_group, x_member, x_recs⟩ ⟨y_client, y_n, y_kind, y_part, y_seq, y_off, y_max, y_gen, y_group, y_member, y_recs⟩ = nq at *
    have a8 := CA.out.cell 8
    have b8 := CB.out.cell 8
    have a9 := CA.out.cell 9
    have b9 := CB.out.cell 9
    have a10 := CA.out.cell 10
    have b10 := CB.out.cell 10
    simp only [List.getElem?_cons_zero, List.getElem?_cons_succ] at a8 b8 a9 b9 a10 b10
    cases nq with
    | false =>
      have HX : Hid (res = false) := by rw [Hid, HE.out]; rfl
      go_wp2
      go_ret
      exact ⟨by rw [HX.out]; rfl, BW.out _ (Below.refl _ _)⟩
    | true =>
      by_cases hg : x_group = y_group
      rotate_left
      · have HX : Hid (res = false) := by rw [Hid, HE.out, decide_eq_false hg]; rfl
        clear HE
        go_wp2
        go_ret
        exact ⟨by rw [HX.out]; rfl, BW.out _ (Below.refl _ _)⟩
      subst hg
      by_cases hm : x_member = y_member
      rotate_left
      · have HX : Hid (res = false) := by rw [Hid, HE.out, decide_eq_false hm]; simp
        clear HE
        go_wp2
        go_ret
        exact ⟨by rw [HX.out]; rfl, BW.out _ (Below.refl _ _)⟩
      subst hm
      have HX : Hid (res = Cr.recsEq x_recs y_recs) := by rw [Hid, HE.out]; simp
      have HQ := Lib.hid (equal_any x_recs y_recs LA.out LB.out _ _ _ RA.out RB.out)
      clear HE
      go_wp2_with fail
      refine HQ.out.mono ?_
      rintro e w5 ⟨rfl, hb5⟩
      have B5 := Lib.hid (BW.out _ hb5)
      clear hb5
      go_wp2
      go_ret
      exact ⟨by rw [HX.out]; rfl, B5.out⟩
set_option maxRecDepth 20000 in
set_option maxHeartbeats 6400000 in
theorem sameResps_any (a b : Wi.Resp) (pv av qv bv : Value) (w : World) (hp : Ints w pv a.parts) (hq : Ints w qv b.parts) (ha : Recs w av a.recs) (hb : Recs w bv b.recs) (la : a.recs.length ≤ maxLen ∧ a.parts.length ≤ maxLen) (lb : b.recs.length ≤ maxLen ∧ b.parts.length ≤ maxLen) :
    Calls Tryz.prog 43 #[.agg (wrespC a pv av).toArray, .agg (wrespC b qv bv).toArray] w fun e w' => e = .returned (.bool (Wi.respEq a b)) ∧ Below w.heap.size w w' := by
  have HA := Lib.hid ha
  have HB := Lib.hid hb
  have HP := Lib.hid hp
  have HQ := Lib.hid hq
  obtain ⟨sa, ca, rfl⟩ := ha.form
  obtain ⟨sb, cb, rfl⟩ := hb.form
  obtain ⟨sp, cp, rfl⟩ := hp.form
  obtain ⟨sq, cq, rfl⟩ := hq.form
  have LA := Lib.hid la
  have LB := Lib.hid lb
  obtain ⟨la, la2⟩ := la
  obtain ⟨lb, lb2⟩ := lb
  unfold maxLen at la lb la2 lb2
  obtain ⟨x_client, x_n, x_code, x_off, x_high, x_gen, x_parts, x_recs⟩ := a
  obtain ⟨y_client, y_n, y_code, y_off, y_high, y_gen, y_parts, y_recs⟩ := b
  dsimp only at *
  have HE : Hid (Wi.respEq ⟨x_client, x_n, x_code, x_off, x_high, x_gen, x_parts, x_recs⟩ ⟨y_client, y_n, y_code, y_off, y_high, y_gen, y_parts, y_recs⟩ = (Wi.respNums ⟨x_client, x_n, x_code, x_off, x_high, x_gen, x_parts, x_recs⟩ ⟨y_client, y_n, y_code, y_off, y_high, y_gen, y_parts, y_recs⟩ && (decide (x_parts = y_parts) && Cr.recsEq x_recs y_recs))) := rfl
  generalize hr : Wi.respEq ⟨x_client, x_n, x_code, x_off, x_high, x_gen, x_parts, x_recs⟩ ⟨y_client, y_n, y_code, y_off, y_high, y_gen, y_parts, y_recs⟩ = res at *
  clear hr ha hb hp hq
  unfold wrespC
  dsimp only
  go_enter Tryz.func43, Tryz.ntmps43
  obtain ⟨w1, hw1, CA, CB, B1⟩ := twoBox (w := w) [.int .i64 x_client, .int .i64 x_n, .int .i64 x_code, .int .i64 x_off, .int .i64 x_high, .int .i64 x_gen, .slice sp x_parts.length cp, .slice sa x_recs.length ca] [.int .i64 y_client, .int .i64 y_n, .int .i64 y_code, .int .i64 y_off, .int .i64 y_high, .int .i64 y_gen, .slice sq y_parts.length cq, .slice sb y_recs.length cb] 42
  go_upto_region 1 with (fail)
  first | rw [hw1] | skip
  clear hw1
  generalize w.heap.size + 1 = pb at *
  have RA := Lib.hid (HA.out.kept B1.out)
  have RB := Lib.hid (HB.out.kept B1.out)
  have RP := Lib.hid (HP.out.kept B1.out)
  have RQ := Lib.hid (HQ.out.kept B1.out)
  have BW : Hid (∀ W, Below w1.heap.size w1 W → Below w.heap.size w W) := fun W h => bt B1.out h
  generalize w.heap.size = pa at CA ⊢
  go_cut [5] (fun t5 wz => t5 = .bool (Wi.respNums ⟨x_client, x_n, x_code, x_off, x_high, x_gen, x_parts, x_recs⟩ ⟨y_client, y_n, y_code, y_off, y_high, y_gen, y_parts, y_recs⟩) ∧ wz = w1)
  case first =>
    have a0 := CA.out.cell 0
    have b0 := CB.out.cell 0
    have a1 := CA.out.cell 1
    have b1 := CB.out.cell 1
    have a2 := CA.out.cell 2
    have b2 := CB.out.cell 2
    have a3 := CA.out.cell 3
    have b3 := CB.out.cell 3
    have a4 := CA.out.cell 4
    have b4 := CB.out.cell 4
    have a5 := CA.out.cell 5
    have b5 := CB.out.cell 5
    simp only [List.getElem?_cons_zero, List.getElem?_cons_succ] at a0 b0 a1 b1 a2 b2 a3 b3 a4 b4 a5 b5
    clear CA CB RA RB BW B1 HE
    by_cases e0 : x_client = y_client
    rotate_left
    · have HX : Hid (Wi.respNums ⟨x_client, x_n, x_code, x_off, x_high, x_gen, x_parts, x_recs⟩ ⟨y_client, y_n, y_code, y_off, y_high, y_gen, y_parts, y_recs⟩ = false) := by
        unfold Hid Wi.respNums
        simp [e0]
      go_wp2
      go_meet
      case rel => exact ⟨by rw [HX.out] <;> simp [e0], rfl⟩
    subst e0
    by_cases e1 : x_n = y_n
    rotate_left
    · have HX : Hid (Wi.respNums ⟨x_client, x_n, x_code, x_off, x_high, x_gen, x_parts, x_recs⟩ ⟨x_client, y_n, y_code, y_off, y_high, y_gen, y_parts, y_recs⟩ = false) := by
        unfold Hid Wi.respNums
        simp [e1]
      go_wp2
      go_meet
      case rel => exact ⟨by rw [HX.out] <;> simp [e1], rfl⟩
    subst e1
    by_cases e2 : x_code = y_code
    rotate_left
    · have HX : Hid (Wi.respNums ⟨x_client, x_n, x_code, x_off, x_high, x_gen, x_parts, x_recs⟩ ⟨x_client, x_n, y_code, y_off, y_high, y_gen, y_parts, y_recs⟩ = false) := by
        unfold Hid Wi.respNums
        simp [e2]
      go_wp2
      go_meet
      case rel => exact ⟨by rw [HX.out] <;> simp [e2], rfl⟩
    subst e2
    by_cases e3 : x_off = y_off
    rotate_left
    · have HX : Hid (Wi.respNums ⟨x_client, x_n, x_code, x_off, x_high, x_gen, x_parts, x_recs⟩ ⟨x_client, x_n, x_code, y_off, y_high, y_gen, y_parts, y_recs⟩ = false) := by
        unfold Hid Wi.respNums
        simp [e3]
      go_wp2
      go_meet
      case rel => exact ⟨by rw [HX.out] <;> simp [e3], rfl⟩
    subst e3
    by_cases e4 : x_high = y_high
    rotate_left
    · have HX : Hid (Wi.respNums ⟨x_client, x_n, x_code, x_off, x_high, x_gen, x_parts, x_recs⟩ ⟨x_client, x_n, x_code, x_off, y_high, y_gen, y_parts, y_recs⟩ = false) := by
        unfold Hid Wi.respNums
        simp [e4]
      go_wp2
      go_meet
      case rel => exact ⟨by rw [HX.out] <;> simp [e4], rfl⟩
    subst e4
    by_cases e5 : x_gen = y_gen
    rotate_left
    · have HX : Hid (Wi.respNums ⟨x_client, x_n, x_code, x_off, x_high, x_gen, x_parts, x_recs⟩ ⟨x_client, x_n, x_code, x_off, x_high, y_gen, y_parts, y_recs⟩ = false) := by
        unfold Hid Wi.respNums
        simp [e5]
      go_wp2
      go_meet
      case rel => exact ⟨by rw [HX.out] <;> simp [e5], rfl⟩
    subst e5
    have HX : Hid (Wi.respNums ⟨x_client, x_n, x_code, x_off, x_high, x_gen, x_parts, x_recs⟩ ⟨x_client, x_n, x_code, x_off, x_high, x_gen, y_parts, y_recs⟩ = true) := by
      unfold Hid Wi.respNums
      simp
    go_wp2
    go_meet
    case rel => exact ⟨by rw [HX.out], rfl⟩
  case rest =>
    obtain ⟨rfl, hwc⟩ := hcut
    subst hwc
    generalize Wi.respNums ⟨x_client, x_n, x_code, x_off, x_high, x_gen, x_parts, x_recs⟩ ⟨y_client, y_n, y_code, y_off, y_high, y_gen, y_parts, y_recs⟩ = nq at *
    have a6 := CA.out.cell 6
    have b6 := CB.out.cell 6
    have a7 := CA.out.cell 7
    have b7 := CB.out.cell 7
    simp only [List.getElem?_cons_zero, List.getElem?_cons_succ] at a6 b6 a7 b7
    cases nq with
    | false =>
      have HX : Hid (res = false) := by rw [Hid, HE.out]; rfl
      go_wp2
      go_ret
      exact ⟨by rw [HX.out]; rfl, BW.out _ (Below.refl _ _)⟩
    | true =>
      have HI := Lib.hid (eqInts_any x_parts y_parts LA.out.2 LB.out.2 _ _ _ RP.out RQ.out)
      go_wp2_with fail
      refine HI.out.mono ?_
      rintro e w4 ⟨rfl, hb4⟩
      have CA4 := Lib.hid (CA.out.below hb4)
      have CB4 := Lib.hid (CB.out.below hb4)
      have RA4 := Lib.hid (RA.out.kept hb4)
      have RB4 := Lib.hid (RB.out.kept hb4)
      have B4 := Lib.hid (BW.out _ hb4)
      clear hb4 a6 a7 b6 b7 HI CA CB RA RB
      have a7 := CA4.out.cell 7
      have b7 := CB4.out.cell 7
      simp only [List.getElem?_cons_zero, List.getElem?_cons_succ] at a7 b7
      cases hg : decide (x_parts = y_parts) with
      | false =>
        have HX : Hid (res = false) := by rw [Hid, HE.out, hg]; rfl
        clear hg HE
        go_wp2
        go_ret
        exact ⟨by rw [HX.out]; rfl, B4.out⟩
      | true =>
        have HX : Hid (res = Cr.recsEq x_recs y_recs) := by rw [Hid, HE.out, hg]; rfl
        have HQ := Lib.hid (equal_any x_recs y_recs LA.out.1 LB.out.1 _ _ _ RA4.out RB4.out)
        clear hg HE
        go_wp2_with fail
        refine HQ.out.mono ?_
        rintro e w5 ⟨rfl, hb5⟩
        have B5 := Lib.hid (bt B4.out hb5)
        clear hb5
        go_wp2
        go_ret
        exact ⟨by rw [HX.out]; rfl, B5.out⟩

end Go.Proofs.YtbljbdjmgogknaaGreatDoor
