/-
  Wire: rows of like things in memory; whether two are the same (printed by wip/gen/mkweq.py).
  Conditions: none but the model's longest length.
-/
import Derived.Test.YtbljbdjmgogknaaGreatDoorWp
import Derived.Test.YtbljbdjmgogknaaGreatDoorCwd
import Derived.Test.YtbljbdjmgogknaaGreatDoorCl
import Derived.Test.YtbljbdjmgogknaaGreatDoorOi
set_option linter.unusedVariables false
set_option linter.unusedSimpArgs false
namespace Go.Proofs.YtbljbdjmgogknaaGreatDoor
open Go.RowKit

/-- A slice of like things: its cells. -/
def Rw {α : Type} (sz : Nat) (f : α → List Value) (w : World) (v : Value) (l : List α) : Prop :=
  ∃ a cap, v = .slice a l.length cap ∧ ∀ i x, l[i]? = some x → ∃ g off, a = some ⟨g, off, none⟩ ∧ g < w.heap.size ∧ ∀ j u, (f x)[j]? = some u → w.cell? ⟨g, off + i * sz + j, none⟩ = some u
theorem Rw.form {α : Type} {sz : Nat} {f : α → List Value} {w : World} {v : Value} {l : List α} (h : Rw sz f w v l) : ∃ a cap, v = .slice a l.length cap := by
  obtain ⟨a, cap, rfl, _⟩ := h
  exact ⟨a, cap, rfl⟩
theorem Rw.keep {α : Type} {sz : Nat} {f : α → List Value} {S : Nat → Prop} {w w' : World} {v : Value} {l : List α} (h : Rw sz f w v l) (k : Keeps S w w') (hs : ∀ j, v.ownBlock = some j → ¬ S j) : Rw sz f w' v l := by
  obtain ⟨a, cap, rfl, hc⟩ := h
  refine ⟨a, cap, rfl, fun i x hx => ?_⟩
  obtain ⟨g, off, rfl, hg, h0⟩ := hc i x hx
  exact ⟨g, off, rfl, Nat.lt_of_lt_of_le hg k.size, fun j u hu => (k.cell (a := ⟨g, off + i * sz + j, none⟩) hg (hs g rfl)).trans (h0 j u hu)⟩
theorem Rw.kept {α : Type} {sz : Nat} {f : α → List Value} {w w' : World} {v : Value} {l : List α} (h : Rw sz f w v l) (hb : Below w.heap.size w w') : Rw sz f w' v l := h.keep (Keeps.below (fun _ => False) hb) (fun _ _ => id)
theorem Rw.get {α : Type} {sz : Nat} {f : α → List Value} {w w' : World} {v : Value} {l : List α} (h : Rw sz f w v l) (hb : Below w.heap.size w w') {k : Nat} {x : α} (hk : l[k]? = some x) :
    ∃ g off cap, v = .slice (some ⟨g, off, none⟩) l.length cap ∧ g < w.heap.size ∧ ∀ j u, (f x)[j]? = some u → w'.cell? ⟨g, off + k * sz + j, none⟩ = some u := by
  obtain ⟨a, cap, rfl, hc⟩ := h
  obtain ⟨g, off, rfl, hg, h0⟩ := hc k x hk
  exact ⟨g, off, cap, rfl, hg, fun j u hu => (hb.cell (p := ⟨g, off + k * sz + j, none⟩) hg).trans (h0 j u hu)⟩
theorem Rw.nil {α : Type} (sz : Nat) (f : α → List Value) (w : World) : Rw sz f w (.slice none 0 0) [] := ⟨none, 0, rfl, fun i x hx => by simp at hx⟩
theorem Ints.form {w : World} {v : Value} {l : List Int} (h : Ints w v l) : ∃ a cap, v = .slice a l.length cap := by
  obtain ⟨a, cap, rfl, _⟩ := h
  exact ⟨a, cap, rfl⟩
theorem Ints.nil (w : World) : Ints w (.slice none 0 0) [] := ⟨none, 0, rfl, fun i hi => by simp at hi⟩
theorem Ints.get {w w' : World} {v : Value} {l : List Int} (h : Ints w v l) (hb : Below w.heap.size w w') {k : Nat} {x : Int} (hk : l[k]? = some x) :
    ∃ g off cap, v = .slice (some ⟨g, off, none⟩) l.length cap ∧ g < w.heap.size ∧ w'.cell? ⟨g, off + k, none⟩ = some (.int .i64 x) := by
  obtain ⟨a, cap, rfl, hc⟩ := h
  obtain ⟨hlt, rfl⟩ := List.getElem?_eq_some_iff.1 hk
  obtain ⟨g, off, rfl, hg, h0⟩ := hc k hlt
  exact ⟨g, off, cap, rfl, hg, (hb.cell (p := ⟨g, off + k, none⟩) hg).trans (by rw [h0]; simp [List.getD, hlt])⟩
theorem Ints.keep {S : Nat → Prop} {w w' : World} {v : Value} {l : List Int} (h : Ints w v l) (k : Keeps S w w') (hs : ∀ j, v.ownBlock = some j → ¬ S j) : Ints w' v l := by
  obtain ⟨a, cap, rfl, hc⟩ := h
  refine ⟨a, cap, rfl, fun i hi => ?_⟩
  obtain ⟨g, off, rfl, hg, h0⟩ := hc i hi
  exact ⟨g, off, rfl, Nat.lt_of_lt_of_le hg k.size, (k.cell (a := ⟨g, off + i, none⟩) hg (hs g rfl)).trans h0⟩
def lifeC (x : Int × Int) : List Value := [.int .i64 x.1, .int .i64 x.2]
def slotC (x : Wi.Slot) : List Value := [.int .i64 x.1, .int .i64 x.2.1, .int .i64 x.2.2]

set_option maxHeartbeats 800000 in
theorem life_neq (x0 x1 y0 y1 : Int) (w : World) :
    (binOp .neq 90 (.agg #[.int .i64 x0, .int .i64 x1]) (.agg #[.int .i64 y0, .int .i64 y1])).run Tryz.prog w = .ok (.bool (!decide ((x0, x1) = (y0, y1)))) w := by
  have hS : Tryz.prog.underlying 90 = some (.struct (Tryz.prog.fieldsOf 90)) := by kernel_rfl
  have hp : Tryz.prog.stoodInHeld 90 = false := by kernel_rfl
  rw [run_neq_struct, show (10000 : Nat) = 9999 + 1 from rfl, run_equalIn_agg w 9999 90 _ _ hS hp]
  simp only [Program.fieldsOf, Tryz.underlying90]
  have u1 := Tryz.underlying3
  have a1 := Tryz.isAgg3
  have z1 := Tryz.sizeOf3
  go_simp

  by_cases h0 : x0 = y0 <;> by_cases h1 : x1 = y1 <;> simp [h0, h1]
set_option maxHeartbeats 800000 in
theorem slot_neq (x0 x1 x2 y0 y1 y2 : Int) (w : World) :
    (binOp .neq 109 (.agg #[.int .i64 x0, .int .i64 x1, .int .i64 x2]) (.agg #[.int .i64 y0, .int .i64 y1, .int .i64 y2])).run Tryz.prog w = .ok (.bool (!decide ((x0, x1, x2) = (y0, y1, y2)))) w := by
  have hS : Tryz.prog.underlying 109 = some (.struct (Tryz.prog.fieldsOf 109)) := by kernel_rfl
  have hp : Tryz.prog.stoodInHeld 109 = false := by kernel_rfl
  rw [run_neq_struct, show (10000 : Nat) = 9999 + 1 from rfl, run_equalIn_agg w 9999 109 _ _ hS hp]
  simp only [Program.fieldsOf, Tryz.underlying109]
  have u1 := Tryz.underlying3
  have a1 := Tryz.isAgg3
  have z1 := Tryz.sizeOf3
  go_simp

  by_cases h0 : x0 = y0 <;> by_cases h1 : x1 = y1 <;> by_cases h2 : x2 = y2 <;> simp [h0, h1, h2]
set_option maxHeartbeats 1600000 in
theorem eqInts_any (l r : List Int) (hl : l.length ≤ maxLen) (hr : r.length ≤ maxLen) (lv rv : Value) (w : World) (h1 : Ints w lv l) (h2 : Ints w rv r) :
    Calls Tryz.prog 38 #[lv, rv] w fun e w' => e = .returned (.bool (decide (l = r))) ∧ Below w.heap.size w w' := by
  have H1 := Lib.hid h1
  have H2 := Lib.hid h2
  obtain ⟨a1, cap1, rfl⟩ := h1.form
  obtain ⟨a2, cap2, rfl⟩ := h2.form
  unfold maxLen at hl hr
  clear h1 h2
  by_cases hlen : l.length = r.length
  · go_enter Tryz.func38, Tryz.ntmps38
    go_wp2
    go_loopw [13] (fun i wr => ∃ k : Nat, i = .int .i64 k ∧ k ≤ l.length ∧ decide (l = r) = decide (l.drop k = r.drop k) ∧ Below w.heap.size w wr) (fun i _ => l.length - (intOf i).toNat)
    case atStart => exact ⟨0, rfl, by omega, rfl, Below.refl _ _⟩
    case round =>
      obtain ⟨k, rfl, hk, hq, hb⟩ := hrel
      have HQ := Lib.hid hq
      have HB := Lib.hid hb
      clear hq hb
      by_cases hlt : k < l.length
      · obtain ⟨x, hx⟩ : ∃ x, l[k]? = some x := ⟨l[k], by simp [hlt]⟩
        obtain ⟨y, hy⟩ : ∃ y, r[k]? = some y := ⟨r[k]'(by omega), by simp [← hlen, hlt]⟩
        have HS := Lib.hid (Wi.eq_step hx hy)
        obtain ⟨g, off, cap', he, hg, p0⟩ := H1.out.get HB.out hx
        injection he with he1 he2 he3
        subst he1 he3
        obtain ⟨g2, off2, cap2', he', hg2, s0⟩ := H2.out.get HB.out hy
        injection he' with he1' he2' he3'
        subst he1' he3'
        skip
        skip
        try dsimp only at *
        clear he2 he2'
        skip
        have hn : (x != y) = !decide (x = y) := by by_cases e : x = y <;> simp [e]
        have hk2 : k < r.length := by omega
        cases hb : decide (x = y) with
        | true =>
          have HX : Hid (decide (l = r) = decide (l.drop (k + 1) = r.drop (k + 1))) := by rw [Hid, HQ.out, HS.out, hb]; rfl
          simp only [hb, Bool.not_true] at hn
          clear HS hb
          go_wp2
          go_quiet (fail)
          have BQ : Hid (Below w.heap.size w (wr.drewN nq)) := below_drewN HB.out nq
          go_wp2
          go_roundw
          case rel => exact ⟨k + 1, by go_num, by omega, HX.out, BQ.out⟩
          case measure => simp [intOf]; omega
        | false =>
          have HX : Hid (decide (l = r) = false) := by rw [Hid, HQ.out, HS.out, hb]; rfl
          simp only [hb, Bool.not_false] at hn
          clear HS hb
          go_wp2
          go_quiet (fail)
          have BQ : Hid (Below w.heap.size w (wr.drewN nq)) := below_drewN HB.out nq
          go_wp2
          go_ret
          exact ⟨by rw [HX.out]; rfl, BQ.out⟩
      · obtain rfl : k = l.length := by omega
        have HX : Hid (decide (l = r) = true) := by rw [Hid, HQ.out]; exact Wi.eq_end hlen
        go_wp2
        go_ret
        exact ⟨by rw [HX.out]; rfl, HB.out⟩
  · have HX := Lib.hid (Wi.eq_len hlen)
    go_enter Tryz.func38, Tryz.ntmps38
    go_wp2
    go_ret
    exact ⟨by rw [HX.out]; rfl, Below.refl _ _⟩
set_option maxHeartbeats 1600000 in
theorem eqLifes_any (l r : List (Int × Int)) (hl : l.length ≤ maxLen) (hr : r.length ≤ maxLen) (lv rv : Value) (w : World) (h1 : Rw 2 lifeC w lv l) (h2 : Rw 2 lifeC w rv r) :
    Calls Tryz.prog 39 #[lv, rv] w fun e w' => e = .returned (.bool (decide (l = r))) ∧ Below w.heap.size w w' := by
  have H1 := Lib.hid h1
  have H2 := Lib.hid h2
  obtain ⟨a1, cap1, rfl⟩ := h1.form
  obtain ⟨a2, cap2, rfl⟩ := h2.form
  unfold maxLen at hl hr
  clear h1 h2
  by_cases hlen : l.length = r.length
  · go_enter Tryz.func39, Tryz.ntmps39
    go_wp2
    go_loopw [13] (fun i wr => ∃ k : Nat, i = .int .i64 k ∧ k ≤ l.length ∧ decide (l = r) = decide (l.drop k = r.drop k) ∧ Below w.heap.size w wr) (fun i _ => l.length - (intOf i).toNat)
    case atStart => exact ⟨0, rfl, by omega, rfl, Below.refl _ _⟩
    case round =>
      obtain ⟨k, rfl, hk, hq, hb⟩ := hrel
      have HQ := Lib.hid hq
      have HB := Lib.hid hb
      clear hq hb
      by_cases hlt : k < l.length
      · obtain ⟨x, hx⟩ : ∃ x, l[k]? = some x := ⟨l[k], by simp [hlt]⟩
        obtain ⟨y, hy⟩ : ∃ y, r[k]? = some y := ⟨r[k]'(by omega), by simp [← hlen, hlt]⟩
        have HS := Lib.hid (Wi.eq_step (α := (Int × Int)) hx hy)
        obtain ⟨g, off, cap', he, hg, pc⟩ := H1.out.get HB.out hx
        injection he with he1 he2 he3
        subst he1 he3
        obtain ⟨g2, off2, cap2', he', hg2, sc⟩ := H2.out.get HB.out hy
        injection he' with he1' he2' he3'
        subst he1' he3'
        obtain ⟨x0, x1⟩ := x
        obtain ⟨y0, y1⟩ := y
        try dsimp only at *
        clear he2 he2'
        have p0 : wr.cell? ⟨g, off + k * 2, none⟩ = some (.int .i64 x0) := pc 0 _ rfl
        have s0 : wr.cell? ⟨g2, off2 + k * 2, none⟩ = some (.int .i64 y0) := sc 0 _ rfl
        have p1 : wr.cell? ⟨g, off + k * 2 + 1, none⟩ = some (.int .i64 x1) := pc 1 _ rfl
        have s1 : wr.cell? ⟨g2, off2 + k * 2 + 1, none⟩ = some (.int .i64 y1) := sc 1 _ rfl
        clear pc sc
        have hn := fun w => life_neq x0 x1 y0 y1 w
        have hk2 : k < r.length := by omega
        cases hb : decide ((x0, x1) = (y0, y1)) with
        | true =>
          have HX : Hid (decide (l = r) = decide (l.drop (k + 1) = r.drop (k + 1))) := by rw [Hid, HQ.out, HS.out, hb]; rfl
          simp only [hb, Bool.not_true] at hn
          clear HS hb
          go_wp2
          go_quiet (fail)
          have BQ : Hid (Below w.heap.size w (wr.drewN nq)) := below_drewN HB.out nq
          go_wp2
          go_roundw
          case rel => exact ⟨k + 1, by go_num, by omega, HX.out, BQ.out⟩
          case measure => simp [intOf]; omega
        | false =>
          have HX : Hid (decide (l = r) = false) := by rw [Hid, HQ.out, HS.out, hb]; rfl
          simp only [hb, Bool.not_false] at hn
          clear HS hb
          go_wp2
          go_quiet (fail)
          have BQ : Hid (Below w.heap.size w (wr.drewN nq)) := below_drewN HB.out nq
          go_wp2
          go_ret
          exact ⟨by rw [HX.out]; rfl, BQ.out⟩
      · obtain rfl : k = l.length := by omega
        have HX : Hid (decide (l = r) = true) := by rw [Hid, HQ.out]; exact Wi.eq_end hlen
        go_wp2
        go_ret
        exact ⟨by rw [HX.out]; rfl, HB.out⟩
  · have HX := Lib.hid (Wi.eq_len hlen)
    go_enter Tryz.func39, Tryz.ntmps39
    go_wp2
    go_ret
    exact ⟨by rw [HX.out]; rfl, Below.refl _ _⟩
set_option maxHeartbeats 1600000 in
theorem eqSlots_any (l r : List Wi.Slot) (hl : l.length ≤ maxLen) (hr : r.length ≤ maxLen) (lv rv : Value) (w : World) (h1 : Rw 3 slotC w lv l) (h2 : Rw 3 slotC w rv r) :
    Calls Tryz.prog 67 #[lv, rv] w fun e w' => e = .returned (.bool (decide (l = r))) ∧ Below w.heap.size w w' := by
  have H1 := Lib.hid h1
  have H2 := Lib.hid h2
  obtain ⟨a1, cap1, rfl⟩ := h1.form
  obtain ⟨a2, cap2, rfl⟩ := h2.form
  unfold maxLen at hl hr
  clear h1 h2
  by_cases hlen : l.length = r.length
  · go_enter Tryz.func67, Tryz.ntmps67
    go_wp2
    go_loopw [13] (fun i wr => ∃ k : Nat, i = .int .i64 k ∧ k ≤ l.length ∧ decide (l = r) = decide (l.drop k = r.drop k) ∧ Below w.heap.size w wr) (fun i _ => l.length - (intOf i).toNat)
    case atStart => exact ⟨0, rfl, by omega, rfl, Below.refl _ _⟩
    case round =>
      obtain ⟨k, rfl, hk, hq, hb⟩ := hrel
      have HQ := Lib.hid hq
      have HB := Lib.hid hb
      clear hq hb
      by_cases hlt : k < l.length
      · obtain ⟨x, hx⟩ : ∃ x, l[k]? = some x := ⟨l[k], by simp [hlt]⟩
        obtain ⟨y, hy⟩ : ∃ y, r[k]? = some y := ⟨r[k]'(by omega), by simp [← hlen, hlt]⟩
        have HS := Lib.hid (Wi.eq_step (α := Wi.Slot) hx hy)
        obtain ⟨g, off, cap', he, hg, pc⟩ := H1.out.get HB.out hx
        injection he with he1 he2 he3
        subst he1 he3
        obtain ⟨g2, off2, cap2', he', hg2, sc⟩ := H2.out.get HB.out hy
        injection he' with he1' he2' he3'
        subst he1' he3'
        obtain ⟨x0, x1, x2⟩ := x
        obtain ⟨y0, y1, y2⟩ := y
        try dsimp only at *
        clear he2 he2'
        have p0 : wr.cell? ⟨g, off + k * 3, none⟩ = some (.int .i64 x0) := pc 0 _ rfl
        have s0 : wr.cell? ⟨g2, off2 + k * 3, none⟩ = some (.int .i64 y0) := sc 0 _ rfl
        have p1 : wr.cell? ⟨g, off + k * 3 + 1, none⟩ = some (.int .i64 x1) := pc 1 _ rfl
        have s1 : wr.cell? ⟨g2, off2 + k * 3 + 1, none⟩ = some (.int .i64 y1) := sc 1 _ rfl
        have p2 : wr.cell? ⟨g, off + k * 3 + 2, none⟩ = some (.int .i64 x2) := pc 2 _ rfl
        have s2 : wr.cell? ⟨g2, off2 + k * 3 + 2, none⟩ = some (.int .i64 y2) := sc 2 _ rfl
        clear pc sc
        have hn := fun w => slot_neq x0 x1 x2 y0 y1 y2 w
        have hk2 : k < r.length := by omega
        cases hb : decide ((x0, x1, x2) = (y0, y1, y2)) with
        | true =>
          have HX : Hid (decide (l = r) = decide (l.drop (k + 1) = r.drop (k + 1))) := by rw [Hid, HQ.out, HS.out, hb]; rfl
          simp only [hb, Bool.not_true] at hn
          clear HS hb
          go_wp2
          go_quiet (fail)
          have BQ : Hid (Below w.heap.size w (wr.drewN nq)) := below_drewN HB.out nq
          go_wp2
          go_roundw
          case rel => exact ⟨k + 1, by go_num, by omega, HX.out, BQ.out⟩
          case measure => simp [intOf]; omega
        | false =>
          have HX : Hid (decide (l = r) = false) := by rw [Hid, HQ.out, HS.out, hb]; rfl
          simp only [hb, Bool.not_false] at hn
          clear HS hb
          go_wp2
          go_quiet (fail)
          have BQ : Hid (Below w.heap.size w (wr.drewN nq)) := below_drewN HB.out nq
          go_wp2
          go_ret
          exact ⟨by rw [HX.out]; rfl, BQ.out⟩
      · obtain rfl : k = l.length := by omega
        have HX : Hid (decide (l = r) = true) := by rw [Hid, HQ.out]; exact Wi.eq_end hlen
        go_wp2
        go_ret
        exact ⟨by rw [HX.out]; rfl, HB.out⟩
  · have HX := Lib.hid (Wi.eq_len hlen)
    go_enter Tryz.func67, Tryz.ntmps67
    go_wp2
    go_ret
    exact ⟨by rw [HX.out]; rfl, Below.refl _ _⟩

end Go.Proofs.YtbljbdjmgogknaaGreatDoor
