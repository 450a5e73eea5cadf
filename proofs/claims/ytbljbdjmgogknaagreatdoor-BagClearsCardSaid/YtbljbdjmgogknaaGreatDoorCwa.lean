/-
  Crate: records and batches in memory; isNum, isRec, flag walked.
  Conditions: none.
-/
import Derived.Test.YtbljbdjmgogknaaGreatDoorCr
import Derived.Test.YtbljbdjmgogknaaGreatDoorSl
import Derived.Test.YtbljbdjmgogknaaGreatDoorOi
import Derived.Deep.Strs
import Derived.Lib.SmallJoins
set_option linter.unusedVariables false
set_option linter.unusedSimpArgs false
namespace Go.Proofs.YtbljbdjmgogknaaGreatDoor
open Go.ChangeShapes Go.WideShapes Go.ChangeAt Go.RowKit

/-- A record as a value. -/
def recV (x : Cr.Rec) : Value := .agg #[.int .i64 x.off, .string ⟨x.key.toArray⟩, .string ⟨x.val.toArray⟩, .bool x.gone]
/-- Numbers and texts of a record are such as Go's. -/
def RecOk (x : Cr.Rec) : Prop := Bd.inR x.off ∧ x.key.length ≤ maxLen ∧ x.val.length ≤ maxLen
/-- A slice of records: its cells. -/
def Recs (w : World) (v : Value) (l : List Cr.Rec) : Prop :=
  ∃ a cap, v = .slice a l.length cap ∧ ∀ i x, l[i]? = some x → ∃ g off, a = some ⟨g, off, none⟩ ∧ g < w.heap.size ∧ w.cell? ⟨g, off + i * 4, none⟩ = some (.int .i64 x.off) ∧ w.cell? ⟨g, off + i * 4 + 1, none⟩ = some (.string ⟨x.key.toArray⟩) ∧
    w.cell? ⟨g, off + i * 4 + 2, none⟩ = some (.string ⟨x.val.toArray⟩) ∧ w.cell? ⟨g, off + i * 4 + 3, none⟩ = some (.bool x.gone)
theorem Recs.kept {w w' : World} {v : Value} {l : List Cr.Rec} (h : Recs w v l) (hb : Below w.heap.size w w') : Recs w' v l := by
  obtain ⟨a, cap, rfl, hc⟩ := h
  refine ⟨a, cap, rfl, fun i x hi => ?_⟩
  obtain ⟨g, off, rfl, hg, h1, h2, h3, h4⟩ := hc i x hi
  exact ⟨g, off, rfl, Nat.lt_of_lt_of_le hg hb.size, (hb.cell (p := ⟨g, off + i * 4, none⟩) hg).trans h1, (hb.cell (p := ⟨g, off + i * 4 + 1, none⟩) hg).trans h2, (hb.cell (p := ⟨g, off + i * 4 + 2, none⟩) hg).trans h3, (hb.cell (p := ⟨g, off + i * 4 + 3, none⟩) hg).trans h4⟩

theorem isNum_any (n : Int) (w : World) : Calls Tryz.prog 106 #[.int .i64 n] w fun e w' => e = .returned (.bool (Cr.isNum n)) ∧ w' = w := by
  by_cases h0 : 0 ≤ n
  · by_cases h1 : n ≤ 1099511627776
    · have HE : Hid (Cr.isNum n = true) := by simp [Hid, Cr.isNum, h0, h1]
      go_enter Tryz.func106, Tryz.ntmps106
      go_wp2
      go_ret
      refine ⟨?_, rfl⟩
      rw [HE.out]
      first | rfl | exact congrArg (fun b => Ending.returned (.bool b)) (decide_eq_true h1)
    · have HE : Hid (Cr.isNum n = false) := by simp [Hid, Cr.isNum, h0, h1]
      go_enter Tryz.func106, Tryz.ntmps106
      go_wp2
      go_ret
      refine ⟨?_, rfl⟩
      rw [HE.out]
      first | rfl | exact congrArg (fun b => Ending.returned (.bool b)) (decide_eq_false h1)
  · have HE : Hid (Cr.isNum n = false) := by simp [Hid, Cr.isNum, h0]
    go_enter Tryz.func106, Tryz.ntmps106
    go_wp2
    go_ret
    exact ⟨by rw [HE.out]; rfl, rfl⟩
theorem flag_any (b : Bool) (w : World) : Calls Tryz.prog 114 #[.bool b] w fun e w' => e = .returned (.int .i64 (Cr.flag b)) ∧ w' = w := by
  cases b <;>
  · go_enter Tryz.func114, Tryz.ntmps114
    go_wp2
    go_ret
    exact ⟨rfl, rfl⟩
theorem isRec_any (x : Cr.Rec) (hx : RecOk x) (w : World) : Calls Tryz.prog 107 #[recV x] w fun e w' => e = .returned (.bool (Cr.isRec x)) ∧ Below w.heap.size w w' := by
  obtain ⟨o, k, v, g⟩ := x
  obtain ⟨_, hk, hv⟩ := hx
  unfold maxLen at hk hv
  simp only at hk hv
  have HB : Hid (Below w.heap.size w (w.alloc (.cells #[.int .i64 o, .string ⟨k.toArray⟩, .string ⟨v.toArray⟩, .bool g] 67))) := (Below.refl _ _).alloc (Nat.le_refl _) _
  have fin : ∀ (b c : Bool), b = c → Ending.returned (.bool b) = Ending.returned (.bool c) := fun b c h => by rw [h]
  by_cases h1 : k.length ≤ 16
  · by_cases h2 : v.length ≤ 64
    · cases g with
      | false =>
        have HE : Hid (Cr.isRec ⟨o, k, v, false⟩ = true) := by simp [Hid, Cr.isRec, h1, h2]
        unfold recV
        go_enter Tryz.func107, Tryz.ntmps107
        go_wp2
        go_ret
        exact ⟨by rw [HE.out]; rfl, HB.out⟩
      | true =>
        cases v with
        | nil =>
          have HE : Hid (Cr.isRec ⟨o, k, [], true⟩ = true) := by simp [Hid, Cr.isRec, h1]
          unfold recV
          go_enter Tryz.func107, Tryz.ntmps107
          go_wp2
          go_ret
          exact ⟨by rw [HE.out]; rfl, HB.out⟩
        | cons c r =>
          have HE : Hid (Cr.isRec ⟨o, k, c :: r, true⟩ = false) := by simp [Hid, Cr.isRec]
          have h2' : r.length ≤ 63 := by simpa using h2
          unfold recV
          go_enter Tryz.func107, Tryz.ntmps107
          go_wp2
          go_ret
          exact ⟨by rw [HE.out]; rfl, HB.out⟩
    · have HE : Hid (Cr.isRec ⟨o, k, v, g⟩ = false) := by simp [Hid, Cr.isRec, h2]
      unfold recV
      go_enter Tryz.func107, Tryz.ntmps107
      go_wp2
      go_ret
      exact ⟨by rw [HE.out]; rfl, HB.out⟩
  · have HE : Hid (Cr.isRec ⟨o, k, v, g⟩ = false) := by simp [Hid, Cr.isRec, h1]
    unfold recV
    go_enter Tryz.func107, Tryz.ntmps107
    go_wp2
    go_ret
    exact ⟨by rw [HE.out]; rfl, HB.out⟩

end Go.Proofs.YtbljbdjmgogknaaGreatDoor
