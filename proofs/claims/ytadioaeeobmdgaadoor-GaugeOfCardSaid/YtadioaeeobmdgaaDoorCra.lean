/-
  The document's crate: num, rec, Fits, walked.
  Conditions: none.
-/
import Derived.Test.YtadioaeeobmdgaaDoorCwc
set_option linter.unusedVariables false
set_option linter.unusedSimpArgs false
namespace Go.Proofs.YtadioaeeobmdgaaDoor
open Go.RowKit

theorem refnum_any (n : Int) (w : World) : Calls Tryd.prog 32 #[.int .i64 n] w fun e w' => e = .returned (.bool (Cr.isNum n)) ∧ w' = w := by
  by_cases h0 : 0 ≤ n
  · by_cases h1 : n ≤ 1099511627776
    · have HE : Hid (Cr.isNum n = true) := by simp [Hid, Cr.isNum, h0, h1]
      go_enter Tryd.func32, Tryd.ntmps32
      go_wp2
      go_ret
      refine ⟨?_, rfl⟩
      rw [HE.out]
      first | rfl | exact congrArg (fun b => Ending.returned (.bool b)) (decide_eq_true h1)
    · have HE : Hid (Cr.isNum n = false) := by simp [Hid, Cr.isNum, h0, h1]
      go_enter Tryd.func32, Tryd.ntmps32
      go_wp2
      go_ret
      refine ⟨?_, rfl⟩
      rw [HE.out]
      first | rfl | exact congrArg (fun b => Ending.returned (.bool b)) (decide_eq_false h1)
  · have HE : Hid (Cr.isNum n = false) := by simp [Hid, Cr.isNum, h0]
    go_enter Tryd.func32, Tryd.ntmps32
    go_wp2
    go_ret
    exact ⟨by rw [HE.out]; rfl, rfl⟩
theorem refrec_any (x : Cr.Rec) (hx : RecOk x) (w : World) : Calls Tryd.prog 33 #[recV x] w fun e w' => e = .returned (.bool (Cr.isRec x)) ∧ Below w.heap.size w w' := by
  obtain ⟨o, k, v, g⟩ := x
  obtain ⟨_, hk, hv⟩ := hx
  unfold maxLen at hk hv
  simp only at hk hv
  have HB : Hid (Below w.heap.size w (w.alloc (.cells #[.int .i64 o, .string ⟨k.toArray⟩, .string ⟨v.toArray⟩, .bool g] 27))) := (Below.refl _ _).alloc (Nat.le_refl _) _
  have fin : ∀ (b c : Bool), b = c → Ending.returned (.bool b) = Ending.returned (.bool c) := fun b c h => by rw [h]
  by_cases h1 : k.length ≤ 16
  · by_cases h2 : v.length ≤ 64
    · cases g with
      | false =>
        have HE : Hid (Cr.isRec ⟨o, k, v, false⟩ = true) := by simp [Hid, Cr.isRec, h1, h2]
        unfold recV
        go_enter Tryd.func33, Tryd.ntmps33
        go_wp2
        go_ret
        exact ⟨by rw [HE.out]; rfl, HB.out⟩
      | true =>
        cases v with
        | nil =>
          have HE : Hid (Cr.isRec ⟨o, k, [], true⟩ = true) := by simp [Hid, Cr.isRec, h1]
          unfold recV
          go_enter Tryd.func33, Tryd.ntmps33
          go_wp2
          go_ret
          exact ⟨by rw [HE.out]; rfl, HB.out⟩
        | cons c r =>
          have HE : Hid (Cr.isRec ⟨o, k, c :: r, true⟩ = false) := by simp [Hid, Cr.isRec]
          have h2' : r.length ≤ 63 := by simpa using h2
          unfold recV
          go_enter Tryd.func33, Tryd.ntmps33
          go_wp2
          go_ret
          exact ⟨by rw [HE.out]; rfl, HB.out⟩
    · have HE : Hid (Cr.isRec ⟨o, k, v, g⟩ = false) := by simp [Hid, Cr.isRec, h2]
      unfold recV
      go_enter Tryd.func33, Tryd.ntmps33
      go_wp2
      go_ret
      exact ⟨by rw [HE.out]; rfl, HB.out⟩
  · have HE : Hid (Cr.isRec ⟨o, k, v, g⟩ = false) := by simp [Hid, Cr.isRec, h1]
    unfold recV
    go_enter Tryd.func33, Tryd.ntmps33
    go_wp2
    go_ret
    exact ⟨by rw [HE.out]; rfl, HB.out⟩

end Go.Proofs.YtadioaeeobmdgaaDoor
