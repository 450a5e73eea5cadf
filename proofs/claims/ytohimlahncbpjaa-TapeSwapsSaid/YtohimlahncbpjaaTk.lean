/-
  kept, walked.
  Conditions: none but bounds.
-/
import Derived.Test.YtohimlahncbpjaaTf
import Derived.Test.YtohimlahncbpjaaOi
import Derived.Sort.KeysCollected
set_option linter.unusedVariables false
set_option linter.unusedSimpArgs false
namespace Go.Proofs.Ytohimlahncbpjaa
open Go.RowKit

def keptN (fate : Int) (k : Nat) : Int := if fate.tmod (k + 1) < 0 then fate.tmod (k + 1) + (k + 1) else fate.tmod (k + 1)
theorem lt_tmod (a b : Int) (h : 0 < b) : -b < a.tmod b := by
  rcases Int.le_total 0 a with h0 | h0
  · have := Int.tmod_nonneg b h0
    omega
  · have h1 := Int.tmod_lt_of_pos (-a) h
    rw [Int.neg_tmod] at h1
    omega
theorem keptN_le (fate : Int) (k : Nat) : 0 ≤ keptN fate k ∧ keptN fate k ≤ k := by
  unfold keptN
  have h1 := Int.tmod_lt_of_pos fate (show (0 : Int) < (k : Int) + 1 by omega)
  have h2 : -((k : Int) + 1) < fate.tmod ((k : Int) + 1) := lt_tmod _ _ (by omega)
  split <;> constructor <;> omega
set_option maxRecDepth 20000 in
theorem kept_any (fate : Int) (k : Nat) (hk : k ≤ 4194304) (w : World) :
    Calls Try.prog 28 #[.int .i64 fate, .int .i64 k] w fun e w' => e = .returned (.int .i64 (keptN fate k)) ∧ w = w' := by
  have h1 := Int.tmod_lt_of_pos fate (show (0 : Int) < (k : Int) + 1 by omega)
  have h2 : -((k : Int) + 1) < fate.tmod ((k : Int) + 1) := lt_tmod _ _ (by omega)
  have HV : Hid (keptN fate k = if fate.tmod (k + 1) < 0 then fate.tmod (k + 1) + (k + 1) else fate.tmod (k + 1)) := rfl
  go_enter Try.func28, Try.ntmps28
  by_cases hn : fate.tmod ((k : Int) + 1) < 0
  · have HX : Hid (keptN fate k = fate.tmod (k + 1) + (k + 1)) := by rw [Hid, HV.out, if_pos hn]
    go_wp2
    go_ret
    exact ⟨by rw [HX.out]; rfl, rfl⟩
  · have HX : Hid (keptN fate k = fate.tmod (k + 1)) := by rw [Hid, HV.out, if_neg hn]
    go_wp2
    go_ret
    exact ⟨by rw [HX.out]; rfl, rfl⟩
/-- The names, in some order: a row of the call's own. -/
def NamesPost (t : Tp) (w : World) (e : Ending) (w' : World) : Prop :=
  ∃ (v : Value) (ns : List (List UInt8)), e = .returned v ∧ ns.Perm (t.files.map (·.name)) ∧ w'.ownsRow w.heap.size 9 1 v ns.length (ns.map encStr) ∧ Below w.heap.size w w'

end Go.Proofs.Ytohimlahncbpjaa
