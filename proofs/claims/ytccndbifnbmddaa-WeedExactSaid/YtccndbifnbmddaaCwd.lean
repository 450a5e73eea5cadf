/-
  Crate: Same, walked, with the library's Equal under it; the document's Same.
  Conditions: none.
-/
import Derived.Test.YtccndbifnbmddaaCwc
import Derived.Laws.StructEq
import Derived.BigQuiet
set_option linter.unusedVariables false
set_option linter.unusedSimpArgs false
namespace Go.Proofs.Ytccndbifnbmddaa
open Go.RowKit

set_option maxHeartbeats 800000 in
theorem rec_neq (x0 y0 : Int) (xk yk xv yv : List UInt8) (xg yg : Bool) (w : World) :
    (binOp .neq 44 (.agg #[.int .i64 x0, .string ⟨xk.toArray⟩, .string ⟨xv.toArray⟩, .bool xg]) (.agg #[.int .i64 y0, .string ⟨yk.toArray⟩, .string ⟨yv.toArray⟩, .bool yg])).run Try.prog w = .ok (.bool (!Cr.recEq ⟨x0, xk, xv, xg⟩ ⟨y0, yk, yv, yg⟩)) w := by
  have hS : Try.prog.underlying 44 = some (.struct (Try.prog.fieldsOf 44)) := by kernel_rfl
  have hp : Try.prog.stoodInHeld 44 = false := by kernel_rfl
  rw [run_neq_struct, show (10000 : Nat) = 9999 + 1 from rfl, run_equalIn_agg w 9999 44 _ _ hS hp]
  simp only [Program.fieldsOf, Try.underlying44]
  have u1 := Try.underlying3
  have u2 := Try.underlying9
  have u3 := Try.underlying4
  have a1 := Try.isAgg3
  have a2 := Try.isAgg9
  have a3 := Try.isAgg4
  have z1 := Try.sizeOf3
  have z2 := Try.sizeOf9
  have z3 := Try.sizeOf4
  go_simp

  unfold Cr.recEq
  by_cases h1 : x0 = y0 <;> by_cases h2 : xk = yk <;> by_cases h3 : xv = yv <;> by_cases h4 : xg = yg <;> simp [h1, h2, h3, h4]
theorem recsEq_len {l r : List Cr.Rec} (h : l.length ≠ r.length) : Cr.recsEq l r = false := by
  cases hc : Cr.recsEq l r with
  | false => rfl
  | true => exact absurd (congrArg List.length (Cr.recsEq_iff.1 hc)) h
theorem recsEq_step {l r : List Cr.Rec} {k : Nat} {x y : Cr.Rec} (hx : l[k]? = some x) (hy : r[k]? = some y) : Cr.recsEq (l.drop k) (r.drop k) = (Cr.recEq x y && Cr.recsEq (l.drop (k + 1)) (r.drop (k + 1))) := by
  obtain ⟨hk, rfl⟩ := List.getElem?_eq_some_iff.1 hx
  obtain ⟨hk2, rfl⟩ := List.getElem?_eq_some_iff.1 hy
  rw [List.drop_eq_getElem_cons hk, List.drop_eq_getElem_cons hk2]
  rfl
end Go.Proofs.Ytccndbifnbmddaa
