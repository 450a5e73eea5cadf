/-
  Dr: texts of one proof, one behind the other.
  Conditions: none of its own.
-/
import Derived.Test.YtbljbdjmgogknaaGreatDoorZaf
import Derived.Test.YtbljbdjmgogknaaGreatDoorCards
import Derived.Test.YtbljbdjmgogknaaGreatDoorTie
import Derived.Deep.DeepHandedRow
import Derived.Deep.DeepWitnessRowRef
import Derived.Lib.LaidTab
import Derived.Stop.LaidErr
set_option linter.unusedVariables false
set_option linter.unusedSimpArgs false
namespace Go.Proofs.YtbljbdjmgogknaaGreatDoor
open Go.RowKit
theorem own : ownKnob Tryz.prog.godebug = none := by kernel_rfl
theorem laidOut : laidOutB Tryz.prog = true := by kernel_rfl
abbrev listed : List (String × DataW Unit) := Rows.bagExactRow.laid
theorem tabType : (Tryz.prog.globals[3]?).map (·.type) = some 202 := by kernel_rfl
theorem tabCellsD : Tryz.prog.cellsOf 202 = 20 := by kernel_rfl
theorem u64Cells : Tryz.prog.cellsOf 191 = 1 := by kernel_rfl
theorem tabData_eq : (Rows.laid_internal_strconv_uint64pow10 : DataW Unit) = Lib.tabData .u64 Lib.pow10Tab := by kernel_rfl
theorem star : "*" ++ "errors.errorString" = "*errors.errorString" := by decide
theorem errRow (u : TypeId) (h : Tryz.prog.typeName? 3 u = some "*errors.errorString") : u = 209 :=
 typeName_ptr_named (nm := "errors.errorString") (by rw [star]; kernel_rfl) (by kernel_rfl) (by decide) u (by rw [star]; exact h)
theorem synType : (Tryz.prog.globals[1]?).map (·.type) = some 152 := by kernel_rfl
theorem rngType : (Tryz.prog.globals[2]?).map (·.type) = some 152 := by kernel_rfl
theorem errCells : Tryz.prog.cellsOf 211 = 1 := by kernel_rfl
theorem strCells : Tryz.prog.cellsOf 9 = 1 := by kernel_rfl
theorem lw_of {W : World} (hL : laidMetH Tryz.prog listed W) (hsh : W.ShapedOpen Tryz.prog) : Lw W := by
 have h : laidMet Tryz.prog listed W := hL
 have ht := h.tail.tail
 have hs := h.tail.tail.tail.tail
 have hr := h.tail.tail.tail
 refine ⟨?_,?_,?_,Tryz.laysM145.s1_3 W hsh⟩
 ·rw [tabData_eq] at ht
  exact Lib.tabIs_of_head gTab tabType Tryz.underlying202 Tryz.underlying191 u64Cells tabCellsD ht
 ·obtain ⟨a,s,hv,_⟩ := laid_sentinel hs gSyn synType Tryz.underlying152 errRow Tryz.underlying209 Tryz.underlying211 rfl rfl Tryz.underlying9 errCells strCells
  exact ⟨_,_,hv⟩
 ·obtain ⟨a,s,hv,_⟩ := laid_sentinel hr gRng rngType Tryz.underlying152 errRow Tryz.underlying209 Tryz.underlying211 rfl rfl Tryz.underlying9 errCells strCells
  exact ⟨_,_,hv⟩
noncomputable def lowB : Nat := (World.holding Tryz.prog default ⟨#[],#[],[]⟩).heap.size
noncomputable def laidWorld (os : Os) : World :=
 let w0 := World.holding Tryz.prog os ⟨#[.cells #[.string ⟨#[118,97,108,117,101,32,111,117,116,32,111,102,32,114,97,110,103,101]⟩] 211,.cells #[.string ⟨#[105,110,118,97,108,105,100,32,115,121,110,116,97,120]⟩] 211],#[],[]⟩
 {w0 with heap := ((((((((((w0.heap).modify 4 fun
   | .cells _ t frozen => .cells #[.int .u8 0,.int .u8 1,.int .u8 28,.int .u8 2,.int .u8 29,.int .u8 14,.int .u8 24,.int .u8 3,.int .u8 30,.int .u8 22,.int .u8 20,.int .u8 15,.int .u8 25,.int .u8 17,.int .u8 4,.int .u8 8,.int .u8 31,.int .u8 27,.int .u8 13,.int .u8 23,.int .u8 21,.int .u8 19,.int .u8 16,.int .u8 7,.int .u8 26,.int .u8 12,.int .u8 18,.int .u8 6,.int .u8 11,.int .u8 5,.int .u8 10,.int .u8 9] t frozen
   | o => o)).modify 5 fun
   | .cells _ t frozen => .cells #[.int .u8 0,.int .u8 1,.int .u8 56,.int .u8 2,.int .u8 57,.int .u8 49,.int .u8 28,.int .u8 3,.int .u8 61,.int .u8 58,.int .u8 42,.int .u8 50,.int .u8 38,.int .u8 29,.int .u8 17,.int .u8 4,.int .u8 62,.int .u8 47,.int .u8 59,.int .u8 36,.int .u8 45,.int .u8 43,.int .u8 51,.int .u8 22,.int .u8 53,.int .u8 39,.int .u8 33,.int .u8 30,.int .u8 24,.int .u8 18,.int .u8 12,.int .u8 5,.int .u8 63,.int .u8 55,.int .u8 48,.int .u8 27,.int .u8 60,.int .u8 41,.int .u8 37,.int .u8 16,.int .u8 46,.int .u8 35,.int .u8 44,.int .u8 21,.int .u8 52,.int .u8 32,.int .u8 23,.int .u8 11,.int .u8 54,.int .u8 26,.int .u8 40,.int .u8 15,.int .u8 34,.int .u8 20,.int .u8 31,.int .u8 10,.int .u8 25,.int .u8 14,.int .u8 19,.int .u8 9,.int .u8 13,.int .u8 8,.int .u8 7,.int .u8 6] t frozen
   | o => o)).modify 3 fun
   | .cells _ t frozen => .cells #[.int .u64 1,.int .u64 10,.int .u64 100,.int .u64 1000,.int .u64 10000,.int .u64 100000,.int .u64 1000000,.int .u64 10000000,.int .u64 100000000,.int .u64 1000000000,.int .u64 10000000000,.int .u64 100000000000,.int .u64 1000000000000,.int .u64 10000000000000,.int .u64 100000000000000,.int .u64 1000000000000000,.int .u64 10000000000000000,.int .u64 100000000000000000,.int .u64 1000000000000000000,.int .u64 10000000000000000000] t frozen
   | o => o)).modify 2 fun
   | .cells _ t frozen => .cells #[.iface 209 (.pointer (some ⟨lowB,0,none⟩))] t frozen
   | o => o)).modify 1 fun
   | .cells _ t frozen => .cells #[.iface 209 (.pointer (some ⟨lowB + 1,0,none⟩))] t frozen
   | o => o) }
theorem laid_met (os : Os) (args : Array Value) : laidMet Tryz.prog listed ((laidWorld os).forCall (fun _ _ => 0) ⟨#[],args,[]⟩).memory :=
 laidMet_of_run' 8 (by kernel_rfl) (by kernel_rfl)
end Go.Proofs.YtbljbdjmgogknaaGreatDoor
