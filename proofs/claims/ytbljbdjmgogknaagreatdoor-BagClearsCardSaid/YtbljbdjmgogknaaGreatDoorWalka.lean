/-
  The walks of the frame package's small functions: each returns what the plain check says, and leaves old memory as it was.
  Conditions: texts of at most the model's longest length; four bytes for a number.
-/
import Derived.Test.YtbljbdjmgogknaaGreatDoorRows
import Derived.Test.YtbljbdjmgogknaaGreatDoorNum
import Derived.Test.YtbljbdjmgogknaaGreatDoorStr
import Derived.Deep.QuietTactic
import Derived.BigQuiet
set_option linter.unusedVariables false
set_option linter.unusedSimpArgs false
namespace Go.Proofs.YtbljbdjmgogknaaGreatDoor
open Go.RowKit

theorem fold_take (r : BitVec 32) (l : List UInt8) (k : Nat) (h : k < l.length) : Crc.fold r (l.take (k + 1)) = Crc.upd (Crc.fold r (l.take k)) (l.getD k 0) := by
  rw [List.take_succ_eq_append_getElem h, Crc.fold_append]
  simp [Crc.fold, List.getD, h]

set_option maxHeartbeats 400000 in
theorem sum_any (l : List UInt8) (w : World) (hs : l.length ≤ maxLen) :
    Calls Tryz.prog 78 #[.string ⟨l.toArray⟩] w fun e w' => e = .returned (.int .u32 (Crc.sum l).toNat) ∧ Below w.heap.size w w' := by
  unfold maxLen at hs
  have hconv := Lib.run_convert_string_bytes (P := Tryz.prog) w 9 146 5 ⟨l.toArray⟩ Tryz.underlying9 Tryz.underlying146 Tryz.underlying5
  have hcell := Lib.bytesWorld_cell w 5 ⟨l.toArray⟩
  have hb := Lib.hid (below_bytesWorld w 5 ⟨l.toArray⟩)
  generalize hW1 : Lib.bytesWorld w 5 ⟨l.toArray⟩ = W1 at hconv hcell hb
  clear hW1
  have HC : ∀ k, k < l.length → W1.cell? ⟨w.heap.size, k, none⟩ = some (.int .u8 (l.getD k 0).toNat) := fun k hk => hcell k hk
  have HD := Lib.hid HC
  clear hcell HC
  go_enter Tryz.func78, Tryz.ntmps78
  go_wp2
  clear hconv
  go_loop [3, 9] (fun r i => ∃ k : Nat, k ≤ l.length ∧ i = .int .i64 k ∧ r = .int .u32 (Crc.fold Crc.ones (l.take k)).toNat) (fun _ i => l.length - (intOf i).toNat)
  case atStart => exact ⟨0, by omega, rfl, rfl⟩
  case round =>
    obtain ⟨k, hk, rfl, rfl⟩ := hrel
    by_cases hlt : k < l.length
    · have hck := HD.out k hlt
      have HF := Lib.hid (fold_take Crc.ones l k hlt)
      generalize l.getD k 0 = b at hck HF
      generalize Crc.fold Crc.ones (l.take k) = r0 at HF
      go_wp2
      go_loop [3, 17] (fun r i => ∃ j : Nat, j ≤ 8 ∧ i = .int .i64 j ∧ r = .int .u32 (Crc.stps j (r0 ^^^ Crc.z b)).toNat) (fun _ i => 8 - (intOf i).toNat)
      case atStart => exact ⟨0, by omega, rfl, by rw [enter_num]; rfl⟩
      case round =>
        obtain ⟨j, hj, rfl, rfl⟩ := hrel
        by_cases hj8 : j < 8
        · go_wp2
          go_round
          case rel => exact ⟨j + 1, by omega, by go_num, by rw [step_num]; rfl⟩
          case measure => simp [intOf]; omega
        · obtain rfl : j = 8 := by omega
          go_wp2
          go_round
          case rel => exact ⟨k + 1, by omega, by go_num, by rw [HF.out]; rfl⟩
          case measure => simp [intOf]; omega
    · obtain rfl : k = l.length := by omega
      go_wp2
      go_ret
      exact ⟨ret_int (by rw [not_num]; rfl), hb.out⟩

set_option maxHeartbeats 400000 in
theorem number_any (l : List UInt8) (w : World) (h4 : 4 ≤ l.length) (hs : l.length ≤ maxLen) :
    Calls Tryz.prog 90 #[.string ⟨l.toArray⟩] w fun e w' => e = .returned (.int .u32 (Crc.num l).toNat) ∧ w = w' := by
  unfold maxLen at hs
  have HG := Lib.hid (or_num (l.getD 0 0) (l.getD 1 0) (l.getD 2 0) (l.getD 3 0))
  go_enter Tryz.func90, Tryz.ntmps90
  go_wp2
  go_rounds 5 <;> go_wp2
  go_ret
  refine ⟨ret_int ?_, rfl⟩
  rw [bs_getD, bs_getD, bs_getD, bs_getD, HG.out, ← getD_four]

set_option maxHeartbeats 400000 in
theorem four_any (n : BitVec 32) (w : World) :
    Calls Tryz.prog 77 #[.int .u32 n.toNat] w fun e w' => e = .returned (.string ⟨(Crc.four n).toArray⟩) ∧ Below w.heap.size w w' := by
  have hconv := fun (a b c d : Int) => run_convert_bytes_arg (P := Tryz.prog) (w.alloc (.cells #[.int .u8 a, .int .u8 b, .int .u8 c, .int .u8 d] 145)) 146 5 Tryz.underlying146 Tryz.underlying5 w.heap.size 0 4 4 [a, b, c, d] rfl
    (fun i hi => by match i, hi with | 0, _ => simp [go_sem] | 1, _ => simp [go_sem] | 2, _ => simp [go_sem] | 3, _ => simp [go_sem]) 9 Tryz.underlying9
  go_enter Tryz.func77, Tryz.ntmps77
  go_wp2
  refine wp_loop_rounds 5 ?_
  rw [rounds_succ]; go_wp2
  rw [rounds_succ]; go_wp2
  rw [rounds_succ]; go_wp2
  rw [rounds_succ]; go_wp2
  rw [rounds_succ]; go_wp2
  go_ret
  exact ⟨ret_str (str_four n), by go_grown⟩

end Go.Proofs.YtbljbdjmgogknaaGreatDoor
