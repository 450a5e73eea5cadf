/-
  The walks of the frame package's small functions: each returns what the plain check says, and leaves old memory as it was.
  Conditions: texts of at most the model's longest length; four bytes for a number.
-/
import Derived.Test.YtlieanigefjocaaRows
import Derived.Test.YtlieanigefjocaaNum
import Derived.Test.YtlieanigefjocaaStr
import Derived.Deep.QuietTactic
import Derived.BigQuiet
set_option linter.unusedVariables false
set_option linter.unusedSimpArgs false
namespace Go.Proofs.Ytlieanigefjocaa
open Go.RowKit

theorem fold_take (r : BitVec 32) (l : List UInt8) (k : Nat) (h : k < l.length) : Crc.fold r (l.take (k + 1)) = Crc.upd (Crc.fold r (l.take k)) (l.getD k 0) := by
  rw [List.take_succ_eq_append_getElem h, Crc.fold_append]
  simp [Crc.fold, List.getD, h]

set_option maxHeartbeats 400000 in
theorem sum_any (l : List UInt8) (w : World) (hs : l.length ≤ maxLen) :
    Calls Try.prog 13 #[.string ⟨l.toArray⟩] w fun e w' => e = .returned (.int .u32 (Crc.sum l).toNat) ∧ Below w.heap.size w w' := by
  unfold maxLen at hs
  have hconv := Lib.run_convert_string_bytes (P := Try.prog) w 9 42 5 ⟨l.toArray⟩ Try.underlying9 Try.underlying42 Try.underlying5
  have hcell := Lib.bytesWorld_cell w 5 ⟨l.toArray⟩
  have hb := Lib.hid (below_bytesWorld w 5 ⟨l.toArray⟩)
  generalize hW1 : Lib.bytesWorld w 5 ⟨l.toArray⟩ = W1 at hconv hcell hb
  clear hW1
  have HC : ∀ k, k < l.length → W1.cell? ⟨w.heap.size, k, none⟩ = some (.int .u8 (l.getD k 0).toNat) := fun k hk => hcell k hk
  have HD := Lib.hid HC
  clear hcell HC
  go_enter Try.func13, Try.ntmps13
  go_wp2
  clear hconv
  go_loop [3, 9] (fun r i => ∃ k : Nat, k ≤ l.length ∧ i = .int .i64 k ∧ r = .int .u32 (Crc.fold Crc.ones (l.take k)).toNat) (fun _ i => l.length - (intOf i).toNat)
  case atStart => exact ⟨0, by omega, rfl, rfl⟩
  case round =>
    obtain ⟨k, hk, rfl, rfl⟩ := hrel
    by_cases hlt : k < l.length
    · have hck := HD.out k hlt
      have HF := Lib.hid (fold_take Crc.ones l k hlt)
      generalize l.getD k 0 = b at hck HF
      generalize Crc.fold Crc.ones (l.take k) = r0 at HF
      go_wp2
      go_loop [3, 17] (fun r i => ∃ j : Nat, j ≤ 8 ∧ i = .int .i64 j ∧ r = .int .u32 (Crc.stps j (r0 ^^^ Crc.z b)).toNat) (fun _ i => 8 - (intOf i).toNat)
      case atStart => exact ⟨0, by omega, rfl, by rw [enter_num]; rfl⟩
      case round =>
        obtain ⟨j, hj, rfl, rfl⟩ := hrel
        by_cases hj8 : j < 8
        · go_wp2
          go_round
          case rel => exact ⟨j + 1, by omega, by go_num, by rw [step_num]; rfl⟩
          case measure => simp [intOf]; omega
        · obtain rfl : j = 8 := by omega
          go_wp2
          go_round
          case rel => exact ⟨k + 1, by omega, by go_num, by rw [HF.out]; rfl⟩
          case measure => simp [intOf]; omega
    · obtain rfl : k = l.length := by omega
      go_wp2
      go_ret
      exact ⟨ret_int (by rw [not_num]; rfl), hb.out⟩

set_option maxHeartbeats 400000 in
theorem refsum_any (l : List UInt8) (w : World) (hs : l.length ≤ maxLen) :
    Calls Try.prog 14 #[.string ⟨l.toArray⟩] w fun e w' => e = .returned (.int .u32 (Crc.sum l).toNat) ∧ w = w' := by
  unfold maxLen at hs
  go_enter Try.func14, Try.ntmps14
  go_wp2
  go_loop [3, 4] (fun r i => ∃ k : Nat, k ≤ l.length ∧ i = .int .i64 k ∧ r = .int .u32 (Crc.fold Crc.ones (l.take k)).toNat) (fun _ i => l.length - (intOf i).toNat)
  case atStart => exact ⟨0, by omega, rfl, rfl⟩
  case round =>
    obtain ⟨k, hk, rfl, rfl⟩ := hrel
    by_cases hlt : k < l.length
    · have HF := Lib.hid (fold_take Crc.ones l k hlt)
      have hix := str_at (P := Try.prog) l k k rfl hlt 9 Try.underlying9
      generalize Crc.fold Crc.ones (l.take k) = r0 at HF
      generalize l.getD k 0 = b at HF hix
      go_wp2
      go_loop [3, 5] (fun r i => ∃ j : Nat, j ≤ 8 ∧ i = .int .i64 j ∧ r = .int .u32 (part r0 b j).toNat) (fun _ i => 8 - (intOf i).toNat)
      case atStart => exact ⟨0, by omega, rfl, by rw [part_zero]⟩
      case round =>
        obtain ⟨j, hj, rfl, rfl⟩ := hrel
        by_cases hj8 : j < 8
        · go_wp2
          · have ht : (bits .and .u32 ((b.toNat : Int) / 2 ^ j % 4294967296) 1 != bits .and .u32 ((part r0 b j).toNat : Int) 1) = true := by assumption
            go_round
            case rel => exact ⟨j + 1, by omega, by go_num, by rw [part_yes _ _ _ ht]⟩
            case measure => simp [intOf]; omega
          · have ht : (bits .and .u32 ((b.toNat : Int) / 2 ^ j % 4294967296) 1 != bits .and .u32 ((part r0 b j).toNat : Int) 1) = false := by assumption
            go_round
            case rel => exact ⟨j + 1, by omega, by go_num, by rw [part_no _ _ _ ht]⟩
            case measure => simp [intOf]; omega
        · obtain rfl : j = 8 := by omega
          go_wp2
          go_round
          case rel => exact ⟨k + 1, by omega, by go_num, by rw [HF.out, part_eight]⟩
          case measure => simp [intOf]; omega
    · obtain rfl : k = l.length := by omega
      go_wp2
      go_ret
      exact ⟨ret_int (by rw [not_num']; rfl), rfl⟩

set_option maxHeartbeats 400000 in
theorem number_any (l : List UInt8) (w : World) (h4 : 4 ≤ l.length) (hs : l.length ≤ maxLen) :
    Calls Try.prog 22 #[.string ⟨l.toArray⟩] w fun e w' => e = .returned (.int .u32 (Crc.num l).toNat) ∧ w = w' := by
  unfold maxLen at hs
  have HG := Lib.hid (or_num (l.getD 0 0) (l.getD 1 0) (l.getD 2 0) (l.getD 3 0))
  go_enter Try.func22, Try.ntmps22
  go_wp2
  go_rounds 5 <;> go_wp2
  go_ret
  refine ⟨ret_int ?_, rfl⟩
  rw [bs_getD, bs_getD, bs_getD, bs_getD, HG.out, ← getD_four]

set_option maxHeartbeats 400000 in
theorem read_any (l : List UInt8) (w : World) (h4 : 4 ≤ l.length) (hs : l.length ≤ maxLen) :
    Calls Try.prog 23 #[.string ⟨l.toArray⟩] w fun e w' => e = .returned (.int .u32 (Crc.num l).toNat) ∧ ∃ n, w' = w.drewN n := by
  unfold maxLen at hs
  have h0 := str_at (P := Try.prog) l 0 0 rfl (by omega) 9 Try.underlying9
  have h1 := str_at (P := Try.prog) l 1 1 rfl (by omega) 9 Try.underlying9
  have h2 := str_at (P := Try.prog) l 2 2 rfl (by omega) 9 Try.underlying9
  have h3 := str_at (P := Try.prog) l 3 3 rfl (by omega) 9 Try.underlying9
  have HG := Lib.hid ((getD_four l).symm ▸ num_toNat (l.getD 0 0) (l.getD 1 0) (l.getD 2 0) (l.getD 3 0))
  generalize l.getD 0 0 = b0 at h0 HG
  generalize l.getD 1 0 = b1 at h1 HG
  generalize l.getD 2 0 = b2 at h2 HG
  generalize l.getD 3 0 = b3 at h3 HG
  go_enter Try.func23, Try.ntmps23
  go_wp2
  go_quiet (fail)
  go_wp2
  go_ret
  have g0 := b0.toNat_lt
  have g1 := b1.toNat_lt
  have g2 := b2.toNat_lt
  have g3 := b3.toNat_lt
  exact ⟨ret_int (by rw [HG.out]; omega), nq, rfl⟩

set_option maxHeartbeats 400000 in
theorem four_any (n : BitVec 32) (w : World) :
    Calls Try.prog 20 #[.int .u32 n.toNat] w fun e w' => e = .returned (.string ⟨(Crc.four n).toArray⟩) ∧ Below w.heap.size w w' := by
  have hconv := fun (a b c d : Int) => run_convert_bytes_arg (P := Try.prog) (w.alloc (.cells #[.int .u8 a, .int .u8 b, .int .u8 c, .int .u8 d] 39)) 42 5 Try.underlying42 Try.underlying5 w.heap.size 0 4 4 [a, b, c, d] rfl
    (fun i hi => by match i, hi with | 0, _ => simp [go_sem] | 1, _ => simp [go_sem] | 2, _ => simp [go_sem] | 3, _ => simp [go_sem]) 9 Try.underlying9
  go_enter Try.func20, Try.ntmps20
  go_wp2
  refine wp_loop_rounds 5 ?_
  rw [rounds_succ]; go_wp2
  rw [rounds_succ]; go_wp2
  rw [rounds_succ]; go_wp2
  rw [rounds_succ]; go_wp2
  rw [rounds_succ]; go_wp2
  go_ret
  exact ⟨ret_str (str_four n), by go_grown⟩

set_option maxHeartbeats 400000 in
theorem reffour_any (n : BitVec 32) (w : World) :
    Calls Try.prog 21 #[.int .u32 n.toNat] w fun e w' => e = .returned (.string ⟨(Crc.four n).toArray⟩) ∧ Below w.heap.size w w' := by
  have hconv := fun (a b c d : Int) => run_convert_bytes_arg (P := Try.prog) (w.alloc (.cells #[.int .u8 a, .int .u8 b, .int .u8 c, .int .u8 d] 5)) 42 5 Try.underlying42 Try.underlying5 w.heap.size 0 4 4 [a, b, c, d] rfl
    (fun i hi => by match i, hi with | 0, _ => simp [go_sem] | 1, _ => simp [go_sem] | 2, _ => simp [go_sem] | 3, _ => simp [go_sem]) 9 Try.underlying9
  go_enter Try.func21, Try.ntmps21
  go_wp2
  go_ret
  exact ⟨ret_str (str_four n), by go_grown⟩

end Go.Proofs.Ytlieanigefjocaa
