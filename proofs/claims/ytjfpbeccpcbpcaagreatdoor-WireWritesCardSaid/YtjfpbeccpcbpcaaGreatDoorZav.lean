/-
  Num / Walka / Frm / Walkb / Wf3: texts of one proof, one behind the other.
  Conditions: none of its own.
-/
import Derived.Test.YtjfpbeccpcbpcaaGreatDoorZaa
import Derived.Test.YtjfpbeccpcbpcaaGreatDoorZah
import Derived.Test.YtjfpbeccpcbpcaaGreatDoorZaq
import Derived.Test.YtjfpbeccpcbpcaaGreatDoorZau
import Derived.WalkKit
import Derived.Test.YtjfpbeccpcbpcaaGreatDoorRows
import Derived.Deep.QuietTactic
import Derived.BigQuiet
import Derived.Deep.RegionWith
set_option linter.unusedVariables false
set_option linter.unusedSimpArgs false
namespace Go.Proofs.YtjfpbeccpcbpcaaGreatDoor
open Go.RowKit Crc
theorem bits_xor_bv (a b : BitVec 32) : bits .xor .u32 (a.toNat : Int) (b.toNat : Int) = ((a ^^^ b).toNat : Int) := by
 rw [u32_xor_nat _ _ a.isLt b.isLt, BitVec.toNat_xor]
theorem z_toNat (b : UInt8) : (z b).toNat = b.toNat := by
 unfold z
 rw [BitVec.toNat_setWidth]
 have := b.toNat_lt
 show b.toNat % 2 ^ 32 = b.toNat
 omega
theorem half_bv (r : BitVec 32) : ((r.toNat : Int) / (2 : Int)) = ((r >>> 1).toNat : Int) := by
 rw [BitVec.toNat_ushiftRight, Nat.shiftRight_eq_div_pow]; omega
theorem low_bv (r : BitVec 32) : r.getLsbD 0 = decide (r.toNat % 2 = 1) := by
 simp [BitVec.getLsbD, Nat.testBit_zero]
theorem step_num (r : BitVec 32) :
  bits .xor .u32 ((r.toNat : Int) / 2) (bits .and .u32 3988292384 (-bits .and .u32 (r.toNat : Int) 1 % 4294967296)) = ((stp r).toNat : Int) := by
 have h1 : bits .and .u32 (r.toNat : Int) 1 = ((r.toNat % 2 : Nat) : Int) := by
  have := u32_and_nat r.toNat 1 r.isLt (by omega)
  rw [nat_mask1] at this
  exact this
 have hx := low_bv r
 rw [h1, half_bv]
 unfold stp
 rw [hx]
 by_cases h : r.toNat % 2 = 1
 ·have e1 : (-((r.toNat % 2 : Nat) : Int)) % 4294967296 = 4294967295 := by rw [h]; rfl
  have e2 : bits .and .u32 3988292384 4294967295 = ((poly).toNat : Int) := by decide +kernel
  rw [e1, e2, bits_xor_bv]
  simp [h]
 ·have h0 : r.toNat % 2 = 0 := by omega
  have e1 : (-((r.toNat % 2 : Nat) : Int)) % 4294967296 = 0 := by rw [h0]; rfl
  have e2 : bits .and .u32 3988292384 0 = ((0#32).toNat : Int) := by decide +kernel
  rw [e1, e2, bits_xor_bv]
  simp [h]
theorem enter_num (r : BitVec 32) (b : UInt8) : bits .xor .u32 (r.toNat : Int) ((b.toNat : Int) % 4294967296) = ((r ^^^ z b).toNat : Int) := by
 have e : ((b.toNat : Int) % 4294967296) = ((z b).toNat : Int) := by rw [z_toNat]; have := b.toNat_lt; omega
 rw [e, bits_xor_bv]
theorem not_num (r : BitVec 32) : bits .xor .u32 IntKind.u32.max (r.toNat : Int) = ((r ^^^ ones).toNat : Int) := by
 have e : IntKind.u32.max = ((ones).toNat : Int) := by decide +kernel
 rw [e, bits_xor_bv, BitVec.xor_comm]
theorem not_num' (r : BitVec 32) : bits .xor .u32 (r.toNat : Int) 4294967295 = ((r ^^^ ones).toNat : Int) := by
 have e : (4294967295 : Int) = ((ones).toNat : Int) := by decide +kernel
 rw [e, bits_xor_bv]
theorem num_toNat (a b c d : UInt8) : (num [a, b, c, d]).toNat = a.toNat + b.toNat * 256 + c.toNat * 65536 + d.toNat * 16777216 := by
 have ha := a.toNat_lt; have hb := b.toNat_lt; have hc := c.toNat_lt; have hd := d.toNat_lt
 have e : a.toNat + b.toNat * 256 + c.toNat * 65536 + d.toNat * 16777216 = 2 ^ 8 * (2 ^ 8 * (2 ^ 8 * d.toNat + c.toNat) + b.toNat) + a.toNat := by omega
 rw [e]
 apply Nat.eq_of_testBit_eq
 intro i
 have h := num_getLsbD a b c d i
 rw [BitVec.getLsbD] at h
 rw [h, Nat.testBit_two_pow_mul_add _ ha, Nat.testBit_two_pow_mul_add _ hb, Nat.testBit_two_pow_mul_add _ hc]
 have g : ∀ (x : UInt8) (j : Nat), x.toBitVec.getLsbD j = x.toNat.testBit j := fun _ _ => rfl
 simp only [g]
 by_cases h1 : i < 8
 ·simp [h1]
 ·by_cases h2 : i < 16
  ·simp [h1, h2, show i - 8 < 8 by omega]
  ·by_cases h3 : i < 24
   ·have e3 : i - 8 - 8 = i - 16 := by omega
    have e4 : ¬ 8 ≤ i - 16 := by omega
    simp [h1, h2, h3, show ¬ i - 8 < 8 by omega, e3, e4]
   ·have e3 : i - 8 - 8 - 8 = i - 24 := by omega
    by_cases h4 : i < 32
    ·simp [h1, h2, h3, h4, show ¬ i - 8 < 8 by omega, show ¬ i - 8 - 8 < 8 by omega, e3]
    ·have : d.toNat.testBit (i - 24) = false := Nat.testBit_lt_two_pow (Nat.lt_of_lt_of_le hd (Nat.pow_le_pow_right (by omega) (show 8 ≤ i - 24 by omega)))
     simp [h1, h2, h3, h4, show ¬ i - 8 < 8 by omega, show ¬ i - 8 - 8 < 8 by omega, e3, this]
theorem or_num (a b c d : UInt8) :
  bits .or .u32 (bits .or .u32 (bits .or .u32 (bits .or .u32 0 ((a.toNat : Int) % 4294967296)) ((b.toNat : Int) % 4294967296 * 256 % 4294967296)) ((c.toNat : Int) % 4294967296 * 65536 % 4294967296)) ((d.toNat : Int) % 4294967296 * 16777216 % 4294967296) = ((num [a, b, c, d]).toNat : Int) := by
 have ha := a.toNat_lt; have hb := b.toNat_lt; have hc := c.toNat_lt; have hd := d.toNat_lt
 have e1 : ((a.toNat : Int) % 4294967296) = ((a.toNat : Nat) : Int) := by omega
 have e2 : ((b.toNat : Int) % 4294967296 * 256 % 4294967296) = ((b.toNat * 256 : Nat) : Int) := by omega
 have e3 : ((c.toNat : Int) % 4294967296 * 65536 % 4294967296) = ((c.toNat * 65536 : Nat) : Int) := by omega
 have e4 : ((d.toNat : Int) % 4294967296 * 16777216 % 4294967296) = ((d.toNat * 16777216 : Nat) : Int) := by omega
 have e0 : (0 : Int) = ((0 : Nat) : Int) := rfl
 rw [e1, e2, e3, e4, e0, u32_or_nat 0 _ (by omega) (by omega), Nat.zero_or, u32_or_nat _ _ (by omega) (by omega), Nat.or_comm a.toNat,
  nat_join 8 _ _ (by omega) (by omega), u32_or_nat _ _ (by omega) (by omega), Nat.or_comm _ (c.toNat * 65536), nat_join 16 _ _ (by omega) (by omega),
  u32_or_nat _ _ (by omega) (by omega), Nat.or_comm _ (d.toNat * 16777216), nat_join 24 _ _ (by omega) (by omega), num_toNat]
 omega
theorem byte_num (n : BitVec 32) (k : Nat) : UInt8.ofNat (((n.toNat : Int) / ((2 ^ k : Nat) : Int) % 256).toNat) = (⟨(n >>> k).setWidth 8⟩ : UInt8) := by
 apply UInt8.eq_of_toBitVec_eq
 apply BitVec.eq_of_toNat_eq
 have e : ((n.toNat : Int) / ((2 ^ k : Nat) : Int) % 256).toNat = n.toNat / 2 ^ k % 256 := by
  rw [← Int.natCast_ediv]; omega
 rw [e]
 simp [BitVec.toNat_setWidth, BitVec.toNat_ushiftRight, Nat.shiftRight_eq_div_pow]
def part (r : BitVec 32) (b : UInt8) (j : Nat) : BitVec 32 := stps j (r ^^^ z b) ^^^ (z b >>> j)
theorem part_zero (r : BitVec 32) (b : UInt8) : part r b 0 = r := by simp [part, stps, BitVec.xor_assoc]
theorem part_eight (r : BitVec 32) (b : UInt8) : part r b 8 = upd r b := by
 have : z b >>> 8 = 0#32 := by
  apply BitVec.eq_of_getLsbD_eq
  intro i hi
  rw [BitVec.getLsbD_ushiftRight, z_high b _ (by omega)]
  simp
 rw [part, this]
 simp [upd]
theorem part_succ (r : BitVec 32) (b : UInt8) (j : Nat) : part r b (j + 1) = (part r b j >>> 1) ^^^ (if (z b >>> j).getLsbD 0 = (part r b j).getLsbD 0 then 0#32 else poly) := by
 have e1 : part r b j >>> 1 = (stps j (r ^^^ z b) >>> 1) ^^^ (z b >>> (j + 1)) := by
  rw [part, BitVec.ushiftRight_xor_distrib, ← BitVec.shiftRight_add]
 have e2 : (part r b j).getLsbD 0 = ((stps j (r ^^^ z b)).getLsbD 0 ^^ (z b >>> j).getLsbD 0) := by rw [part, BitVec.getLsbD_xor]
 rw [e1, e2]
 show stp (stps j (r ^^^ z b)) ^^^ (z b >>> (j + 1)) = _
 unfold stp
 rw [BitVec.xor_assoc, BitVec.xor_assoc, BitVec.xor_comm (z b >>> (j + 1))]
 congr 2
 cases (stps j (r ^^^ z b)).getLsbD 0 <;> cases (z b >>> j).getLsbD 0 <;> rfl
theorem bit_num (b : UInt8) (j : Nat) : bits .and .u32 ((b.toNat : Int) / 2 ^ j % 4294967296) 1 = (((z b >>> j).toNat % 2 : Nat) : Int) := by
 have hb := b.toNat_lt
 have e : ((b.toNat : Int) / 2 ^ j % 4294967296) = ((b.toNat / 2 ^ j : Nat) : Int) := by
  have h2 : b.toNat / 2 ^ j ≤ b.toNat := Nat.div_le_self _ _
  have h3 : (b.toNat : Int) / 2 ^ j = ((b.toNat / 2 ^ j : Nat) : Int) := by rw [Int.natCast_ediv, Int.natCast_pow]; rfl
  rw [h3]
  generalize b.toNat / 2 ^ j = q at h2
  omega
 have h2 : b.toNat / 2 ^ j ≤ b.toNat := Nat.div_le_self _ _
 have := u32_and_nat (b.toNat / 2 ^ j) 1 (by omega) (by omega)
 rw [nat_mask1] at this
 rw [e, BitVec.toNat_ushiftRight, z_toNat, Nat.shiftRight_eq_div_pow]
 exact this
theorem low_num (r : BitVec 32) : bits .and .u32 (r.toNat : Int) 1 = ((r.toNat % 2 : Nat) : Int) := by
 have := u32_and_nat r.toNat 1 r.isLt (by omega)
 rw [nat_mask1] at this
 exact this
theorem part_yes (r : BitVec 32) (b : UInt8) (j : Nat) (h : (bits .and .u32 ((b.toNat : Int) / 2 ^ j % 4294967296) 1 != bits .and .u32 ((part r b j).toNat : Int) 1) = true) :
  bits .xor .u32 (((part r b j).toNat : Int) / 2) 3988292384 = ((part r b (j + 1)).toNat : Int) := by
 rw [bit_num, low_num] at h
 have hp : (3988292384 : Int) = ((poly).toNat : Int) := by decide +kernel
 rw [half_bv, hp, bits_xor_bv, part_succ, low_bv, low_bv]
 have h' : ¬ ((z b >>> j).toNat % 2 = (part r b j).toNat % 2) := by
  intro e; rw [e] at h; simp at h
 have h1 := Nat.mod_two_eq_zero_or_one (z b >>> j).toNat
 have h2 := Nat.mod_two_eq_zero_or_one (part r b j).toNat
 rw [if_neg]
 simp only [decide_eq_decide]
 omega
theorem part_no (r : BitVec 32) (b : UInt8) (j : Nat) (h : (bits .and .u32 ((b.toNat : Int) / 2 ^ j % 4294967296) 1 != bits .and .u32 ((part r b j).toNat : Int) 1) = false) :
  (((part r b j).toNat : Int) / 2) = ((part r b (j + 1)).toNat : Int) := by
 rw [bit_num, low_num] at h
 rw [half_bv, part_succ, low_bv, low_bv]
 have h' : (z b >>> j).toNat % 2 = (part r b j).toNat % 2 := by
  simp only [bne_eq_false_iff_eq] at h
  exact_mod_cast h
 rw [if_pos (by rw [h'])]
 simp
theorem getD_four (l : List UInt8) : num l = num [l.getD 0 0, l.getD 1 0, l.getD 2 0, l.getD 3 0] := rfl
theorem str_four (n : BitVec 32) : strOfNums [(n.toNat : Int) % 256, (n.toNat : Int) / 256 % 256, (n.toNat : Int) / 65536 % 256, (n.toNat : Int) / 16777216] = ⟨(four n).toArray⟩ := by
 have e0 := byte_num n 0
 have e1 := byte_num n 8
 have e2 := byte_num n 16
 have e3 := byte_num n 24
 have h3 : (n.toNat : Int) / 16777216 = (n.toNat : Int) / 16777216 % 256 := by have := n.isLt; omega
 rw [h3]
 unfold strOfNums four
 simp only [List.map_cons, List.map_nil]
 simp at e0
 rw [← e1, ← e2, ← e3, ← e0]
 rfl
end Go.Proofs.YtjfpbeccpcbpcaaGreatDoor
namespace Go.Proofs.YtjfpbeccpcbpcaaGreatDoor
open Go.RowKit
theorem fold_take (r : BitVec 32) (l : List UInt8) (k : Nat) (h : k < l.length) : Crc.fold r (l.take (k + 1)) = Crc.upd (Crc.fold r (l.take k)) (l.getD k 0) := by
 rw [List.take_succ_eq_append_getElem h, Crc.fold_append]
 simp [Crc.fold, List.getD, h]
set_option maxHeartbeats 400000 in
theorem sum_any (l : List UInt8) (w : World) (hs : l.length ≤ maxLen) :
  Calls Tryz.prog 78 #[.string ⟨l.toArray⟩] w fun e w' => e = .returned (.int .u32 (Crc.sum l).toNat) ∧ Below w.heap.size w w' := by
 unfold maxLen at hs
 have hconv := Lib.run_convert_string_bytes (P := Tryz.prog) w 9 49 5 ⟨l.toArray⟩ Tryz.underlying9 Tryz.underlying49 Tryz.underlying5
 have hcell := Lib.bytesWorld_cell w 5 ⟨l.toArray⟩
 have hb := Lib.hid (below_bytesWorld w 5 ⟨l.toArray⟩)
 generalize hW1 : Lib.bytesWorld w 5 ⟨l.toArray⟩ = W1 at hconv hcell hb
 clear hW1
 have HC : ∀ k, k < l.length → W1.cell? ⟨w.heap.size, k, none⟩ = some (.int .u8 (l.getD k 0).toNat) := fun k hk => hcell k hk
 have HD := Lib.hid HC
 clear hcell HC
 go_enter Tryz.func78, Tryz.ntmps78
 go_wp2
 clear hconv
 go_loop [3, 9] (fun r i => ∃ k : Nat, k ≤ l.length ∧ i = .int .i64 k ∧ r = .int .u32 (Crc.fold Crc.ones (l.take k)).toNat) (fun _ i => l.length - (intOf i).toNat)
 case atStart => exact ⟨0, by omega, rfl, rfl⟩
 case round =>
  obtain ⟨k, hk, rfl, rfl⟩ := hrel
  by_cases hlt : k < l.length
  ·have hck := HD.out k hlt
   have HF := Lib.hid (fold_take Crc.ones l k hlt)
   generalize l.getD k 0 = b at hck HF
   generalize Crc.fold Crc.ones (l.take k) = r0 at HF
   go_wp2
   go_loop [3, 17] (fun r i => ∃ j : Nat, j ≤ 8 ∧ i = .int .i64 j ∧ r = .int .u32 (Crc.stps j (r0 ^^^ Crc.z b)).toNat) (fun _ i => 8 - (intOf i).toNat)
   case atStart => exact ⟨0, by omega, rfl, by rw [enter_num]; rfl⟩
   case round =>
    obtain ⟨j, hj, rfl, rfl⟩ := hrel
    by_cases hj8 : j < 8
    ·go_wp2
     go_round
     case rel => exact ⟨j + 1, by omega, by go_num, by rw [step_num]; rfl⟩
     case measure => simp [intOf]; omega
    ·obtain rfl : j = 8 := by omega
     go_wp2
     go_round
     case rel => exact ⟨k + 1, by omega, by go_num, by rw [HF.out]; rfl⟩
     case measure => simp [intOf]; omega
  ·obtain rfl : k = l.length := by omega
   go_wp2
   go_ret
   exact ⟨ret_int (by rw [not_num]; rfl), hb.out⟩
set_option maxHeartbeats 400000 in
theorem refsum_any (l : List UInt8) (w : World) (hs : l.length ≤ maxLen) :
  Calls Tryz.prog 88 #[.string ⟨l.toArray⟩] w fun e w' => e = .returned (.int .u32 (Crc.sum l).toNat) ∧ w = w' := by
 unfold maxLen at hs
 go_enter Tryz.func88, Tryz.ntmps88
 go_wp2
 go_loop [3, 4] (fun r i => ∃ k : Nat, k ≤ l.length ∧ i = .int .i64 k ∧ r = .int .u32 (Crc.fold Crc.ones (l.take k)).toNat) (fun _ i => l.length - (intOf i).toNat)
 case atStart => exact ⟨0, by omega, rfl, rfl⟩
 case round =>
  obtain ⟨k, hk, rfl, rfl⟩ := hrel
  by_cases hlt : k < l.length
  ·have HF := Lib.hid (fold_take Crc.ones l k hlt)
   have hix := str_at (P := Tryz.prog) l k k rfl hlt 9 Tryz.underlying9
   generalize Crc.fold Crc.ones (l.take k) = r0 at HF
   generalize l.getD k 0 = b at HF hix
   go_wp2
   go_loop [3, 5] (fun r i => ∃ j : Nat, j ≤ 8 ∧ i = .int .i64 j ∧ r = .int .u32 (part r0 b j).toNat) (fun _ i => 8 - (intOf i).toNat)
   case atStart => exact ⟨0, by omega, rfl, by rw [part_zero]⟩
   case round =>
    obtain ⟨j, hj, rfl, rfl⟩ := hrel
    by_cases hj8 : j < 8
    ·go_wp2
     ·have ht : (bits .and .u32 ((b.toNat : Int) / 2 ^ j % 4294967296) 1 != bits .and .u32 ((part r0 b j).toNat : Int) 1) = true := by assumption
      go_round
      case rel => exact ⟨j + 1, by omega, by go_num, by rw [part_yes _ _ _ ht]⟩
      case measure => simp [intOf]; omega
     ·have ht : (bits .and .u32 ((b.toNat : Int) / 2 ^ j % 4294967296) 1 != bits .and .u32 ((part r0 b j).toNat : Int) 1) = false := by assumption
      go_round
      case rel => exact ⟨j + 1, by omega, by go_num, by rw [part_no _ _ _ ht]⟩
      case measure => simp [intOf]; omega
    ·obtain rfl : j = 8 := by omega
     go_wp2
     go_round
     case rel => exact ⟨k + 1, by omega, by go_num, by rw [HF.out, part_eight]⟩
     case measure => simp [intOf]; omega
  ·obtain rfl : k = l.length := by omega
   go_wp2
   go_ret
   exact ⟨ret_int (by rw [not_num']; rfl), rfl⟩
set_option maxHeartbeats 400000 in
theorem number_any (l : List UInt8) (w : World) (h4 : 4 ≤ l.length) (hs : l.length ≤ maxLen) :
  Calls Tryz.prog 109 #[.string ⟨l.toArray⟩] w fun e w' => e = .returned (.int .u32 (Crc.num l).toNat) ∧ w = w' := by
 unfold maxLen at hs
 have HG := Lib.hid (or_num (l.getD 0 0) (l.getD 1 0) (l.getD 2 0) (l.getD 3 0))
 go_enter Tryz.func109, Tryz.ntmps109
 go_wp2
 go_rounds 5 <;> go_wp2
 go_ret
 refine ⟨ret_int ?_, rfl⟩
 rw [bs_getD, bs_getD, bs_getD, bs_getD, HG.out, ← getD_four]
set_option maxHeartbeats 400000 in
theorem four_any (n : BitVec 32) (w : World) :
  Calls Tryz.prog 77 #[.int .u32 n.toNat] w fun e w' => e = .returned (.string ⟨(Crc.four n).toArray⟩) ∧ Below w.heap.size w w' := by
 have hconv := fun (a b c d : Int) => run_convert_bytes_arg (P := Tryz.prog) (w.alloc (.cells #[.int .u8 a, .int .u8 b, .int .u8 c, .int .u8 d] 47)) 49 5 Tryz.underlying49 Tryz.underlying5 w.heap.size 0 4 4 [a, b, c, d] rfl
  (fun i hi => by match i, hi with | 0, _ => simp [go_sem] | 1, _ => simp [go_sem] | 2, _ => simp [go_sem] | 3, _ => simp [go_sem]) 9 Tryz.underlying9
 go_enter Tryz.func77, Tryz.ntmps77
 go_wp2
 refine wp_loop_rounds 5 ?_
 rw [rounds_succ]; go_wp2
 rw [rounds_succ]; go_wp2
 rw [rounds_succ]; go_wp2
 rw [rounds_succ]; go_wp2
 rw [rounds_succ]; go_wp2
 go_ret
 exact ⟨ret_str (str_four n), by go_grown⟩
set_option maxHeartbeats 400000 in
theorem reffour_any (n : BitVec 32) (w : World) :
  Calls Tryz.prog 87 #[.int .u32 n.toNat] w fun e w' => e = .returned (.string ⟨(Crc.four n).toArray⟩) ∧ Below w.heap.size w w' := by
 have hconv := fun (a b c d : Int) => run_convert_bytes_arg (P := Tryz.prog) (w.alloc (.cells #[.int .u8 a, .int .u8 b, .int .u8 c, .int .u8 d] 5)) 49 5 Tryz.underlying49 Tryz.underlying5 w.heap.size 0 4 4 [a, b, c, d] rfl
  (fun i hi => by match i, hi with | 0, _ => simp [go_sem] | 1, _ => simp [go_sem] | 2, _ => simp [go_sem] | 3, _ => simp [go_sem]) 9 Tryz.underlying9
 go_enter Tryz.func87, Tryz.ntmps87
 go_wp2
 go_ret
 exact ⟨ret_str (str_four n), by go_grown⟩
end Go.Proofs.YtjfpbeccpcbpcaaGreatDoor
namespace Go.Proofs.YtjfpbeccpcbpcaaGreatDoor.Frm
open Crc
def put (l : List UInt8) : List UInt8 := four (BitVec.ofNat 32 l.length) ++ (four (sum l) ++ l)
def next (l : List UInt8) (k : Int) : List UInt8 × Int × Int :=
 if k < 0 ∨ (l.length : Int) < k then ([], 0, 1) else
 let r := l.drop k.toNat
 if r.length < 8 then ([], 0, 5) else
 let n := (num r).toNat
 if 16384 < n then ([], 0, 4) else
 if r.length - 8 < n then ([], 0, 5) else
 let b := (r.take (8 + n)).drop 8
 if sum b ≠ num (r.drop 4) then ([], 0, 6) else (b, k + 8 + n, 0)
theorem next_arg {l : List UInt8} {k : Int} (h : k < 0 ∨ (l.length : Int) < k) : next l k = ([], 0, 1) := by unfold next; rw [if_pos h]
theorem next_short {l : List UInt8} {k : Nat} (h : k ≤ l.length) (h8 : l.length - k < 8) : next l k = ([], 0, 5) := by
 unfold next
 rw [if_neg (by omega)]
 simp only [Int.toNat_natCast]
 rw [if_pos (by simp; omega)]
theorem next_long {l : List UInt8} {k : Nat} (h : k ≤ l.length) (h8 : 8 ≤ l.length - k) (hn : 16384 < (num (l.drop k)).toNat) : next l k = ([], 0, 4) := by
 unfold next
 rw [if_neg (by omega)]
 simp only [Int.toNat_natCast]
 rw [if_neg (by simp; omega), if_pos hn]
theorem next_short2 {l : List UInt8} {k : Nat} (h : k ≤ l.length) (h8 : 8 ≤ l.length - k) (hn : (num (l.drop k)).toNat ≤ 16384) (hs : l.length - k - 8 < (num (l.drop k)).toNat) : next l k = ([], 0, 5) := by
 unfold next
 rw [if_neg (by omega)]
 simp only [Int.toNat_natCast]
 rw [if_neg (by simp; omega), if_neg (by omega), if_pos (by simp; omega)]
theorem next_sum {l : List UInt8} {k : Nat} (h : k ≤ l.length) (h8 : 8 ≤ l.length - k) (hn : (num (l.drop k)).toNat ≤ 16384) (hs : (num (l.drop k)).toNat ≤ l.length - k - 8)
  (hc : sum (((l.drop k).take (8 + (num (l.drop k)).toNat)).drop 8) ≠ num ((l.drop k).drop 4)) : next l k = ([], 0, 6) := by
 unfold next
 rw [if_neg (by omega)]
 simp only [Int.toNat_natCast]
 rw [if_neg (by simp; omega), if_neg (by omega), if_neg (by simp; omega), if_pos hc]
theorem next_ok {l : List UInt8} {k : Nat} (h : k ≤ l.length) (h8 : 8 ≤ l.length - k) (hn : (num (l.drop k)).toNat ≤ 16384) (hs : (num (l.drop k)).toNat ≤ l.length - k - 8)
  (hc : sum (((l.drop k).take (8 + (num (l.drop k)).toNat)).drop 8) = num ((l.drop k).drop 4)) :
  next l k = (((l.drop k).take (8 + (num (l.drop k)).toNat)).drop 8, (k : Int) + 8 + (num (l.drop k)).toNat, 0) := by
 unfold next
 rw [if_neg (by omega)]
 simp only [Int.toNat_natCast]
 rw [if_neg (by simp; omega), if_neg (by omega), if_neg (by simp; omega), if_neg (by simpa using hc)]
end Go.Proofs.YtjfpbeccpcbpcaaGreatDoor.Frm
namespace Go.Proofs.YtjfpbeccpcbpcaaGreatDoor
open Go.RowKit
attribute [local go_sem] Crc.four_length
theorem ne_no {a b : BitVec 32} (h : a = b) : ((a.toNat : Int) != (b.toNat : Int)) = false := by rw [h]; simp
theorem ne_yes {a b : BitVec 32} (h : a ≠ b) : ((a.toNat : Int) != (b.toNat : Int)) = true := by
 rw [bne_iff_ne]
 intro e
 exact h (BitVec.eq_of_toNat_eq (by omega))
theorem four_int (n : Int) (w : World) (h0 : 0 ≤ n) (h1 : n < 4294967296) :
  Calls Tryz.prog 77 #[.int .u32 n] w fun e w' => e = .returned (.string ⟨(Crc.four (BitVec.ofNat 32 n.toNat)).toArray⟩) ∧ Below w.heap.size w w' := by
 have e : n = ((BitVec.ofNat 32 n.toNat).toNat : Int) := by rw [BitVec.toNat_ofNat]; omega
 have h := four_any (BitVec.ofNat 32 n.toNat) w
 rwa [← e] at h
theorem reffour_int (n : Int) (w : World) (h0 : 0 ≤ n) (h1 : n < 4294967296) :
  Calls Tryz.prog 87 #[.int .u32 n] w fun e w' => e = .returned (.string ⟨(Crc.four (BitVec.ofNat 32 n.toNat)).toArray⟩) ∧ Below w.heap.size w w' := by
 have e : n = ((BitVec.ofNat 32 n.toNat).toNat : Int) := by rw [BitVec.toNat_ofNat]; omega
 have h := reffour_any (BitVec.ofNat 32 n.toNat) w
 rwa [← e] at h
set_option maxHeartbeats 400000 in
theorem put_any (l : List UInt8) (w : World) (hs : l.length ≤ 16384) :
  Calls Tryz.prog 19 #[.string ⟨l.toArray⟩] w fun e w' => e = .returned (.tuple #[.string ⟨(Frm.put l).toArray⟩, .int .i64 0]) ∧ Below w.heap.size w w' := by
 go_enter Tryz.func19, Tryz.ntmps19
 go_wp2_with fail
 refine (four_int _ _ (by omega) (by omega)).mono ?_
 rintro e w1 ⟨rfl, hb1⟩
 have HB1 := Lib.hid hb1
 clear hb1
 go_wp2_with fail
 refine (sum_any _ _ (by unfold maxLen; omega)).mono ?_
 rintro e w2 ⟨rfl, hb2⟩
 have HB2 := Lib.hid hb2
 clear hb2
 go_wp2_with fail
 refine (four_any _ _).mono ?_
 rintro e w3 ⟨rfl, hb3⟩
 have HB3 := Lib.hid hb3
 clear hb3
 go_wp2
 go_ret2
 exact ⟨rfl, bt (bt HB1.out HB2.out) HB3.out⟩
theorem next_arg (l : List UInt8) (k : Int) (w : World) (h : k < 0 ∨ (l.length : Int) < k) (hm : l.length ≤ maxLen) :
  Calls Tryz.prog 60 #[.string ⟨l.toArray⟩, .int .i64 k] w fun e w' => e = .returned (.tuple #[.string ⟨#[]⟩, .int .i64 0, .int .i64 1]) ∧ w = w' := by
 unfold maxLen at hm
 by_cases h0 : k < 0
 ·go_enter Tryz.func60, Tryz.ntmps60
  go_wp2
  go_ret3
  exact ⟨rfl, rfl⟩
 ·have h1 : (l.length : Int) < k := by omega
  clear h
  go_enter Tryz.func60, Tryz.ntmps60
  go_wp2
  go_ret3
  exact ⟨rfl, rfl⟩
set_option maxHeartbeats 400000 in
theorem next_short (l : List UInt8) (k : Nat) (w : World) (h : k ≤ l.length) (h8 : l.length - k < 8) (hm : l.length ≤ maxLen) :
  Calls Tryz.prog 60 #[.string ⟨l.toArray⟩, .int .i64 k] w fun e w' => e = .returned (.tuple #[.string ⟨#[]⟩, .int .i64 0, .int .i64 5]) ∧ w = w' := by
 unfold maxLen at hm
 have hs := str_from (P := Tryz.prog) l k k rfl h 9 .i64 Tryz.underlying9
 have hl : (l.drop k).length < 8 := by simp; omega
 generalize l.drop k = r at hs hl
 go_enter Tryz.func60, Tryz.ntmps60
 go_wp2
 go_ret3
 exact ⟨rfl, rfl⟩
set_option maxHeartbeats 400000 in
theorem next_rest (l : List UInt8) (k : Nat) (w : World) (h : k ≤ l.length) (h8 : 8 ≤ l.length - k) (hm : l.length ≤ maxLen) :
  Calls Tryz.prog 60 #[.string ⟨l.toArray⟩, .int .i64 k] w fun e w' => e = .returned (.tuple #[.string ⟨(Frm.next l k).1.toArray⟩, .int .i64 (Frm.next l k).2.1, .int .i64 (Frm.next l k).2.2]) ∧ Below w.heap.size w w' := by
 unfold maxLen at hm
 have hs := str_from (P := Tryz.prog) l k k rfl h 9 .i64 Tryz.underlying9
 have hl : 8 ≤ (l.drop k).length := by simp; omega
 have hl2 : (l.drop k).length + k ≤ 9223372036854775807 := by simp; omega
 have H1 := Lib.hid (@Frm.next_long l k h h8)
 have H2 := Lib.hid (@Frm.next_short2 l k h h8)
 have H3 := Lib.hid (@Frm.next_sum l k h h8)
 have H4 := Lib.hid (@Frm.next_ok l k h h8)
 have hlen : l.length - k - 8 = (l.drop k).length - 8 := by simp
 rw [hlen] at H2 H3 H4
 clear hlen
 generalize l.drop k = r at hs hl hl2 H1 H2 H3 H4
 generalize Frm.next l k = q at H1 H2 H3 H4
 obtain ⟨q1, q2, q3⟩ := q
 have hn := (Crc.num r).isLt
 go_enter Tryz.func60, Tryz.ntmps60
 go_wp2_with fail
 refine (number_any _ _ (by omega) (by unfold maxLen; omega)).mono ?_
 rintro e w1 ⟨rfl, rfl⟩
 by_cases c1 : 16384 < (Crc.num r).toNat
 ·have e1 := H1.out c1
  injection e1 with e1 e2
  injection e2 with e2 e3
  subst e1 e2 e3
  go_wp2
  go_ret3
  exact ⟨rfl, Below.refl _ _⟩
 ·by_cases c2 : r.length - 8 < (Crc.num r).toNat
  ·have e1 := H2.out (by omega) c2
   injection e1 with e1 e2
   injection e2 with e2 e3
   subst e1 e2 e3
   go_wp2
   go_ret3
   exact ⟨rfl, Below.refl _ _⟩
  ·have hc := str_cut (P := Tryz.prog) r 8 (8 + (Crc.num r).toNat) 8 (8 + (Crc.num r).toNat) .i64 .u32 rfl (by omega) (by omega) (by omega) 9 Tryz.underlying9
   have h4 := str_from (P := Tryz.prog) r 4 4 rfl (by omega) 9 .i64 Tryz.underlying9
   have hb : ((r.take (8 + (Crc.num r).toNat)).drop 8).length ≤ 16384 := by simp; omega
   have h4l : 4 ≤ (r.drop 4).length := by simp; omega
   have h4m : (r.drop 4).length ≤ 9223372036854775807 := by simp; omega
   generalize (r.take (8 + (Crc.num r).toNat)).drop 8 = b at hc hb H3 H4
   generalize r.drop 4 = r4 at h4 h4l h4m H3 H4
   by_cases c3 : Crc.sum b = Crc.num r4
   ·have e1 := H4.out (by omega) (by omega) c3
    injection e1 with e1 e2
    injection e2 with e2 e3
    subst e1 e2 e3
    have ht := ne_no c3
    clear hn c3
    go_wp2_with fail
    go_region_with (first | (go_at_call 78; refine (sum_any _ _ (by unfold maxLen; omega)).mono ?_; rintro e w2 ⟨rfl, hb2⟩) | (go_at_call 109; refine (number_any _ _ h4l (by unfold maxLen; omega)).mono ?_; rintro e w3 ⟨rfl, rfl⟩))
    all_goals
     have HB2 := Lib.hid hb2
     clear hb2
     go_wp2
     go_ret3
     exact ⟨rfl, bd HB2.out⟩
   ·have e1 := H3.out (by omega) (by omega) c3
    injection e1 with e1 e2
    injection e2 with e2 e3
    subst e1 e2 e3
    have ht := ne_yes c3
    clear hn c3
    go_wp2_with fail
    go_region_with (first | (go_at_call 78; refine (sum_any _ _ (by unfold maxLen; omega)).mono ?_; rintro e w2 ⟨rfl, hb2⟩) | (go_at_call 109; refine (number_any _ _ h4l (by unfold maxLen; omega)).mono ?_; rintro e w3 ⟨rfl, rfl⟩))
    all_goals
     have HB2 := Lib.hid hb2
     clear hb2
     go_wp2
     go_ret3
     exact ⟨rfl, bd HB2.out⟩
theorem next_any (l : List UInt8) (k : Int) (w : World) (hm : l.length ≤ maxLen) :
  Calls Tryz.prog 60 #[.string ⟨l.toArray⟩, .int .i64 k] w fun e w' => e = .returned (.tuple #[.string ⟨(Frm.next l k).1.toArray⟩, .int .i64 (Frm.next l k).2.1, .int .i64 (Frm.next l k).2.2]) ∧ Below w.heap.size w w' := by
 by_cases h : k < 0 ∨ (l.length : Int) < k
 ·rw [Frm.next_arg h]
  exact (next_arg l k w h hm).mono fun e w' ⟨he, hw⟩ => ⟨he, hw ▸ Below.refl _ _⟩
 ·obtain ⟨n, rfl⟩ := Int.eq_ofNat_of_zero_le (show 0 ≤ k by omega)
  by_cases h8 : l.length - n < 8
  ·rw [Frm.next_short (by omega) h8]
   exact (next_short l n w (by omega) h8 hm).mono fun e w' ⟨he, hw⟩ => ⟨he, hw ▸ Below.refl _ _⟩
  ·exact next_rest l n w (by omega) (by omega) hm
/- The reference's. -/
set_option maxHeartbeats 400000 in
theorem refput_any (l : List UInt8) (w : World) (hs : l.length ≤ 16384) :
  Calls Tryz.prog 30 #[.string ⟨l.toArray⟩] w fun e w' => e = .returned (.tuple #[.string ⟨(Frm.put l).toArray⟩, .int .i64 0]) ∧ Below w.heap.size w w' := by
 go_enter Tryz.func30, Tryz.ntmps30
 go_wp2_with fail
 refine (reffour_int _ _ (by omega) (by omega)).mono ?_
 rintro e w1 ⟨rfl, hb1⟩
 have HB1 := Lib.hid hb1
 clear hb1
 go_wp2_with fail
 refine (refsum_any _ _ (by unfold maxLen; omega)).mono ?_
 rintro e w2 ⟨rfl, rfl⟩
 go_wp2_with fail
 refine (reffour_any _ _).mono ?_
 rintro e w3 ⟨rfl, hb3⟩
 have HB3 := Lib.hid hb3
 clear hb3
 go_wp2
 go_ret2
 exact ⟨rfl, bt HB1.out HB3.out⟩
end Go.Proofs.YtjfpbeccpcbpcaaGreatDoor
namespace Go.Proofs.YtjfpbeccpcbpcaaGreatDoor
open Go.RowKit
def WStrs (w : World) (ls : List (List UInt8)) (e : Ending) (w' : World) : Prop := ∃ v, e = .returned v ∧ w'.ownsRow w.heap.size 9 1 v ls.length (sv ls) ∧ Below w.heap.size w w'
theorem sv_append (a b : List (List UInt8)) : sv (a ++ b) = sv a ++ sv b := by simp [sv]
theorem ownsRow_weaken {w : World} {b b' : Nat} {e : TypeId} {size : Nat} {v : Value} {n : Nat} {xs : List Value} (h : w.ownsRow b e size v n xs) (hb : b' ≤ b) : w.ownsRow b' e size v n xs := by
 refine ⟨h.1, ?_⟩
 rcases h.2 with h2 | ⟨g, cap, cur, e1, hB, r⟩
 ·exact .inl h2
 ·exact .inr ⟨g, cap, cur, e1, Nat.le_trans hb hB, r⟩
set_option maxRecDepth 20000 in
set_option maxHeartbeats 1600000 in
theorem wints_any (l : List Int) (hl : l.length ≤ 100000) (hr : ∀ x ∈ l, Bd.inR x) (v : Value) (w : World) (h : Ints w v l) (hw : Lw w) :
  Calls Tryz.prog 80 #[v] w (WStrs w (l.map Bd.bInt)) := by
 have HZ := Lib.hid h
 have HW := Lib.hid hw
 have HR := Lib.hid hr
 obtain ⟨a, cap, rfl⟩ := h.form
 obtain ⟨i0, hi, hz0, hz1, hz2⟩ := info_parts cinfoStr
 clear h hw hr
 go_enter Tryz.func80, Tryz.ntmps80
 go_wp2
 go_loopw [2, 7] (fun tv ti wr => ∃ k : Nat, ti = .int .i64 k ∧ k ≤ l.length ∧ wr.ownsRow w.heap.size 9 1 tv k (sv ((l.map Bd.bInt).take k)) ∧ Below w.heap.size w wr) (fun _ ti _ => l.length - (intOf ti).toNat)
 case atStart => exact ⟨0, rfl, by omega, ⟨by simp [sv], .inl ⟨rfl, rfl⟩⟩, Below.refl _ _⟩
 case round =>
  obtain ⟨k, rfl, hk, ho, hb⟩ := hrel
  have HO := Lib.hid ho
  have HB := Lib.hid hb
  clear ho hb
  by_cases hlt : k < l.length
  ·obtain ⟨x, hx⟩ : ∃ x, l[k]? = some x := ⟨l[k], by simp [hlt]⟩
   have HJ := Lib.hid (beadInt_any x (HR.out x (List.mem_of_getElem? hx)) wr (HW.out.below HB.out))
   have HT : Hid (sv ((l.map Bd.bInt).take (k + 1)) = sv ((l.map Bd.bInt).take k) ++ sv [Bd.bInt x]) := by
    rw [Hid, ← sv_append]
    congr 1
    rw [List.take_succ_eq_append_getElem (by simpa using hlt)]
    obtain ⟨_, rfl⟩ := List.getElem?_eq_some_iff.1 hx
    simp
   obtain ⟨g, off, cap', he, hg, p0⟩ := HZ.out.get HB.out hx
   injection he with he1 he2 he3
   subst he1 he3
   clear he2
   generalize Bd.bInt x = bx at *
   go_wp2_with fail
   refine HJ.out.mono ?_
   rintro e w1 ⟨rfl, hb1⟩
   have HO1 := Lib.hid (ownsRow_below HO.out hb1)
   have HB1 := Lib.hid (bt HB.out hb1)
   have hsz := HB1.out.size
   clear hb1 HJ HO p0
   go_wp2_with (at_builtin; refine wpList_append_own _ rfl _ _ 51 rfl w.heap.size 9 i0 (.string ⟨#[]⟩) 1 16 Tryz.underlying51 hi hz0 hz1 hz2 rfl (by decide) _ _ _ rfl (World.ownsRow.alloc HO1.out _) ⟨w1.heap.size, 0, none⟩ 1 1 [.string ⟨bx.toArray⟩] rfl rfl (cell_one_new _ _ _) ?_ ?_ ?_ ?_ ?_)
   ·simp [Value.oneCell']
   ·unfold maxLen; omega
   ·omega
   ·simp; omega
   intro v' w2 hown2 hg2 _
   have HN : Hid (w2.ownsRow w.heap.size 9 1 v' (k + 1) (sv ((l.map Bd.bInt).take (k + 1)))) := by rw [Hid, HT.out]; exact hown2
   have HB2 : Hid (Below w.heap.size w w2) := (HB1.out.alloc hsz _).grown hg2 (by simp; omega) (fun kk hkk => (HO1.out.lt kk hkk).1)
   clear hown2 hg2
   go_wp2
   go_roundw
   case rel => exact ⟨k + 1, by go_num, by omega, HN.out, HB2.out⟩
   case measure => simp [intOf]; omega
  ·obtain rfl : k = l.length := by omega
   have h9 := HO.out
   rw [List.take_of_length_le (by simp), show l.length = (l.map Bd.bInt).length by simp] at h9
   have HF := Lib.hid h9
   clear h9
   go_wp2
   go_ret
   exact ⟨_, rfl, HF.out, HB.out⟩
theorem ints3_cl {W : World} {g : Nat} {a b c : Int} {t : TypeId} (C : Cl W g [.int .i64 a, .int .i64 b, .int .i64 c] t) : Ints W (.slice (some ⟨g, 0, none⟩) 3 3) [a, b, c] := by
 refine ⟨_, 3, rfl, fun i hi => ⟨g, 0, rfl, C.lt, ?_⟩⟩
 rw [Nat.zero_add, Cl.cell C i]
 rcases (show i = 0 ∨ i = 1 ∨ i = 2 by simp at hi; omega) with rfl | rfl | rfl <;> rfl
def beatF (m : Wi.Msg) : List (List UInt8) := [Bd.bInt m.kind, Bd.bInt m.frm, Bd.bInt m.to, Bd.bInt m.life]
def beatB (m : Wi.Msg) : List UInt8 := 108 :: ((beatF m).flatten ++ [101])
end Go.Proofs.YtjfpbeccpcbpcaaGreatDoor
