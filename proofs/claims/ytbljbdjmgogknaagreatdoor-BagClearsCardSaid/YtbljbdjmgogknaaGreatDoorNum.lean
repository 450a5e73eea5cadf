/-
  From the walk's numbers to the check's bit rows (unsigned 32-bit arithmetic as the model writes it).
  Conditions: none.
-/
import Derived.Test.YtbljbdjmgogknaaGreatDoorCrc
import Derived.WalkKit
set_option linter.unusedVariables false
set_option linter.unusedSimpArgs false
namespace Go.Proofs.YtbljbdjmgogknaaGreatDoor
open Go.RowKit Crc

theorem bits_xor_bv (a b : BitVec 32) : bits .xor .u32 (a.toNat : Int) (b.toNat : Int) = ((a ^^^ b).toNat : Int) := by
  rw [u32_xor_nat _ _ a.isLt b.isLt, BitVec.toNat_xor]
theorem bits_and_bv (a b : BitVec 32) : bits .and .u32 (a.toNat : Int) (b.toNat : Int) = ((a &&& b).toNat : Int) := by
  rw [u32_and_nat _ _ a.isLt b.isLt, BitVec.toNat_and]
theorem z_toNat (b : UInt8) : (z b).toNat = b.toNat := by
  unfold z
  rw [BitVec.toNat_setWidth]
  have := b.toNat_lt
  show b.toNat % 2 ^ 32 = b.toNat
  omega
theorem half_bv (r : BitVec 32) : ((r.toNat : Int) / (2 : Int)) = ((r >>> 1).toNat : Int) := by
  rw [BitVec.toNat_ushiftRight, Nat.shiftRight_eq_div_pow]; omega
theorem low_bv (r : BitVec 32) : r.getLsbD 0 = decide (r.toNat % 2 = 1) := by
  simp [BitVec.getLsbD, Nat.testBit_zero]
theorem step_num (r : BitVec 32) :
    bits .xor .u32 ((r.toNat : Int) / 2) (bits .and .u32 3988292384 (-bits .and .u32 (r.toNat : Int) 1 % 4294967296)) = ((stp r).toNat : Int) := by
  have h1 : bits .and .u32 (r.toNat : Int) 1 = ((r.toNat % 2 : Nat) : Int) := by
    have := u32_and_nat r.toNat 1 r.isLt (by omega)
    rw [nat_mask1] at this
    exact this
  have hx := low_bv r
  rw [h1, half_bv]
  unfold stp
  rw [hx]
  by_cases h : r.toNat % 2 = 1
  · have e1 : (-((r.toNat % 2 : Nat) : Int)) % 4294967296 = 4294967295 := by rw [h]; rfl
    have e2 : bits .and .u32 3988292384 4294967295 = ((poly).toNat : Int) := by decide +kernel
    rw [e1, e2, bits_xor_bv]
    simp [h]
  · have h0 : r.toNat % 2 = 0 := by omega
    have e1 : (-((r.toNat % 2 : Nat) : Int)) % 4294967296 = 0 := by rw [h0]; rfl
    have e2 : bits .and .u32 3988292384 0 = ((0#32).toNat : Int) := by decide +kernel
    rw [e1, e2, bits_xor_bv]
    simp [h]
theorem enter_num (r : BitVec 32) (b : UInt8) : bits .xor .u32 (r.toNat : Int) ((b.toNat : Int) % 4294967296) = ((r ^^^ z b).toNat : Int) := by
  have e : ((b.toNat : Int) % 4294967296) = ((z b).toNat : Int) := by rw [z_toNat]; have := b.toNat_lt; omega
  rw [e, bits_xor_bv]
theorem not_num (r : BitVec 32) : bits .xor .u32 IntKind.u32.max (r.toNat : Int) = ((r ^^^ ones).toNat : Int) := by
  have e : IntKind.u32.max = ((ones).toNat : Int) := by decide +kernel
  rw [e, bits_xor_bv, BitVec.xor_comm]
theorem not_num' (r : BitVec 32) : bits .xor .u32 (r.toNat : Int) 4294967295 = ((r ^^^ ones).toNat : Int) := by
  have e : (4294967295 : Int) = ((ones).toNat : Int) := by decide +kernel
  rw [e, bits_xor_bv]
/-- The number of four bytes, as a sum. -/
theorem num_toNat (a b c d : UInt8) : (num [a, b, c, d]).toNat = a.toNat + b.toNat * 256 + c.toNat * 65536 + d.toNat * 16777216 := by
  have ha := a.toNat_lt; have hb := b.toNat_lt; have hc := c.toNat_lt; have hd := d.toNat_lt
  have e : a.toNat + b.toNat * 256 + c.toNat * 65536 + d.toNat * 16777216 = 2 ^ 8 * (2 ^ 8 * (2 ^ 8 * d.toNat + c.toNat) + b.toNat) + a.toNat := by omega
  rw [e]
  apply Nat.eq_of_testBit_eq
  intro i
  have h := num_getLsbD a b c d i
  rw [BitVec.getLsbD] at h
  rw [h, Nat.testBit_two_pow_mul_add _ ha, Nat.testBit_two_pow_mul_add _ hb, Nat.testBit_two_pow_mul_add _ hc]
  have g : ∀ (x : UInt8) (j : Nat), x.toBitVec.getLsbD j = x.toNat.testBit j := fun _ _ => rfl
  simp only [g]
  by_cases h1 : i < 8
  · simp [h1]
  · by_cases h2 : i < 16
    · simp [h1, h2, show i - 8 < 8 by omega]
    · by_cases h3 : i < 24
      · have e3 : i - 8 - 8 = i - 16 := by omega
        have e4 : ¬ 8 ≤ i - 16 := by omega
        simp [h1, h2, h3, show ¬ i - 8 < 8 by omega, e3, e4]
      · have e3 : i - 8 - 8 - 8 = i - 24 := by omega
        by_cases h4 : i < 32
        · simp [h1, h2, h3, h4, show ¬ i - 8 < 8 by omega, show ¬ i - 8 - 8 < 8 by omega, e3]
        · have : d.toNat.testBit (i - 24) = false := Nat.testBit_lt_two_pow (Nat.lt_of_lt_of_le hd (Nat.pow_le_pow_right (by omega) (show 8 ≤ i - 24 by omega)))
          simp [h1, h2, h3, h4, show ¬ i - 8 < 8 by omega, show ¬ i - 8 - 8 < 8 by omega, e3, this]
theorem or_num (a b c d : UInt8) :
    bits .or .u32 (bits .or .u32 (bits .or .u32 (bits .or .u32 0 ((a.toNat : Int) % 4294967296)) ((b.toNat : Int) % 4294967296 * 256 % 4294967296)) ((c.toNat : Int) % 4294967296 * 65536 % 4294967296)) ((d.toNat : Int) % 4294967296 * 16777216 % 4294967296) = ((num [a, b, c, d]).toNat : Int) := by
  have ha := a.toNat_lt; have hb := b.toNat_lt; have hc := c.toNat_lt; have hd := d.toNat_lt
  have e1 : ((a.toNat : Int) % 4294967296) = ((a.toNat : Nat) : Int) := by omega
  have e2 : ((b.toNat : Int) % 4294967296 * 256 % 4294967296) = ((b.toNat * 256 : Nat) : Int) := by omega
  have e3 : ((c.toNat : Int) % 4294967296 * 65536 % 4294967296) = ((c.toNat * 65536 : Nat) : Int) := by omega
  have e4 : ((d.toNat : Int) % 4294967296 * 16777216 % 4294967296) = ((d.toNat * 16777216 : Nat) : Int) := by omega
  have e0 : (0 : Int) = ((0 : Nat) : Int) := rfl
  rw [e1, e2, e3, e4, e0, u32_or_nat 0 _ (by omega) (by omega), Nat.zero_or, u32_or_nat _ _ (by omega) (by omega), Nat.or_comm a.toNat,
    nat_join 8 _ _ (by omega) (by omega), u32_or_nat _ _ (by omega) (by omega), Nat.or_comm _ (c.toNat * 65536), nat_join 16 _ _ (by omega) (by omega),
    u32_or_nat _ _ (by omega) (by omega), Nat.or_comm _ (d.toNat * 16777216), nat_join 24 _ _ (by omega) (by omega), num_toNat]
  omega
theorem add_num (a b c d : UInt8) :
    ((((a.toNat : Int) % 4294967296 + (b.toNat : Int) % 4294967296 * 256 % 4294967296) % 4294967296 + (c.toNat : Int) % 4294967296 * 65536 % 4294967296) % 4294967296 + (d.toNat : Int) % 4294967296 * 16777216 % 4294967296) % 4294967296 = ((num [a, b, c, d]).toNat : Int) := by
  have ha := a.toNat_lt; have hb := b.toNat_lt; have hc := c.toNat_lt; have hd := d.toNat_lt
  rw [num_toNat]
  omega
theorem byte_num (n : BitVec 32) (k : Nat) : UInt8.ofNat (((n.toNat : Int) / ((2 ^ k : Nat) : Int) % 256).toNat) = (⟨(n >>> k).setWidth 8⟩ : UInt8) := by
  apply UInt8.eq_of_toBitVec_eq
  apply BitVec.eq_of_toNat_eq
  have e : ((n.toNat : Int) / ((2 ^ k : Nat) : Int) % 256).toNat = n.toNat / 2 ^ k % 256 := by
    rw [← Int.natCast_ediv]; omega
  rw [e]
  simp [BitVec.toNat_setWidth, BitVec.toNat_ushiftRight, Nat.shiftRight_eq_div_pow]

/-- The reference's register behind j bits of a byte. -/
def part (r : BitVec 32) (b : UInt8) (j : Nat) : BitVec 32 := stps j (r ^^^ z b) ^^^ (z b >>> j)
theorem part_zero (r : BitVec 32) (b : UInt8) : part r b 0 = r := by simp [part, stps, BitVec.xor_assoc]
theorem part_eight (r : BitVec 32) (b : UInt8) : part r b 8 = upd r b := by
  have : z b >>> 8 = 0#32 := by
    apply BitVec.eq_of_getLsbD_eq
    intro i hi
    rw [BitVec.getLsbD_ushiftRight, z_high b _ (by omega)]
    simp
  rw [part, this]
  simp [upd]
theorem part_succ (r : BitVec 32) (b : UInt8) (j : Nat) : part r b (j + 1) = (part r b j >>> 1) ^^^ (if (z b >>> j).getLsbD 0 = (part r b j).getLsbD 0 then 0#32 else poly) := by
  have e1 : part r b j >>> 1 = (stps j (r ^^^ z b) >>> 1) ^^^ (z b >>> (j + 1)) := by
    rw [part, BitVec.ushiftRight_xor_distrib, ← BitVec.shiftRight_add]
  have e2 : (part r b j).getLsbD 0 = ((stps j (r ^^^ z b)).getLsbD 0 ^^ (z b >>> j).getLsbD 0) := by rw [part, BitVec.getLsbD_xor]
  rw [e1, e2]
  show stp (stps j (r ^^^ z b)) ^^^ (z b >>> (j + 1)) = _
  unfold stp
  rw [BitVec.xor_assoc, BitVec.xor_assoc, BitVec.xor_comm (z b >>> (j + 1))]
  congr 2
  cases (stps j (r ^^^ z b)).getLsbD 0 <;> cases (z b >>> j).getLsbD 0 <;> rfl
theorem bit_num (b : UInt8) (j : Nat) : bits .and .u32 ((b.toNat : Int) / 2 ^ j % 4294967296) 1 = (((z b >>> j).toNat % 2 : Nat) : Int) := by
  have hb := b.toNat_lt
  have e : ((b.toNat : Int) / 2 ^ j % 4294967296) = ((b.toNat / 2 ^ j : Nat) : Int) := by
    have h2 : b.toNat / 2 ^ j ≤ b.toNat := Nat.div_le_self _ _
    have h3 : (b.toNat : Int) / 2 ^ j = ((b.toNat / 2 ^ j : Nat) : Int) := by rw [Int.natCast_ediv, Int.natCast_pow]; rfl
    rw [h3]
    generalize b.toNat / 2 ^ j = q at h2
    omega
  have h2 : b.toNat / 2 ^ j ≤ b.toNat := Nat.div_le_self _ _
  have := u32_and_nat (b.toNat / 2 ^ j) 1 (by omega) (by omega)
  rw [nat_mask1] at this
  rw [e, BitVec.toNat_ushiftRight, z_toNat, Nat.shiftRight_eq_div_pow]
  exact this
theorem low_num (r : BitVec 32) : bits .and .u32 (r.toNat : Int) 1 = ((r.toNat % 2 : Nat) : Int) := by
  have := u32_and_nat r.toNat 1 r.isLt (by omega)
  rw [nat_mask1] at this
  exact this
theorem part_yes (r : BitVec 32) (b : UInt8) (j : Nat) (h : (bits .and .u32 ((b.toNat : Int) / 2 ^ j % 4294967296) 1 != bits .and .u32 ((part r b j).toNat : Int) 1) = true) :
    bits .xor .u32 (((part r b j).toNat : Int) / 2) 3988292384 = ((part r b (j + 1)).toNat : Int) := by
  rw [bit_num, low_num] at h
  have hp : (3988292384 : Int) = ((poly).toNat : Int) := by decide +kernel
  rw [half_bv, hp, bits_xor_bv, part_succ, low_bv, low_bv]
  have h' : ¬ ((z b >>> j).toNat % 2 = (part r b j).toNat % 2) := by
    intro e; rw [e] at h; simp at h
  have h1 := Nat.mod_two_eq_zero_or_one (z b >>> j).toNat
  have h2 := Nat.mod_two_eq_zero_or_one (part r b j).toNat
  rw [if_neg]
  simp only [decide_eq_decide]
  omega
theorem part_no (r : BitVec 32) (b : UInt8) (j : Nat) (h : (bits .and .u32 ((b.toNat : Int) / 2 ^ j % 4294967296) 1 != bits .and .u32 ((part r b j).toNat : Int) 1) = false) :
    (((part r b j).toNat : Int) / 2) = ((part r b (j + 1)).toNat : Int) := by
  rw [bit_num, low_num] at h
  rw [half_bv, part_succ, low_bv, low_bv]
  have h' : (z b >>> j).toNat % 2 = (part r b j).toNat % 2 := by
    simp only [bne_eq_false_iff_eq] at h
    exact_mod_cast h
  rw [if_pos (by rw [h'])]
  simp
theorem getD_four (l : List UInt8) : num l = num [l.getD 0 0, l.getD 1 0, l.getD 2 0, l.getD 3 0] := rfl
theorem str_four (n : BitVec 32) : strOfNums [(n.toNat : Int) % 256, (n.toNat : Int) / 256 % 256, (n.toNat : Int) / 65536 % 256, (n.toNat : Int) / 16777216] = ⟨(four n).toArray⟩ := by
  have e0 := byte_num n 0
  have e1 := byte_num n 8
  have e2 := byte_num n 16
  have e3 := byte_num n 24
  have h3 : (n.toNat : Int) / 16777216 = (n.toNat : Int) / 16777216 % 256 := by have := n.isLt; omega
  rw [h3]
  unfold strOfNums four
  simp only [List.map_cons, List.map_nil]
  simp at e0
  rw [← e1, ← e2, ← e3, ← e0]
  rfl

end Go.Proofs.YtbljbdjmgogknaaGreatDoor
