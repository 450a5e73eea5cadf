/-
  Crc / Num / Walka / Frm / Walkb / Wf3: texts of one proof, one behind the other.
  Conditions: none of its own.
-/
import Derived.Test.YtjfpbeccpcbpcaaGreatDoorZaa
import Derived.Test.YtjfpbeccpcbpcaaGreatDoorZaj
import Derived.Test.YtjfpbeccpcbpcaaGreatDoorZba
import Derived.WalkKit
import Derived.Test.YtjfpbeccpcbpcaaGreatDoorRows
import Derived.Deep.QuietTactic
import Derived.BigQuiet
import Derived.Deep.RegionWith
set_option linter.unusedVariables false
set_option linter.unusedSimpArgs false
/-
  The check of a text (CRC-32, bit by bit), in plain Lean: no program in sight.
  Conditions: none. What is used above: linearity, injectivity, four bytes at once.
-/
namespace Go.Proofs.YtjfpbeccpcbpcaaGreatDoor.Crc
def poly : BitVec 32 := 0xedb88320#32
def stp (r : BitVec 32) : BitVec 32 := (r >>> 1) ^^^ (if r.getLsbD 0 then poly else 0#32)
def stps : Nat → BitVec 32 → BitVec 32
  | 0, r => r
  | k + 1, r => stp (stps k r)
def z (b : UInt8) : BitVec 32 := b.toBitVec.setWidth 32
def upd (r : BitVec 32) (b : UInt8) : BitVec 32 := stps 8 (r ^^^ z b)
def fold (r : BitVec 32) (l : List UInt8) : BitVec 32 := l.foldl upd r
def ones : BitVec 32 := 0xffffffff#32
def sum (l : List UInt8) : BitVec 32 := fold ones l ^^^ ones
def four (n : BitVec 32) : List UInt8 := [⟨n.setWidth 8⟩, ⟨(n >>> 8).setWidth 8⟩, ⟨(n >>> 16).setWidth 8⟩, ⟨(n >>> 24).setWidth 8⟩]
def num (l : List UInt8) : BitVec 32 := z (l.getD 0 0) ^^^ z (l.getD 1 0) <<< 8 ^^^ z (l.getD 2 0) <<< 16 ^^^ z (l.getD 3 0) <<< 24
theorem stp_xor (a b : BitVec 32) : stp (a ^^^ b) = stp a ^^^ stp b := by
  unfold stp
  rw [BitVec.getLsbD_xor, BitVec.ushiftRight_xor_distrib]
  cases a.getLsbD 0 <;> cases b.getLsbD 0 <;> simp [BitVec.xor_assoc]
  · rw [BitVec.xor_comm]
  · rw [BitVec.xor_comm (b >>> 1) poly, ← BitVec.xor_assoc poly poly]; simp
theorem stps_xor (k : Nat) (a b : BitVec 32) : stps k (a ^^^ b) = stps k a ^^^ stps k b := by
  induction k with
  | zero => rfl
  | succ k ih => simp only [stps, ih, stp_xor]
theorem stps_add (j k : Nat) (r : BitVec 32) : stps (j + k) r = stps j (stps k r) := by
  induction j with
  | zero => simp [stps]
  | succ j ih => rw [Nat.succ_add]; simp only [stps, ih]
theorem stps_low (k : Nat) : ∀ r : BitVec 32, (∀ i, i < k → r.getLsbD i = false) → stps k r = r >>> k := by
  induction k with
  | zero => intro r _; simp [stps]
  | succ k ih =>
    intro r h
    simp only [stps]
    rw [ih r (fun i hi => h i (by omega))]
    unfold stp
    have : (r >>> k).getLsbD 0 = false := by simp only [BitVec.getLsbD_ushiftRight]; exact h _ (by omega)
    rw [this]
    simp [← BitVec.shiftRight_add]
theorem z_high (b : UInt8) (i : Nat) (h : 8 ≤ i) : (z b).getLsbD i = false := by
  unfold z
  rw [BitVec.getLsbD_setWidth]
  simp
  intro _
  exact BitVec.getLsbD_of_ge _ _ h
theorem stps_z (b : UInt8) (n : Nat) (hn : n ≤ 16) : stps 8 (z b <<< (8 + n)) = z b <<< n := by
  rw [stps_low]
  · apply BitVec.eq_of_getLsbD_eq
    intro i hi
    rw [BitVec.getLsbD_ushiftRight, BitVec.getLsbD_shiftLeft, BitVec.getLsbD_shiftLeft]
    have e2 : 8 + i - (8 + n) = i - n := by omega
    by_cases h1 : i < n
    · simp [h1]
    · by_cases h2 : 8 + i < 32
      · simp [h1, h2, hi, e2]
      · have e3 : (z b).getLsbD (i - n) = false := z_high b _ (by omega)
        simp [e2, e3]
  · intro i hi
    rw [BitVec.getLsbD_shiftLeft]
    have : i < 8 + n := by omega
    simp [this]
theorem stps_z0 (b : UInt8) : stps 8 (z b <<< 8) = z b := by
  have := stps_z b 0 (by omega)
  simpa using this
theorem fold_four (r : BitVec 32) (a b c d : UInt8) : fold r [a, b, c, d] = stps 32 (r ^^^ num [a, b, c, d]) := by
  have e : ∀ x, stps 32 x = stps 8 (stps 8 (stps 8 (stps 8 x))) := fun x => by
    have e1 := stps_add 8 24 x
    have e2 := stps_add 8 16 x
    have e3 := stps_add 8 8 x
    rw [show stps 32 x = stps (8 + 24) x from rfl, e1, show stps 24 x = stps (8 + 16) x from rfl, e2, show stps 16 x = stps (8 + 8) x from rfl, e3]
  have h8 := stps_z0
  have h16 : ∀ y, stps 8 (z y <<< 16) = z y <<< 8 := fun y => stps_z y 8 (by omega)
  have h24 : ∀ y, stps 8 (z y <<< 24) = z y <<< 16 := fun y => stps_z y 16 (by omega)
  simp only [fold, List.foldl, upd, e, num, List.getD_cons_zero, List.getD_cons_succ, stps_xor, h8, h16, h24, BitVec.xor_assoc]
theorem stp_inj {a b : BitVec 32} (h : stp a = stp b) : a = b := by
  have hp : poly.getLsbD 31 = true := by decide
  have top : ∀ x : BitVec 32, (stp x).getLsbD 31 = x.getLsbD 0 := by
    intro x
    unfold stp
    rw [BitVec.getLsbD_xor, BitVec.getLsbD_ushiftRight]
    cases hx : x.getLsbD 0 <;> simp [hp]
  have h0 : a.getLsbD 0 = b.getLsbD 0 := by rw [← top a, ← top b, h]
  have h1 : a >>> 1 = b >>> 1 := by
    unfold stp at h
    rw [h0] at h
    have := congrArg (· ^^^ (if b.getLsbD 0 = true then poly else 0#32)) h
    simpa [BitVec.xor_assoc] using this
  apply BitVec.eq_of_getLsbD_eq
  intro i hi
  cases i with
  | zero => exact h0
  | succ i =>
    have := congrArg (·.getLsbD i) h1
    simp only [BitVec.getLsbD_ushiftRight] at this
    rwa [Nat.add_comm 1 i] at this
theorem stps_inj {k : Nat} {a b : BitVec 32} (h : stps k a = stps k b) : a = b := by
  induction k with
  | zero => exact h
  | succ k ih => exact ih (stp_inj h)
theorem upd_inj {a b : BitVec 32} {c : UInt8} (h : upd a c = upd b c) : a = b := by
  have := stps_inj h
  have := congrArg (· ^^^ z c) this
  simpa [BitVec.xor_assoc] using this
theorem fold_inj {l : List UInt8} : ∀ {a b : BitVec 32}, fold a l = fold b l → a = b := by
  induction l with
  | nil => intro a b h; exact h
  | cons c l ih => intro a b h; exact upd_inj (ih h)
theorem fold_append (r : BitVec 32) (a b : List UInt8) : fold r (a ++ b) = fold (fold r a) b := List.foldl_append ..
theorem xor_cancel {a b c : BitVec 32} (h : c ^^^ a = c ^^^ b) : a = b := by
  have := congrArg (c ^^^ ·) h
  simpa [← BitVec.xor_assoc] using this
theorem num_getLsbD (a b c d : UInt8) (i : Nat) : (num [a, b, c, d]).getLsbD i =
    (if i < 8 then a.toBitVec.getLsbD i else if i < 16 then b.toBitVec.getLsbD (i - 8) else if i < 24 then c.toBitVec.getLsbD (i - 16) else if i < 32 then d.toBitVec.getLsbD (i - 24) else false) := by
  have hz : ∀ (x : UInt8) (j : Nat), (z x).getLsbD j = (decide (j < 8) && x.toBitVec.getLsbD j) := by
    intro x j
    by_cases h : j < 8
    · unfold z; rw [BitVec.getLsbD_setWidth]; simp [h]; omega
    · simp [h, z_high x j (by omega)]
  simp only [num, List.getD_cons_zero, List.getD_cons_succ, BitVec.getLsbD_xor, BitVec.getLsbD_shiftLeft, hz]
  by_cases h1 : i < 8
  · simp [h1, show i < 16 by omega, show i < 24 by omega]
  · by_cases h2 : i < 16
    · simp [h1, h2, show i < 24 by omega, show i < 32 by omega, show i - 8 < 8 by omega]
    · by_cases h3 : i < 24
      · simp [h1, h2, h3, show i < 32 by omega, show i - 16 < 8 by omega, show ¬ i - 8 < 8 by omega]
      · by_cases h4 : i < 32
        · simp [h1, h2, h3, h4, show i - 24 < 8 by omega, show ¬ i - 8 < 8 by omega, show ¬ i - 16 < 8 by omega]
        · simp [h1, h2, h3, h4]
theorem num_inj {a b c d a' b' c' d' : UInt8} (h : num [a, b, c, d] = num [a', b', c', d']) : [a, b, c, d] = [a', b', c', d'] := by
  have g : ∀ i, (num [a, b, c, d]).getLsbD i = (num [a', b', c', d']).getLsbD i := fun i => by rw [h]
  simp only [num_getLsbD] at g
  have e : ∀ {x y : UInt8}, (∀ j, j < 8 → x.toBitVec.getLsbD j = y.toBitVec.getLsbD j) → x = y := by
    intro x y hxy
    exact UInt8.eq_of_toBitVec_eq (BitVec.eq_of_getLsbD_eq (fun i hi => hxy i hi))
  have ha : a = a' := e fun j hj => by have := g j; simpa [hj] using this
  have hb : b = b' := e fun j hj => by
    have := g (j + 8); simpa [show ¬ j + 8 < 8 by omega, show j + 8 < 16 by omega] using this
  have hc : c = c' := e fun j hj => by
    have := g (j + 16); simpa [show ¬ j + 16 < 8 by omega, show ¬ j + 16 < 16 by omega, show j + 16 < 24 by omega] using this
  have hd : d = d' := e fun j hj => by
    have := g (j + 24); simpa [show ¬ j + 24 < 8 by omega, show ¬ j + 24 < 16 by omega, show ¬ j + 24 < 24 by omega, show j + 24 < 32 by omega] using this
  rw [ha, hb, hc, hd]
theorem sum_tells (x y : List UInt8) {a b c d a' b' c' d' : UInt8} (h : sum (x ++ [a, b, c, d] ++ y) = sum (x ++ [a', b', c', d'] ++ y)) : [a, b, c, d] = [a', b', c', d'] := by
  unfold sum at h
  have h1 : fold ones (x ++ [a, b, c, d] ++ y) = fold ones (x ++ [a', b', c', d'] ++ y) := by
    have := congrArg (· ^^^ ones) h
    simpa [BitVec.xor_assoc] using this
  rw [fold_append, fold_append, fold_append, fold_append] at h1
  have h2 := fold_inj h1
  rw [fold_four, fold_four] at h2
  exact num_inj (xor_cancel (stps_inj h2))
theorem num_four (n : BitVec 32) : num (four n) = n := by
  apply BitVec.eq_of_getLsbD_eq
  intro i hi
  unfold four
  rw [num_getLsbD]
  simp only [BitVec.getLsbD_setWidth, BitVec.getLsbD_ushiftRight]
  by_cases h1 : i < 8
  · simp [h1]
  · by_cases h2 : i < 16
    · simp [h1, h2, show 8 + (i - 8) = i by omega]; omega
    · by_cases h3 : i < 24
      · simp [h1, h2, h3, show 16 + (i - 16) = i by omega]; omega
      · simp [h1, h2, h3, hi, show 24 + (i - 24) = i by omega]; omega
theorem four_length (n : BitVec 32) : (four n).length = 4 := rfl
end Go.Proofs.YtjfpbeccpcbpcaaGreatDoor.Crc
namespace Go.Proofs.YtjfpbeccpcbpcaaGreatDoor
open Go.RowKit Crc
theorem bits_xor_bv (a b : BitVec 32) : bits .xor .u32 (a.toNat : Int) (b.toNat : Int) = ((a ^^^ b).toNat : Int) := by
  rw [u32_xor_nat _ _ a.isLt b.isLt, BitVec.toNat_xor]
theorem z_toNat (b : UInt8) : (z b).toNat = b.toNat := by
  unfold z
  rw [BitVec.toNat_setWidth]
  have := b.toNat_lt
  show b.toNat % 2 ^ 32 = b.toNat
  omega
theorem half_bv (r : BitVec 32) : ((r.toNat : Int) / (2 : Int)) = ((r >>> 1).toNat : Int) := by
  rw [BitVec.toNat_ushiftRight, Nat.shiftRight_eq_div_pow]; omega
theorem low_bv (r : BitVec 32) : r.getLsbD 0 = decide (r.toNat % 2 = 1) := by
  simp [BitVec.getLsbD, Nat.testBit_zero]
theorem step_num (r : BitVec 32) :
    bits .xor .u32 ((r.toNat : Int) / 2) (bits .and .u32 3988292384 (-bits .and .u32 (r.toNat : Int) 1 % 4294967296)) = ((stp r).toNat : Int) := by
  have h1 : bits .and .u32 (r.toNat : Int) 1 = ((r.toNat % 2 : Nat) : Int) := by
    have := u32_and_nat r.toNat 1 r.isLt (by omega)
    rw [nat_mask1] at this
    exact this
  have hx := low_bv r
  rw [h1, half_bv]
  unfold stp
  rw [hx]
  by_cases h : r.toNat % 2 = 1
  · have e1 : (-((r.toNat % 2 : Nat) : Int)) % 4294967296 = 4294967295 := by rw [h]; rfl
    have e2 : bits .and .u32 3988292384 4294967295 = ((poly).toNat : Int) := by decide +kernel
    rw [e1, e2, bits_xor_bv]
    simp [h]
  · have h0 : r.toNat % 2 = 0 := by omega
    have e1 : (-((r.toNat % 2 : Nat) : Int)) % 4294967296 = 0 := by rw [h0]; rfl
    have e2 : bits .and .u32 3988292384 0 = ((0#32).toNat : Int) := by decide +kernel
    rw [e1, e2, bits_xor_bv]
    simp [h]
theorem enter_num (r : BitVec 32) (b : UInt8) : bits .xor .u32 (r.toNat : Int) ((b.toNat : Int) % 4294967296) = ((r ^^^ z b).toNat : Int) := by
  have e : ((b.toNat : Int) % 4294967296) = ((z b).toNat : Int) := by rw [z_toNat]; have := b.toNat_lt; omega
  rw [e, bits_xor_bv]
theorem not_num (r : BitVec 32) : bits .xor .u32 IntKind.u32.max (r.toNat : Int) = ((r ^^^ ones).toNat : Int) := by
  have e : IntKind.u32.max = ((ones).toNat : Int) := by decide +kernel
  rw [e, bits_xor_bv, BitVec.xor_comm]
theorem num_toNat (a b c d : UInt8) : (num [a, b, c, d]).toNat = a.toNat + b.toNat * 256 + c.toNat * 65536 + d.toNat * 16777216 := by
  have ha := a.toNat_lt; have hb := b.toNat_lt; have hc := c.toNat_lt; have hd := d.toNat_lt
  have e : a.toNat + b.toNat * 256 + c.toNat * 65536 + d.toNat * 16777216 = 2 ^ 8 * (2 ^ 8 * (2 ^ 8 * d.toNat + c.toNat) + b.toNat) + a.toNat := by omega
  rw [e]
  apply Nat.eq_of_testBit_eq
  intro i
  have h := num_getLsbD a b c d i
  rw [BitVec.getLsbD] at h
  rw [h, Nat.testBit_two_pow_mul_add _ ha, Nat.testBit_two_pow_mul_add _ hb, Nat.testBit_two_pow_mul_add _ hc]
  have g : ∀ (x : UInt8) (j : Nat), x.toBitVec.getLsbD j = x.toNat.testBit j := fun _ _ => rfl
  simp only [g]
  by_cases h1 : i < 8
  · simp [h1]
  · by_cases h2 : i < 16
    · simp [h1, h2, show i - 8 < 8 by omega]
    · by_cases h3 : i < 24
      · have e3 : i - 8 - 8 = i - 16 := by omega
        have e4 : ¬ 8 ≤ i - 16 := by omega
        simp [h1, h2, h3, show ¬ i - 8 < 8 by omega, e3, e4]
      · have e3 : i - 8 - 8 - 8 = i - 24 := by omega
        by_cases h4 : i < 32
        · simp [h1, h2, h3, h4, show ¬ i - 8 < 8 by omega, show ¬ i - 8 - 8 < 8 by omega, e3]
        · have : d.toNat.testBit (i - 24) = false := Nat.testBit_lt_two_pow (Nat.lt_of_lt_of_le hd (Nat.pow_le_pow_right (by omega) (show 8 ≤ i - 24 by omega)))
          simp [h1, h2, h3, h4, show ¬ i - 8 < 8 by omega, show ¬ i - 8 - 8 < 8 by omega, e3, this]
theorem or_num (a b c d : UInt8) :
    bits .or .u32 (bits .or .u32 (bits .or .u32 (bits .or .u32 0 ((a.toNat : Int) % 4294967296)) ((b.toNat : Int) % 4294967296 * 256 % 4294967296)) ((c.toNat : Int) % 4294967296 * 65536 % 4294967296)) ((d.toNat : Int) % 4294967296 * 16777216 % 4294967296) = ((num [a, b, c, d]).toNat : Int) := by
  have ha := a.toNat_lt; have hb := b.toNat_lt; have hc := c.toNat_lt; have hd := d.toNat_lt
  have e1 : ((a.toNat : Int) % 4294967296) = ((a.toNat : Nat) : Int) := by omega
  have e2 : ((b.toNat : Int) % 4294967296 * 256 % 4294967296) = ((b.toNat * 256 : Nat) : Int) := by omega
  have e3 : ((c.toNat : Int) % 4294967296 * 65536 % 4294967296) = ((c.toNat * 65536 : Nat) : Int) := by omega
  have e4 : ((d.toNat : Int) % 4294967296 * 16777216 % 4294967296) = ((d.toNat * 16777216 : Nat) : Int) := by omega
  have e0 : (0 : Int) = ((0 : Nat) : Int) := rfl
  rw [e1, e2, e3, e4, e0, u32_or_nat 0 _ (by omega) (by omega), Nat.zero_or, u32_or_nat _ _ (by omega) (by omega), Nat.or_comm a.toNat,
    nat_join 8 _ _ (by omega) (by omega), u32_or_nat _ _ (by omega) (by omega), Nat.or_comm _ (c.toNat * 65536), nat_join 16 _ _ (by omega) (by omega),
    u32_or_nat _ _ (by omega) (by omega), Nat.or_comm _ (d.toNat * 16777216), nat_join 24 _ _ (by omega) (by omega), num_toNat]
  omega
theorem byte_num (n : BitVec 32) (k : Nat) : UInt8.ofNat (((n.toNat : Int) / ((2 ^ k : Nat) : Int) % 256).toNat) = (⟨(n >>> k).setWidth 8⟩ : UInt8) := by
  apply UInt8.eq_of_toBitVec_eq
  apply BitVec.eq_of_toNat_eq
  have e : ((n.toNat : Int) / ((2 ^ k : Nat) : Int) % 256).toNat = n.toNat / 2 ^ k % 256 := by
    rw [← Int.natCast_ediv]; omega
  rw [e]
  simp [BitVec.toNat_setWidth, BitVec.toNat_ushiftRight, Nat.shiftRight_eq_div_pow]
def part (r : BitVec 32) (b : UInt8) (j : Nat) : BitVec 32 := stps j (r ^^^ z b) ^^^ (z b >>> j)
theorem getD_four (l : List UInt8) : num l = num [l.getD 0 0, l.getD 1 0, l.getD 2 0, l.getD 3 0] := rfl
theorem str_four (n : BitVec 32) : strOfNums [(n.toNat : Int) % 256, (n.toNat : Int) / 256 % 256, (n.toNat : Int) / 65536 % 256, (n.toNat : Int) / 16777216] = ⟨(four n).toArray⟩ := by
  have e0 := byte_num n 0
  have e1 := byte_num n 8
  have e2 := byte_num n 16
  have e3 := byte_num n 24
  have h3 : (n.toNat : Int) / 16777216 = (n.toNat : Int) / 16777216 % 256 := by have := n.isLt; omega
  rw [h3]
  unfold strOfNums four
  simp only [List.map_cons, List.map_nil]
  simp at e0
  rw [← e1, ← e2, ← e3, ← e0]
  rfl
end Go.Proofs.YtjfpbeccpcbpcaaGreatDoor
namespace Go.Proofs.YtjfpbeccpcbpcaaGreatDoor
open Go.RowKit
theorem fold_take (r : BitVec 32) (l : List UInt8) (k : Nat) (h : k < l.length) : Crc.fold r (l.take (k + 1)) = Crc.upd (Crc.fold r (l.take k)) (l.getD k 0) := by
  rw [List.take_succ_eq_append_getElem h, Crc.fold_append]
  simp [Crc.fold, List.getD, h]
set_option maxHeartbeats 400000 in
theorem sum_any (l : List UInt8) (w : World) (hs : l.length ≤ maxLen) :
    Calls Tryz.prog 78 #[.string ⟨l.toArray⟩] w fun e w' => e = .returned (.int .u32 (Crc.sum l).toNat) ∧ Below w.heap.size w w' := by
  unfold maxLen at hs
  have hconv := Lib.run_convert_string_bytes (P := Tryz.prog) w 9 49 5 ⟨l.toArray⟩ Tryz.underlying9 Tryz.underlying49 Tryz.underlying5
  have hcell := Lib.bytesWorld_cell w 5 ⟨l.toArray⟩
  have hb := Lib.hid (below_bytesWorld w 5 ⟨l.toArray⟩)
  generalize hW1 : Lib.bytesWorld w 5 ⟨l.toArray⟩ = W1 at hconv hcell hb
  clear hW1
  have HC : ∀ k, k < l.length → W1.cell? ⟨w.heap.size, k, none⟩ = some (.int .u8 (l.getD k 0).toNat) := fun k hk => hcell k hk
  have HD := Lib.hid HC
  clear hcell HC
  go_enter Tryz.func78, Tryz.ntmps78
  go_wp2
  clear hconv
  go_loop [3, 9] (fun r i => ∃ k : Nat, k ≤ l.length ∧ i = .int .i64 k ∧ r = .int .u32 (Crc.fold Crc.ones (l.take k)).toNat) (fun _ i => l.length - (intOf i).toNat)
  case atStart => exact ⟨0, by omega, rfl, rfl⟩
  case round =>
    obtain ⟨k, hk, rfl, rfl⟩ := hrel
    by_cases hlt : k < l.length
    · have hck := HD.out k hlt
      have HF := Lib.hid (fold_take Crc.ones l k hlt)
      generalize l.getD k 0 = b at hck HF
      generalize Crc.fold Crc.ones (l.take k) = r0 at HF
      go_wp2
      go_loop [3, 17] (fun r i => ∃ j : Nat, j ≤ 8 ∧ i = .int .i64 j ∧ r = .int .u32 (Crc.stps j (r0 ^^^ Crc.z b)).toNat) (fun _ i => 8 - (intOf i).toNat)
      case atStart => exact ⟨0, by omega, rfl, by rw [enter_num]; rfl⟩
      case round =>
        obtain ⟨j, hj, rfl, rfl⟩ := hrel
        by_cases hj8 : j < 8
        · go_wp2
          go_round
          case rel => exact ⟨j + 1, by omega, by go_num, by rw [step_num]; rfl⟩
          case measure => simp [intOf]; omega
        · obtain rfl : j = 8 := by omega
          go_wp2
          go_round
          case rel => exact ⟨k + 1, by omega, by go_num, by rw [HF.out]; rfl⟩
          case measure => simp [intOf]; omega
    · obtain rfl : k = l.length := by omega
      go_wp2
      go_ret
      exact ⟨ret_int (by rw [not_num]; rfl), hb.out⟩
set_option maxHeartbeats 400000 in
theorem number_any (l : List UInt8) (w : World) (h4 : 4 ≤ l.length) (hs : l.length ≤ maxLen) :
    Calls Tryz.prog 109 #[.string ⟨l.toArray⟩] w fun e w' => e = .returned (.int .u32 (Crc.num l).toNat) ∧ w = w' := by
  unfold maxLen at hs
  have HG := Lib.hid (or_num (l.getD 0 0) (l.getD 1 0) (l.getD 2 0) (l.getD 3 0))
  go_enter Tryz.func109, Tryz.ntmps109
  go_wp2
  go_rounds 5 <;> go_wp2
  go_ret
  refine ⟨ret_int ?_, rfl⟩
  rw [bs_getD, bs_getD, bs_getD, bs_getD, HG.out, ← getD_four]
set_option maxHeartbeats 400000 in
theorem four_any (n : BitVec 32) (w : World) :
    Calls Tryz.prog 77 #[.int .u32 n.toNat] w fun e w' => e = .returned (.string ⟨(Crc.four n).toArray⟩) ∧ Below w.heap.size w w' := by
  have hconv := fun (a b c d : Int) => run_convert_bytes_arg (P := Tryz.prog) (w.alloc (.cells #[.int .u8 a, .int .u8 b, .int .u8 c, .int .u8 d] 47)) 49 5 Tryz.underlying49 Tryz.underlying5 w.heap.size 0 4 4 [a, b, c, d] rfl
    (fun i hi => by match i, hi with | 0, _ => simp [go_sem] | 1, _ => simp [go_sem] | 2, _ => simp [go_sem] | 3, _ => simp [go_sem]) 9 Tryz.underlying9
  go_enter Tryz.func77, Tryz.ntmps77
  go_wp2
  refine wp_loop_rounds 5 ?_
  rw [rounds_succ]; go_wp2
  rw [rounds_succ]; go_wp2
  rw [rounds_succ]; go_wp2
  rw [rounds_succ]; go_wp2
  rw [rounds_succ]; go_wp2
  go_ret
  exact ⟨ret_str (str_four n), by go_grown⟩
end Go.Proofs.YtjfpbeccpcbpcaaGreatDoor
namespace Go.Proofs.YtjfpbeccpcbpcaaGreatDoor.Frm
open Crc
def put (l : List UInt8) : List UInt8 := four (BitVec.ofNat 32 l.length) ++ (four (sum l) ++ l)
def next (l : List UInt8) (k : Int) : List UInt8 × Int × Int :=
  if k < 0 ∨ (l.length : Int) < k then ([], 0, 1) else
  let r := l.drop k.toNat
  if r.length < 8 then ([], 0, 5) else
  let n := (num r).toNat
  if 16384 < n then ([], 0, 4) else
  if r.length - 8 < n then ([], 0, 5) else
  let b := (r.take (8 + n)).drop 8
  if sum b ≠ num (r.drop 4) then ([], 0, 6) else (b, k + 8 + n, 0)
theorem next_arg {l : List UInt8} {k : Int} (h : k < 0 ∨ (l.length : Int) < k) : next l k = ([], 0, 1) := by unfold next; rw [if_pos h]
theorem next_short {l : List UInt8} {k : Nat} (h : k ≤ l.length) (h8 : l.length - k < 8) : next l k = ([], 0, 5) := by
  unfold next
  rw [if_neg (by omega)]
  simp only [Int.toNat_natCast]
  rw [if_pos (by simp; omega)]
theorem next_long {l : List UInt8} {k : Nat} (h : k ≤ l.length) (h8 : 8 ≤ l.length - k) (hn : 16384 < (num (l.drop k)).toNat) : next l k = ([], 0, 4) := by
  unfold next
  rw [if_neg (by omega)]
  simp only [Int.toNat_natCast]
  rw [if_neg (by simp; omega), if_pos hn]
theorem next_short2 {l : List UInt8} {k : Nat} (h : k ≤ l.length) (h8 : 8 ≤ l.length - k) (hn : (num (l.drop k)).toNat ≤ 16384) (hs : l.length - k - 8 < (num (l.drop k)).toNat) : next l k = ([], 0, 5) := by
  unfold next
  rw [if_neg (by omega)]
  simp only [Int.toNat_natCast]
  rw [if_neg (by simp; omega), if_neg (by omega), if_pos (by simp; omega)]
theorem next_sum {l : List UInt8} {k : Nat} (h : k ≤ l.length) (h8 : 8 ≤ l.length - k) (hn : (num (l.drop k)).toNat ≤ 16384) (hs : (num (l.drop k)).toNat ≤ l.length - k - 8)
    (hc : sum (((l.drop k).take (8 + (num (l.drop k)).toNat)).drop 8) ≠ num ((l.drop k).drop 4)) : next l k = ([], 0, 6) := by
  unfold next
  rw [if_neg (by omega)]
  simp only [Int.toNat_natCast]
  rw [if_neg (by simp; omega), if_neg (by omega), if_neg (by simp; omega), if_pos hc]
theorem next_ok {l : List UInt8} {k : Nat} (h : k ≤ l.length) (h8 : 8 ≤ l.length - k) (hn : (num (l.drop k)).toNat ≤ 16384) (hs : (num (l.drop k)).toNat ≤ l.length - k - 8)
    (hc : sum (((l.drop k).take (8 + (num (l.drop k)).toNat)).drop 8) = num ((l.drop k).drop 4)) :
    next l k = (((l.drop k).take (8 + (num (l.drop k)).toNat)).drop 8, (k : Int) + 8 + (num (l.drop k)).toNat, 0) := by
  unfold next
  rw [if_neg (by omega)]
  simp only [Int.toNat_natCast]
  rw [if_neg (by simp; omega), if_neg (by omega), if_neg (by simp; omega), if_neg (by simpa using hc)]
theorem next_zero {l : List UInt8} {k : Nat} (h : (next l k).2.2 = 0) :
    k + 8 + (num (l.drop k)).toNat ≤ l.length ∧ (num (l.drop k)).toNat ≤ 16384 ∧ (next l k).1 = ((l.drop k).take (8 + (num (l.drop k)).toNat)).drop 8 ∧
      (next l k).2.1 = (k : Int) + 8 + (num (l.drop k)).toNat ∧ sum (next l k).1 = num ((l.drop k).drop 4) ∧ (next l k).1.length = (num (l.drop k)).toNat := by
  by_cases h0 : (k : Int) < 0 ∨ (l.length : Int) < k
  · rw [next_arg h0] at h; cases h
  · have hk : k ≤ l.length := by omega
    by_cases h8 : l.length - k < 8
    · rw [next_short hk h8] at h; cases h
    · by_cases h1 : 16384 < (num (l.drop k)).toNat
      · rw [next_long hk (by omega) h1] at h; cases h
      · by_cases h2 : l.length - k - 8 < (num (l.drop k)).toNat
        · rw [next_short2 hk (by omega) (by omega) h2] at h; cases h
        · by_cases h3 : sum (((l.drop k).take (8 + (num (l.drop k)).toNat)).drop 8) = num ((l.drop k).drop 4)
          · rw [next_ok hk (by omega) (by omega) (by omega) h3]
            refine ⟨by omega, by omega, rfl, rfl, h3, ?_⟩
            simp only [List.length_drop, List.length_take]
            omega
          · rw [next_sum hk (by omega) (by omega) (by omega) h3] at h; cases h
def scanFrom (l : List UInt8) (k : Nat) : List (List UInt8) × Nat :=
  if h : (next l k).2.2 = 0 ∧ k < (next l k).2.1.toNat ∧ (next l k).2.1.toNat ≤ l.length then
    ((next l k).1 :: (scanFrom l (next l k).2.1.toNat).1, (scanFrom l (next l k).2.1.toNat).2)
  else ([], k)
termination_by l.length - k
decreasing_by all_goals omega
def scan (l : List UInt8) : List (List UInt8) × Nat := scanFrom l 0
theorem scan_end {l : List UInt8} {k : Nat} (h : (next l k).2.2 ≠ 0) : scanFrom l k = ([], k) := by
  rw [scanFrom, dif_neg (fun g => h g.1)]
theorem scan_more {l : List UInt8} {k m : Nat} (h : (next l k).2.2 = 0) (hm : (next l k).2.1 = m) : scanFrom l k = ((next l k).1 :: (scanFrom l m).1, (scanFrom l m).2) := by
  obtain ⟨h1, _, _, h2, _⟩ := next_zero h
  have e : (next l k).2.1.toNat = m := by omega
  rw [scanFrom, dif_pos ⟨h, by omega, by omega⟩, e]
end Go.Proofs.YtjfpbeccpcbpcaaGreatDoor.Frm
namespace Go.Proofs.YtjfpbeccpcbpcaaGreatDoor
open Go.RowKit
attribute [local go_sem] Crc.four_length
theorem ne_no {a b : BitVec 32} (h : a = b) : ((a.toNat : Int) != (b.toNat : Int)) = false := by rw [h]; simp
theorem ne_yes {a b : BitVec 32} (h : a ≠ b) : ((a.toNat : Int) != (b.toNat : Int)) = true := by
  rw [bne_iff_ne]
  intro e
  exact h (BitVec.eq_of_toNat_eq (by omega))
theorem four_int (n : Int) (w : World) (h0 : 0 ≤ n) (h1 : n < 4294967296) :
    Calls Tryz.prog 77 #[.int .u32 n] w fun e w' => e = .returned (.string ⟨(Crc.four (BitVec.ofNat 32 n.toNat)).toArray⟩) ∧ Below w.heap.size w w' := by
  have e : n = ((BitVec.ofNat 32 n.toNat).toNat : Int) := by rw [BitVec.toNat_ofNat]; omega
  have h := four_any (BitVec.ofNat 32 n.toNat) w
  rwa [← e] at h
set_option maxHeartbeats 400000 in
theorem put_any (l : List UInt8) (w : World) (hs : l.length ≤ 16384) :
    Calls Tryz.prog 19 #[.string ⟨l.toArray⟩] w fun e w' => e = .returned (.tuple #[.string ⟨(Frm.put l).toArray⟩, .int .i64 0]) ∧ Below w.heap.size w w' := by
  go_enter Tryz.func19, Tryz.ntmps19
  go_wp2_with fail
  refine (four_int _ _ (by omega) (by omega)).mono ?_
  rintro e w1 ⟨rfl, hb1⟩
  have HB1 := Lib.hid hb1
  clear hb1
  go_wp2_with fail
  refine (sum_any _ _ (by unfold maxLen; omega)).mono ?_
  rintro e w2 ⟨rfl, hb2⟩
  have HB2 := Lib.hid hb2
  clear hb2
  go_wp2_with fail
  refine (four_any _ _).mono ?_
  rintro e w3 ⟨rfl, hb3⟩
  have HB3 := Lib.hid hb3
  clear hb3
  go_wp2
  go_ret2
  exact ⟨rfl, bt (bt HB1.out HB2.out) HB3.out⟩
theorem next_arg (l : List UInt8) (k : Int) (w : World) (h : k < 0 ∨ (l.length : Int) < k) (hm : l.length ≤ maxLen) :
    Calls Tryz.prog 60 #[.string ⟨l.toArray⟩, .int .i64 k] w fun e w' => e = .returned (.tuple #[.string ⟨#[]⟩, .int .i64 0, .int .i64 1]) ∧ w = w' := by
  unfold maxLen at hm
  by_cases h0 : k < 0
  · go_enter Tryz.func60, Tryz.ntmps60
    go_wp2
    go_ret3
    exact ⟨rfl, rfl⟩
  · have h1 : (l.length : Int) < k := by omega
    clear h
    go_enter Tryz.func60, Tryz.ntmps60
    go_wp2
    go_ret3
    exact ⟨rfl, rfl⟩
set_option maxHeartbeats 400000 in
theorem next_short (l : List UInt8) (k : Nat) (w : World) (h : k ≤ l.length) (h8 : l.length - k < 8) (hm : l.length ≤ maxLen) :
    Calls Tryz.prog 60 #[.string ⟨l.toArray⟩, .int .i64 k] w fun e w' => e = .returned (.tuple #[.string ⟨#[]⟩, .int .i64 0, .int .i64 5]) ∧ w = w' := by
  unfold maxLen at hm
  have hs := str_from (P := Tryz.prog) l k k rfl h 9 .i64 Tryz.underlying9
  have hl : (l.drop k).length < 8 := by simp; omega
  generalize l.drop k = r at hs hl
  go_enter Tryz.func60, Tryz.ntmps60
  go_wp2
  go_ret3
  exact ⟨rfl, rfl⟩
set_option maxHeartbeats 400000 in
theorem next_rest (l : List UInt8) (k : Nat) (w : World) (h : k ≤ l.length) (h8 : 8 ≤ l.length - k) (hm : l.length ≤ maxLen) :
    Calls Tryz.prog 60 #[.string ⟨l.toArray⟩, .int .i64 k] w fun e w' => e = .returned (.tuple #[.string ⟨(Frm.next l k).1.toArray⟩, .int .i64 (Frm.next l k).2.1, .int .i64 (Frm.next l k).2.2]) ∧ Below w.heap.size w w' := by
  unfold maxLen at hm
  have hs := str_from (P := Tryz.prog) l k k rfl h 9 .i64 Tryz.underlying9
  have hl : 8 ≤ (l.drop k).length := by simp; omega
  have hl2 : (l.drop k).length + k ≤ 9223372036854775807 := by simp; omega
  have H1 := Lib.hid (@Frm.next_long l k h h8)
  have H2 := Lib.hid (@Frm.next_short2 l k h h8)
  have H3 := Lib.hid (@Frm.next_sum l k h h8)
  have H4 := Lib.hid (@Frm.next_ok l k h h8)
  have hlen : l.length - k - 8 = (l.drop k).length - 8 := by simp
  rw [hlen] at H2 H3 H4
  clear hlen
  generalize l.drop k = r at hs hl hl2 H1 H2 H3 H4
  generalize Frm.next l k = q at H1 H2 H3 H4
  obtain ⟨q1, q2, q3⟩ := q
  have hn := (Crc.num r).isLt
  go_enter Tryz.func60, Tryz.ntmps60
  go_wp2_with fail
  refine (number_any _ _ (by omega) (by unfold maxLen; omega)).mono ?_
  rintro e w1 ⟨rfl, rfl⟩
  by_cases c1 : 16384 < (Crc.num r).toNat
  · have e1 := H1.out c1
    injection e1 with e1 e2
    injection e2 with e2 e3
    subst e1 e2 e3
    go_wp2
    go_ret3
    exact ⟨rfl, Below.refl _ _⟩
  · by_cases c2 : r.length - 8 < (Crc.num r).toNat
    · have e1 := H2.out (by omega) c2
      injection e1 with e1 e2
      injection e2 with e2 e3
      subst e1 e2 e3
      go_wp2
      go_ret3
      exact ⟨rfl, Below.refl _ _⟩
    · have hc := str_cut (P := Tryz.prog) r 8 (8 + (Crc.num r).toNat) 8 (8 + (Crc.num r).toNat) .i64 .u32 rfl (by omega) (by omega) (by omega) 9 Tryz.underlying9
      have h4 := str_from (P := Tryz.prog) r 4 4 rfl (by omega) 9 .i64 Tryz.underlying9
      have hb : ((r.take (8 + (Crc.num r).toNat)).drop 8).length ≤ 16384 := by simp; omega
      have h4l : 4 ≤ (r.drop 4).length := by simp; omega
      have h4m : (r.drop 4).length ≤ 9223372036854775807 := by simp; omega
      generalize (r.take (8 + (Crc.num r).toNat)).drop 8 = b at hc hb H3 H4
      generalize r.drop 4 = r4 at h4 h4l h4m H3 H4
      by_cases c3 : Crc.sum b = Crc.num r4
      · have e1 := H4.out (by omega) (by omega) c3
        injection e1 with e1 e2
        injection e2 with e2 e3
        subst e1 e2 e3
        have ht := ne_no c3
        clear hn c3
        go_wp2_with fail
        go_region_with (first | (go_at_call 78; refine (sum_any _ _ (by unfold maxLen; omega)).mono ?_; rintro e w2 ⟨rfl, hb2⟩) | (go_at_call 109; refine (number_any _ _ h4l (by unfold maxLen; omega)).mono ?_; rintro e w3 ⟨rfl, rfl⟩))
        all_goals
          have HB2 := Lib.hid hb2
          clear hb2
          go_wp2
          go_ret3
          exact ⟨rfl, bd HB2.out⟩
      · have e1 := H3.out (by omega) (by omega) c3
        injection e1 with e1 e2
        injection e2 with e2 e3
        subst e1 e2 e3
        have ht := ne_yes c3
        clear hn c3
        go_wp2_with fail
        go_region_with (first | (go_at_call 78; refine (sum_any _ _ (by unfold maxLen; omega)).mono ?_; rintro e w2 ⟨rfl, hb2⟩) | (go_at_call 109; refine (number_any _ _ h4l (by unfold maxLen; omega)).mono ?_; rintro e w3 ⟨rfl, rfl⟩))
        all_goals
          have HB2 := Lib.hid hb2
          clear hb2
          go_wp2
          go_ret3
          exact ⟨rfl, bd HB2.out⟩
theorem next_any (l : List UInt8) (k : Int) (w : World) (hm : l.length ≤ maxLen) :
    Calls Tryz.prog 60 #[.string ⟨l.toArray⟩, .int .i64 k] w fun e w' => e = .returned (.tuple #[.string ⟨(Frm.next l k).1.toArray⟩, .int .i64 (Frm.next l k).2.1, .int .i64 (Frm.next l k).2.2]) ∧ Below w.heap.size w w' := by
  by_cases h : k < 0 ∨ (l.length : Int) < k
  · rw [Frm.next_arg h]
    exact (next_arg l k w h hm).mono fun e w' ⟨he, hw⟩ => ⟨he, hw ▸ Below.refl _ _⟩
  · obtain ⟨n, rfl⟩ := Int.eq_ofNat_of_zero_le (show 0 ≤ k by omega)
    by_cases h8 : l.length - n < 8
    · rw [Frm.next_short (by omega) h8]
      exact (next_short l n w (by omega) h8 hm).mono fun e w' ⟨he, hw⟩ => ⟨he, hw ▸ Below.refl _ _⟩
    · exact next_rest l n w (by omega) (by omega) hm
end Go.Proofs.YtjfpbeccpcbpcaaGreatDoor
namespace Go.Proofs.YtjfpbeccpcbpcaaGreatDoor
open Go.RowKit
def WStrs (w : World) (ls : List (List UInt8)) (e : Ending) (w' : World) : Prop := ∃ v, e = .returned v ∧ w'.ownsRow w.heap.size 9 1 v ls.length (sv ls) ∧ Below w.heap.size w w'
theorem sv_append (a b : List (List UInt8)) : sv (a ++ b) = sv a ++ sv b := by simp [sv]
theorem ownsRow_weaken {w : World} {b b' : Nat} {e : TypeId} {size : Nat} {v : Value} {n : Nat} {xs : List Value} (h : w.ownsRow b e size v n xs) (hb : b' ≤ b) : w.ownsRow b' e size v n xs := by
  refine ⟨h.1, ?_⟩
  rcases h.2 with h2 | ⟨g, cap, cur, e1, hB, r⟩
  · exact .inl h2
  · exact .inr ⟨g, cap, cur, e1, Nat.le_trans hb hB, r⟩
set_option maxRecDepth 20000 in
set_option maxHeartbeats 1600000 in
theorem wints_any (l : List Int) (hl : l.length ≤ 100000) (hr : ∀ x ∈ l, Bd.inR x) (v : Value) (w : World) (h : Ints w v l) (hw : Lw w) :
    Calls Tryz.prog 80 #[v] w (WStrs w (l.map Bd.bInt)) := by
  have HZ := Lib.hid h
  have HW := Lib.hid hw
  have HR := Lib.hid hr
  obtain ⟨a, cap, rfl⟩ := h.form
  obtain ⟨i0, hi, hz0, hz1, hz2⟩ := info_parts cinfoStr
  clear h hw hr
  go_enter Tryz.func80, Tryz.ntmps80
  go_wp2
  go_loopw [2, 7] (fun tv ti wr => ∃ k : Nat, ti = .int .i64 k ∧ k ≤ l.length ∧ wr.ownsRow w.heap.size 9 1 tv k (sv ((l.map Bd.bInt).take k)) ∧ Below w.heap.size w wr) (fun _ ti _ => l.length - (intOf ti).toNat)
  case atStart => exact ⟨0, rfl, by omega, ⟨by simp [sv], .inl ⟨rfl, rfl⟩⟩, Below.refl _ _⟩
  case round =>
    obtain ⟨k, rfl, hk, ho, hb⟩ := hrel
    have HO := Lib.hid ho
    have HB := Lib.hid hb
    clear ho hb
    by_cases hlt : k < l.length
    · obtain ⟨x, hx⟩ : ∃ x, l[k]? = some x := ⟨l[k], by simp [hlt]⟩
      have HJ := Lib.hid (beadInt_any x (HR.out x (List.mem_of_getElem? hx)) wr (HW.out.below HB.out))
      have HT : Hid (sv ((l.map Bd.bInt).take (k + 1)) = sv ((l.map Bd.bInt).take k) ++ sv [Bd.bInt x]) := by
        rw [Hid, ← sv_append]
        congr 1
        rw [List.take_succ_eq_append_getElem (by simpa using hlt)]
        obtain ⟨_, rfl⟩ := List.getElem?_eq_some_iff.1 hx
        simp
      obtain ⟨g, off, cap', he, hg, p0⟩ := HZ.out.get HB.out hx
      injection he with he1 he2 he3
      subst he1 he3
      clear he2
      generalize Bd.bInt x = bx at *
      go_wp2_with fail
      refine HJ.out.mono ?_
      rintro e w1 ⟨rfl, hb1⟩
      have HO1 := Lib.hid (ownsRow_below HO.out hb1)
      have HB1 := Lib.hid (bt HB.out hb1)
      have hsz := HB1.out.size
      clear hb1 HJ HO p0
      go_wp2_with (at_builtin; refine wpList_append_own _ rfl _ _ 51 rfl w.heap.size 9 i0 (.string ⟨#[]⟩) 1 16 Tryz.underlying51 hi hz0 hz1 hz2 rfl (by decide) _ _ _ rfl (World.ownsRow.alloc HO1.out _) ⟨w1.heap.size, 0, none⟩ 1 1 [.string ⟨bx.toArray⟩] rfl rfl (cell_one_new _ _ _) ?_ ?_ ?_ ?_ ?_)
      · simp [Value.oneCell']
      · unfold maxLen; omega
      · omega
      · simp; omega
      intro v' w2 hown2 hg2 _
      have HN : Hid (w2.ownsRow w.heap.size 9 1 v' (k + 1) (sv ((l.map Bd.bInt).take (k + 1)))) := by rw [Hid, HT.out]; exact hown2
      have HB2 : Hid (Below w.heap.size w w2) := (HB1.out.alloc hsz _).grown hg2 (by simp; omega) (fun kk hkk => (HO1.out.lt kk hkk).1)
      clear hown2 hg2
      go_wp2
      go_roundw
      case rel => exact ⟨k + 1, by go_num, by omega, HN.out, HB2.out⟩
      case measure => simp [intOf]; omega
    · obtain rfl : k = l.length := by omega
      have h9 := HO.out
      rw [List.take_of_length_le (by simp), show l.length = (l.map Bd.bInt).length by simp] at h9
      have HF := Lib.hid h9
      clear h9
      go_wp2
      go_ret
      exact ⟨_, rfl, HF.out, HB.out⟩
theorem ints3_cl {W : World} {g : Nat} {a b c : Int} {t : TypeId} (C : Cl W g [.int .i64 a, .int .i64 b, .int .i64 c] t) : Ints W (.slice (some ⟨g, 0, none⟩) 3 3) [a, b, c] := by
  refine ⟨_, 3, rfl, fun i hi => ⟨g, 0, rfl, C.lt, ?_⟩⟩
  rw [Nat.zero_add, Cl.cell C i]
  rcases (show i = 0 ∨ i = 1 ∨ i = 2 by simp at hi; omega) with rfl | rfl | rfl <;> rfl
end Go.Proofs.YtjfpbeccpcbpcaaGreatDoor
