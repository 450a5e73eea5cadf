/-
  Whole numbers of any size as floats: which of them are sizes.
  Conditions: none but 64 bits.
-/
import Derived.Test.YtccndbifnbmddaaGwa
set_option linter.unusedVariables false
set_option linter.unusedSimpArgs false
namespace Go.Proofs.Ytccndbifnbmddaa.Fl
open Ieee

theorem cut_bounds (neg : Bool) {n d : Nat} (hd : d ≤ n.log2 + 2) : n / 2 ^ d ≤ Toward.even.cut neg n d ∧ Toward.even.cut neg n d ≤ n / 2 ^ d + 1 := by
  unfold Toward.cut
  have hm : min d (n.log2 + 2) = d := by omega
  rw [hm]
  simp only [Nat.one_shiftLeft]
  generalize (decide (2 ^ d < 2 * (n % 2 ^ d)) || 2 ^ d == 2 * (n % 2 ^ d) && n / 2 ^ d % 2 == 1) = b
  cases b <;> simp
set_option maxRecDepth 20000 in
theorem near_word (s : Bool) {n : Nat} (h0 : n ≠ 0) (h : n < 2 ^ 64) : ∃ k, 2 ^ 52 ≤ k ∧ k ≤ 2 ^ 53 ∧ double.nearest s n 0 = double.word s ((n.log2 + 1022) * 2 ^ 52 + k) := by
  have hl1 : 2 ^ n.log2 ≤ n := Nat.log2_self_le h0
  have hl2 : n < 2 ^ (n.log2 + 1) := Nat.lt_log2_self
  have hl3 : n.log2 < 64 := by
    have h2 : 2 ^ n.log2 < 2 ^ 64 := Nat.lt_of_le_of_lt hl1 h
    exact (Nat.pow_lt_pow_iff_right (by omega : 1 < 2)).1 h2
  have hlast : max ((0 : Int) + (n.log2 : Int) - ((double.fractionBits : Nat) : Int)) double.leastPlace = (n.log2 : Int) - 52 := by
    have e : double.leastPlace = -1074 := by decide
    have e2 : double.fractionBits = 52 := rfl
    rw [e, e2]
    omega
  have hkept : ∃ k, Toward.even.cut s (n <<< ((0 : Int) - ((n.log2 : Int) - 52)).toNat) (((n.log2 : Int) - 52) - 0).toNat = k ∧ 2 ^ 52 ≤ k ∧ k ≤ 2 ^ 53 := by
    by_cases hc : n.log2 ≤ 52
    · have e1 : ((0 : Int) - ((n.log2 : Int) - 52)).toNat = 52 - n.log2 := by omega
      have e2 : (((n.log2 : Int) - 52) - 0).toNat = 0 := by omega
      have h53 : n < 2 ^ 53 := Nat.lt_of_lt_of_le hl2 (Nat.pow_le_pow_right (by omega) (by omega))
      have hb := scaled_bounds h0 h53
      refine ⟨_, rfl, ?_⟩
      rw [e1, e2, Nat.shiftLeft_eq]
      have := cut_exact .even s (n * 2 ^ (52 - n.log2)) 0
      rw [Nat.pow_zero, Nat.mul_one] at this
      rw [this]
      omega
    · have e1 : ((0 : Int) - ((n.log2 : Int) - 52)).toNat = 0 := by omega
      have e2 : (((n.log2 : Int) - 52) - 0).toNat = n.log2 - 52 := by omega
      refine ⟨_, rfl, ?_⟩
      rw [e1, e2, Nat.shiftLeft_eq, Nat.pow_zero, Nat.mul_one]
      have hb := cut_bounds s (n := n) (d := n.log2 - 52) (by omega)
      have hp : 0 < 2 ^ (n.log2 - 52) := Nat.two_pow_pos _
      have g1 : 2 ^ 52 ≤ n / 2 ^ (n.log2 - 52) := by
        rw [Nat.le_div_iff_mul_le hp, ← Nat.pow_add, show 52 + (n.log2 - 52) = n.log2 by omega]
        exact hl1
      have g2 : n / 2 ^ (n.log2 - 52) < 2 ^ 53 := by
        rw [Nat.div_lt_iff_lt_mul hp, ← Nat.pow_add, show 53 + (n.log2 - 52) = n.log2 + 1 by omega]
        exact hl2
      omega
  obtain ⟨k, hk, k1, k2⟩ := hkept
  refine ⟨k, k1, k2, ?_⟩
  unfold Format.nearest
  rw [if_neg h0]
  simp only [hlast, hk]
  have e : double.leastPlace = -1074 := by decide
  have eb : double.binade = 2 ^ 52 := rfl
  have e3 : ((n.log2 : Int) - 52 - double.leastPlace).toNat = n.log2 + 1022 := by rw [e]; omega
  have e4 : double.infRung = 2047 * 2 ^ 52 := by decide
  rw [e3, eb, e4, Nat.min_eq_left (by omega)]
set_option maxRecDepth 20000 in
/-- What such a word reads as. -/
theorem read_word (s : Bool) {l k : Nat} (hl : l < 64) (k1 : 2 ^ 52 ≤ k) (k2 : k ≤ 2 ^ 53) : ∃ m e, double.read (double.word s ((l + 1022) * 2 ^ 52 + k)) = .number s m e ∧ 2 ^ 52 ≤ m ∧ ∃ a : Nat, e = -1074 + (a : Int) ∧ l + 1022 ≤ a := by
  have e1 : double.signWeight = 2 ^ 63 := by decide
  have e2 : double.binade = 2 ^ 52 := rfl
  have e3 : double.infRung = 2047 * 2 ^ 52 := by decide
  have e4 : double.leastPlace = -1074 := by decide
  generalize hr : (l + 1022) * 2 ^ 52 + k = r
  have hr1 : (l + 1023) * 2 ^ 52 ≤ r := by omega
  have hr2 : r ≤ (l + 1024) * 2 ^ 52 := by omega
  have hmod : double.word s r % 2 ^ 63 = r := by
    unfold Format.word
    rw [e1]
    cases s
    · simp only [Bool.false_eq_true, if_false]; omega
    · simp only [if_true]; omega
  have hdiv : (double.word s r / 2 ^ 63 % 2 == 1) = s := by
    unfold Format.word
    rw [e1]
    cases s
    · simp only [Bool.false_eq_true, if_false]
      rw [show r / 2 ^ 63 = 0 by omega]; rfl
    · simp only [if_true]
      rw [beq_iff_eq]; omega
  unfold Format.read
  rw [e1, e2, e3, e4]
  simp only [hmod, hdiv]
  rw [if_neg (by omega), if_pos (by omega)]
  exact ⟨_, _, rfl, by omega, r / 2 ^ 52 - 1, rfl, by omega⟩
theorem part_neg {n : Nat} (h0 : n ≠ 0) (h : n < 2 ^ 64) : part (double.nearest true n 0) = none := by
  obtain ⟨k, k1, k2, hw⟩ := near_word true h0 h
  have hl3 : n.log2 < 64 := by
    have h2 : 2 ^ n.log2 < 2 ^ 64 := Nat.lt_of_le_of_lt (Nat.log2_self_le h0) h
    exact (Nat.pow_lt_pow_iff_right (by omega : 1 < 2)).1 h2
  obtain ⟨m, e, hr, hm, a, ha, _⟩ := read_word true hl3 k1 k2
  unfold part
  rw [hw, hr]
  show (if 0 ≤ units true m e ∧ _ then _ else _) = none
  rw [if_neg]
  rintro ⟨h1, _⟩
  unfold units at h1
  rw [signed_true] at h1
  have : 0 < m * 2 ^ (e + 1074).toNat := Nat.mul_pos (by omega) (Nat.two_pow_pos _)
  omega
theorem part_big {n : Nat} (h1 : 2 ^ 53 ≤ n) (h : n < 2 ^ 64) : part (fl n) = none := by
  have h0 : n ≠ 0 := by omega
  obtain ⟨k, k1, k2, hw⟩ := near_word false h0 h
  have hl3 : n.log2 < 64 := by
    have h2 : 2 ^ n.log2 < 2 ^ 64 := Nat.lt_of_le_of_lt (Nat.log2_self_le h0) h
    exact (Nat.pow_lt_pow_iff_right (by omega : 1 < 2)).1 h2
  have hl4 : 53 ≤ n.log2 := (Nat.le_log2 h0).2 h1
  obtain ⟨m, e, hr, hm, a, ha, hla⟩ := read_word false hl3 k1 k2
  unfold part fl
  rw [hw, hr]
  show (if 0 ≤ units false m e ∧ units false m e ≤ ((most * K : Nat) : Int) ∧ _ then _ else _) = none
  rw [if_neg]
  rintro ⟨_, h2, _⟩
  unfold units at h2
  rw [signed_false, show (e + 1074).toNat = a by omega] at h2
  have h3 : m * 2 ^ a ≤ most * K := by omega
  have h4 : most * K < 2 ^ 52 * 2 ^ (PL + 1) := by
    unfold most K
    rw [← Nat.pow_add, ← Nat.pow_add]
    exact Nat.pow_lt_pow_right (by omega) (by omega)
  have hpl : PL + 1 ≤ a := by rw [PL_eq]; omega
  have h5 : 2 ^ 52 * 2 ^ (PL + 1) ≤ m * 2 ^ a := Nat.mul_le_mul hm (Nat.pow_le_pow_right (by omega) hpl)
  exact absurd (Nat.lt_of_lt_of_le h4 (Nat.le_trans h5 h3)) (Nat.lt_irrefl _)
/-- A whole number is a size just if it is from 0 to the most. -/
def sizeOf? (z : Int) : Option Nat := if 0 ≤ z ∧ z ≤ 1099511627776 then some z.toNat else none
theorem part_int {z : Int} (h1 : -9223372036854775808 ≤ z) (h2 : z ≤ 9223372036854775807) : part (floatOfInt .f64 z) = sizeOf? z := by
  by_cases hz : 0 ≤ z
  · obtain ⟨n, rfl⟩ : ∃ n : Nat, z = n := ⟨z.toNat, by omega⟩
    rw [floatOfInt_fl]
    by_cases hn : n ≤ most
    · rw [part_fl hn, sizeOf?, if_pos ⟨hz, by unfold most at hn; omega⟩]; rfl
    · have hno : sizeOf? (n : Int) = none := by
        rw [sizeOf?, if_neg]; unfold most at hn; omega
      rw [hno]
      by_cases h53 : n < 2 ^ 53
      · apply part_none_of_le
        unfold leMost
        rw [← fl_most, order_fl h53 most_lt]
        have : compare n most = .gt := Nat.compare_eq_gt.2 (by omega)
        rw [this]; rfl
      · exact part_big (by omega) (by omega)
  · have hno : sizeOf? z = none := by
      rw [sizeOf?, if_neg]; omega
    rw [hno]
    have hlt : z < 0 := by omega
    have : floatOfInt .f64 z = double.nearest true z.natAbs 0 := by
      simp [floatOfInt, FloatKind.nearest, FloatKind.encode, FloatKind.format, Ieee.Format.write, hlt]
    rw [this]
    exact part_neg (by omega) (by omega)

end Go.Proofs.Ytccndbifnbmddaa.Fl
