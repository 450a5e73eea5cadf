/-
  Which floats are whole numbers of a size: 'x >= 0 && x <= 1<<40 && x == float64(int(x))', for every bits. In plain Lean, over the model's own arithmetic of floats.
  Conditions: none.
-/
import Derived.Test.YtccndbifnbmddaaFl
set_option linter.unusedVariables false
set_option linter.unusedSimpArgs false
namespace Go.Proofs.Ytccndbifnbmddaa.Fl
open Ieee

/-- The units in which every finite float is whole. -/
def PL : Nat := 1074
theorem PL_eq : PL = 1074 := rfl
def K : Nat := 2 ^ PL
theorem K_pos : 0 < K := Nat.two_pow_pos _
/-- A finite float in these units. -/
def units (s : Bool) (m : Nat) (e : Int) : Int := signed s m (e + 1074).toNat
theorem signed_add (s : Bool) (m a b : Nat) : signed s m (a + b) = signed s m a * ((2 ^ b : Nat) : Int) := by
  cases s
  · rw [signed_false, signed_false, Nat.pow_add, ← Nat.mul_assoc, Int.natCast_mul (m * 2 ^ a)]
  · rw [signed_true, signed_true, Nat.pow_add, ← Nat.mul_assoc, Int.natCast_mul (m * 2 ^ a), Int.neg_mul]
theorem read_place {x : Nat} {s : Bool} {m : Nat} {e : Int} (h : double.read x = .number s m e) : -1074 ≤ e := by
  have e4 : double.leastPlace = -1074 := by decide
  unfold Format.read at h
  simp only [e4] at h
  split at h
  · injection h with _ _ h3; omega
  · split at h
    · injection h with _ _ h3; omega
    · split at h <;> cases h
theorem compare_mul (x y : Int) (c : Nat) (hc : 0 < c) : compare (x * (c : Int)) (y * (c : Int)) = compare x y := by
  have hc' : (0 : Int) < (c : Int) := by omega
  rcases Int.lt_trichotomy x y with h | h | h
  · rw [int_lt h, int_lt (Int.mul_lt_mul_of_pos_right h hc')]
  · subst h; rw [Int.compare_eq_eq.2 rfl, Int.compare_eq_eq.2 rfl]
  · rw [int_gt h, int_gt (Int.mul_lt_mul_of_pos_right h hc')]
theorem order_units {s t : Bool} {m n : Nat} {i j : Int} (hi : -1074 ≤ i) (hj : -1074 ≤ j) : Datum.order (.number s m i) (.number t n j) = some (compare (units s m i) (units t n j)) := by
  simp only [Datum.order]
  congr 1
  have e1 : (i + 1074).toNat = (i - min i j).toNat + (min i j + 1074).toNat := by omega
  have e2 : (j + 1074).toNat = (j - min i j).toNat + (min i j + 1074).toNat := by omega
  rw [units, units, e1, e2, signed_add, signed_add, compare_mul _ _ _ (Nat.two_pow_pos _)]
theorem units_rep {d : Datum} {n : Nat} (hd : Rep d n) {s : Bool} {m : Nat} {e : Int} (h : d = .number s m e) (he : -1074 ≤ e) : units s m e = ((n * K : Nat) : Int) := by
  obtain ⟨j, hj⟩ := hd
  rw [h] at hj
  injection hj with h1 h2 h3
  subst h1 h2 h3
  rw [units, signed_false, Nat.mul_assoc, ← Nat.pow_add, K]
  have : j + (-(j : Int) + 1074).toNat = PL := by have := PL_eq; omega
  rw [this]
theorem order_fl_units {x : Nat} {s : Bool} {m : Nat} {e : Int} (h : double.read x = .number s m e) {n : Nat} (hn : n < 2 ^ 53) : double.order x (fl n) = some (compare (units s m e) ((n * K : Nat) : Int)) := by
  have hp := read_place h
  have hr := read_fl hn
  obtain ⟨j, hj⟩ := hr
  have hq := read_place hj
  rw [Format.order, h, hj, order_units hp hq]
  rw [units_rep (d := double.read (fl n)) (read_fl hn) hj hq]
theorem toInt_units {s : Bool} {m : Nat} {e : Int} (he : -1074 ≤ e) : Datum.toInt .zero (.number s m e) = some (if s then -(((units s m e).natAbs / K : Nat) : Int) else (((units s m e).natAbs / K : Nat) : Int)) := by
  have hN : (units s m e).natAbs = m * 2 ^ (e + 1074).toNat := by
    cases s
    · rw [units, signed_false]; omega
    · rw [units, signed_true]; omega
  have hcut : Toward.zero.cut s (m <<< e.toNat) (-e).toNat = m * 2 ^ (e + 1074).toNat / K := by
    rw [Nat.shiftLeft_eq]
    by_cases h : 0 ≤ e
    · have e1 : (-e).toNat = 0 := by omega
      have e2 : (e + 1074).toNat = e.toNat + PL := by have := PL_eq; omega
      have := cut_exact .zero s (m * 2 ^ e.toNat) 0
      rw [e1, e2, Nat.pow_add, ← Nat.mul_assoc, K, Nat.mul_div_cancel _ (Nat.two_pow_pos _)]
      simpa using this
    · have e1 : e.toNat = 0 := by omega
      have e3 : (e + 1074).toNat + (-e).toNat = PL := by have := PL_eq; omega
      have hk : K = 2 ^ (e + 1074).toNat * 2 ^ (-e).toNat := by rw [K, ← Nat.pow_add, e3]
      rw [e1, hk, Nat.mul_comm m (2 ^ (e + 1074).toNat), Nat.mul_div_mul_left _ _ (Nat.two_pow_pos _)]
      simp only [Nat.pow_zero, Nat.mul_one]
      unfold Toward.cut
      simp only [Bool.toNat_false, Nat.add_zero, Nat.one_shiftLeft]
      by_cases hm : (-e).toNat ≤ m.log2 + 2
      · rw [Nat.min_eq_left hm]
      · rw [Nat.min_eq_right (by omega)]
        have h1 : m < 2 ^ (m.log2 + 1) := Nat.lt_log2_self
        have h2 : m < 2 ^ (m.log2 + 2) := Nat.lt_of_lt_of_le h1 (Nat.pow_le_pow_right (by omega) (by omega))
        have h3 : m < 2 ^ (-e).toNat := Nat.lt_of_lt_of_le h1 (Nat.pow_le_pow_right (by omega) (by omega))
        rw [Nat.div_eq_of_lt h2, Nat.div_eq_of_lt h3]
  unfold Datum.toInt Datum.integral
  simp only [hcut, hN]
  cases s
  · rw [signed_false]; simp
  · rw [signed_true]; simp
def most : Nat := 2 ^ 40
/-- The whole number that a float of a size is. -/
def part (x : Nat) : Option Nat :=
  match double.read x with
  | .number s m e => if 0 ≤ units s m e ∧ units s m e ≤ ((most * K : Nat) : Int) ∧ units s m e % (K : Int) = 0 then some (units s m e / (K : Int)).toNat else none
  | _ => none
def ge0 (x : Nat) : Bool := double.order x 0 == some .gt || double.order x 0 == some .eq
def leMost (x : Nat) : Bool := double.order x 4787326403894837248 == some .lt || double.order x 4787326403894837248 == some .eq
theorem fl_most : fl most = 4787326403894837248 := by decide +kernel
theorem most_lt : most < 2 ^ 53 := by decide
theorem part_le {x n : Nat} (h : part x = some n) : n ≤ most := by
  unfold part at h
  split at h
  · split at h
    · rename_i s m e _ hc
      obtain ⟨h1, h2, h3⟩ := hc
      injection h with h
      subst h
      have hk := K_pos
      generalize units s m e = N at h1 h2 h3
      have hd : N = (N / (K : Int)) * (K : Int) := by have := Int.emod_add_mul_ediv N (K : Int); rw [h3] at this; rw [Int.mul_comm]; omega
      have hle : N / (K : Int) ≤ (most : Int) := by
        rw [Int.natCast_mul] at h2
        exact Int.ediv_le_of_le_mul (by omega) h2
      omega
    · cases h
  · cases h
/-- A float that is a part, in units. -/
theorem part_units {x n : Nat} (h : part x = some n) : ∃ s m e, double.read x = .number s m e ∧ units s m e = ((n * K : Nat) : Int) := by
  unfold part at h
  split at h
  · split at h
    · rename_i s m e hr hc
      obtain ⟨h1, h2, h3⟩ := hc
      injection h with h
      refine ⟨s, m, e, hr, ?_⟩
      have hk := K_pos
      generalize units s m e = N at h1 h2 h3 h
      have hd : N = (N / (K : Int)) * (K : Int) := by have := Int.emod_add_mul_ediv N (K : Int); rw [h3] at this; rw [Int.mul_comm]; omega
      have h0 : 0 ≤ N / (K : Int) := Int.ediv_nonneg h1 (by omega)
      have hn : (n : Int) = N / (K : Int) := by omega
      rw [Int.natCast_mul, hn]
      exact hd
    · cases h
  · cases h
theorem part_order {x n : Nat} (h : part x = some n) {k : Nat} (hk : k < 2 ^ 53) : double.order x (fl k) = some (compare n k) := by
  obtain ⟨s, m, e, hr, hu⟩ := part_units h
  rw [order_fl_units hr hk, hu, Int.natCast_mul, Int.natCast_mul, compare_mul _ _ _ K_pos]
  congr 1
  rcases Nat.lt_trichotomy n k with h | h | h
  · rw [Nat.compare_eq_lt.2 h, int_lt (by omega)]
  · subst h; simp
  · rw [Nat.compare_eq_gt.2 h, int_gt (by omega)]
theorem part_toInt {x n : Nat} (h : part x = some n) : (double.read x).toInt .zero = some (n : Int) := by
  obtain ⟨s, m, e, hr, hu⟩ := part_units h
  rw [hr, toInt_units (read_place hr), hu]
  have hk := K_pos
  have e1 : (((n * K : Nat) : Int)).natAbs / K = n := by rw [Int.natAbs_natCast, Nat.mul_div_cancel _ hk]
  rw [e1]
  cases s with
  | false => rfl
  | true =>
    have h0 : units true m e ≤ 0 := by rw [units, signed_true]; omega
    rw [hu] at h0
    have : n * K = 0 := by omega
    have hn : n = 0 := by
      rcases Nat.mul_eq_zero.1 this with h | h
      · exact h
      · omega
    subst hn
    rfl
theorem part_ge {x n : Nat} (h : part x = some n) : ge0 x = true := by
  have := part_order h (k := 0) (by omega)
  rw [fl_zero] at this
  unfold ge0
  rw [this]
  rcases Nat.eq_zero_or_pos n with h | h
  · subst h; rfl
  · rw [Nat.compare_eq_gt.2 h]; rfl
theorem part_leMost {x n : Nat} (h : part x = some n) : leMost x = true := by
  have := part_order h most_lt
  rw [fl_most] at this
  unfold leMost
  rw [this]
  rcases Nat.lt_or_eq_of_le (part_le h) with h | h
  · rw [Nat.compare_eq_lt.2 h]; rfl
  · subst h; simp
/-- What the program's test comes to, where the first two hold. -/
theorem whole_or {x : Nat} (h1 : ge0 x = true) (h2 : leMost x = true) : ∃ n : Nat, n ≤ most ∧ (double.read x).toInt .zero = some (n : Int) ∧
    ((double.order x (fl n) == some .eq) = (part x).isSome) ∧ (part x = none ∨ part x = some n) := by
  cases hr : double.read x with
  | nan s f => unfold ge0 at h1; simp [Format.order, hr, Datum.order] at h1
  | infinity s =>
    unfold leMost ge0 at *
    have e1 : ∀ n, n < 2 ^ 53 → double.order x (fl n) = some (if s then .lt else .gt) := by
      intro n hn
      obtain ⟨j, hj⟩ := read_fl hn
      rw [Format.order, hr, hj]
      rfl
    have a1 := e1 0 (by omega)
    have a2 := e1 most most_lt
    rw [fl_zero] at a1
    rw [fl_most] at a2
    rw [a1] at h1
    rw [a2] at h2
    cases s <;> simp at h1 h2
  | number s m e =>
    have hp := read_place hr
    have o0 := order_fl_units hr (n := 0) (by omega)
    have om := order_fl_units hr most_lt
    rw [fl_zero] at o0
    rw [fl_most] at om
    have hk := K_pos
    have hN0 : 0 ≤ units s m e := by
      unfold ge0 at h1
      rw [o0] at h1
      rcases Int.lt_or_le (units s m e) 0 with h | h
      · rw [int_lt (by simpa using h)] at h1; simp at h1
      · exact h
    have hNm : units s m e ≤ ((most * K : Nat) : Int) := by
      unfold leMost at h2
      rw [om] at h2
      rcases Int.lt_or_le ((most * K : Nat) : Int) (units s m e) with h | h
      · rw [int_gt h] at h2; simp at h2
      · exact h
    refine ⟨(units s m e).natAbs / K, ?_, ?_, ?_, ?_⟩
    · apply Nat.div_le_of_le_mul
      rw [Nat.mul_comm]
      omega
    · rw [toInt_units hp]
      cases s with
      | false => rfl
      | true =>
        have h0 : units true m e ≤ 0 := by rw [units, signed_true]; omega
        have : units true m e = 0 := by omega
        rw [this]
        simp
    · have hle : (units s m e).natAbs / K ≤ most := by
        apply Nat.div_le_of_le_mul
        rw [Nat.mul_comm]
        omega
      rw [order_fl_units hr (by have := most_lt; omega)]
      unfold part
      rw [hr]
      simp only
      by_cases hd : units s m e % (K : Int) = 0
      · rw [if_pos ⟨hN0, hNm, hd⟩]
        have e1 : (((units s m e).natAbs / K * K : Nat) : Int) = units s m e := by
          have hmod : (units s m e).natAbs % K = 0 := by
            have : ((units s m e).natAbs : Int) = units s m e := by omega
            have h3 : (((units s m e).natAbs % K : Nat) : Int) = 0 := by rw [Int.natCast_emod, this]; exact hd
            omega
          have := Nat.div_mul_cancel (Nat.dvd_of_mod_eq_zero hmod)
          omega
        rw [e1]
        simp
      · rw [if_neg (fun h => hd h.2.2)]
        have hne : units s m e ≠ (((units s m e).natAbs / K * K : Nat) : Int) := by
          intro heq
          apply hd
          rw [heq, Int.natCast_mul]
          exact Int.mul_emod_left _ _
        rcases Int.lt_or_le (units s m e) (((units s m e).natAbs / K * K : Nat) : Int) with h | h
        · rw [int_lt h]; rfl
        · rw [int_gt (by omega)]; rfl
    · unfold part
      rw [hr]
      simp only
      by_cases hd : units s m e % (K : Int) = 0
      · rw [if_pos ⟨hN0, hNm, hd⟩]
        right
        congr 1
        have : ((units s m e).natAbs : Int) = units s m e := by omega
        have h3 : (((units s m e).natAbs / K : Nat) : Int) = units s m e / (K : Int) := by rw [Int.natCast_ediv, this]
        rw [← h3]
        rfl
      · rw [if_neg (fun h => hd h.2.2)]
        left; rfl
theorem part_none_of_ge {x : Nat} (h : ge0 x = false) : part x = none := by
  cases hp : part x with
  | none => rfl
  | some n => rw [part_ge hp] at h; cases h
theorem part_none_of_le {x : Nat} (h : leMost x = false) : part x = none := by
  cases hp : part x with
  | none => rfl
  | some n => rw [part_leMost hp] at h; cases h
/-- 'c + 0' makes the bits plain. -/
theorem part_add {x n : Nat} (h : part x = some n) : double.add x 0 = some (fl n) := by
  obtain ⟨s, m, e, hr, hu⟩ := part_units h
  have hp := read_place hr
  have h0 : double.read 0 = .number false 0 (-1074) := by rfl
  have hmin : min e (-1074) = -1074 := by omega
  have e1 : (e - -1074).toNat = (e + 1074).toNat := by omega
  rw [Format.add, hr, h0]
  simp only [Datum.sum, hmin, e1, Option.map_some]
  have hs : signed s m (e + 1074).toNat = ((n * K : Nat) : Int) := hu
  have hz : signed false 0 ((-1074 : Int) - -1074).toNat = 0 := by simp [signed]
  rw [hs, hz, Int.add_zero, Int.natAbs_natCast]
  refine congrArg some (write_rep ?_ (Nat.lt_of_le_of_lt (part_le h) most_lt))
  have hd : (if ((n * K : Nat) : Int) = 0 then s && false else decide (((n * K : Nat) : Int) < 0)) = false := by
    split
    · simp
    · exact decide_eq_false (by omega)
  have hpl : (-1074 : Int) = -((PL : Nat) : Int) := by rw [PL_eq]; rfl
  exact ⟨PL, by rw [hd, hpl]; rfl⟩
theorem part_fl {n : Nat} (h : n ≤ most) : part (fl n) = some n := by
  have hlt : n < 2 ^ 53 := Nat.lt_of_le_of_lt h most_lt
  obtain ⟨j, hj⟩ := read_fl hlt
  have hq := read_place hj
  have hu := units_rep (read_fl hlt) hj hq
  have hk := K_pos
  unfold part
  rw [hj]
  simp only [hu]
  rw [if_pos ⟨by omega, by have := Nat.mul_le_mul_right K h; omega, by rw [Int.natCast_mul]; exact Int.mul_emod_left _ _⟩]
  congr 1
  rw [Int.natCast_mul, Int.mul_ediv_cancel _ (by omega)]
  rfl

end Go.Proofs.Ytccndbifnbmddaa.Fl
