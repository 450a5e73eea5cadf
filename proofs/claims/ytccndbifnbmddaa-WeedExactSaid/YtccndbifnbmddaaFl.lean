/-
  Whole numbers as floats of 64 bits: adding, subtracting, comparing and converting them is exact below 2^53. In plain Lean, over the model's own arithmetic of floats.
  Conditions: each names its bounds.
-/
import GoSem.Core.Float
set_option linter.unusedVariables false
set_option linter.unusedSimpArgs false
namespace Go.Proofs.Ytccndbifnbmddaa.Fl
open Ieee

/-- The bits of a whole number. -/
def fl (n : Nat) : Nat := double.nearest false n 0
/-- A datum that stands for the whole number n, on a place not above the units. -/
def Rep (d : Datum) (n : Nat) : Prop := ∃ (j : Nat), d = .number false (n * 2 ^ j) (-(j : Int))

theorem log2_mul_pow (n j : Nat) (h : n ≠ 0) : (n * 2 ^ j).log2 = n.log2 + j := by
  have h1 : 2 ^ n.log2 ≤ n := Nat.log2_self_le h
  have h2 : n < 2 ^ (n.log2 + 1) := Nat.lt_log2_self
  have hp : 0 < 2 ^ j := Nat.two_pow_pos j
  have hne : n * 2 ^ j ≠ 0 := Nat.mul_ne_zero h (Nat.pos_iff_ne_zero.1 hp)
  apply (Nat.log2_eq_iff hne).2
  constructor
  · rw [Nat.pow_add]; exact Nat.mul_le_mul_right _ h1
  · rw [show n.log2 + j + 1 = (n.log2 + 1) + j by omega, Nat.pow_add]; exact Nat.mul_lt_mul_of_pos_right h2 hp
theorem cut_exact (way : Toward) (neg : Bool) (n d : Nat) : way.cut neg (n * 2 ^ d) d = n := by
  unfold Toward.cut
  by_cases h : n = 0
  · subst h
    cases way <;> simp
  · have hm : min d ((n * 2 ^ d).log2 + 2) = d := by rw [log2_mul_pow n d h]; omega
    have hp : 0 < 2 ^ d := Nat.two_pow_pos d
    rw [hm]
    simp only [Nat.one_shiftLeft]
    rw [Nat.mul_div_cancel _ hp, Nat.mul_mod_left]
    have hne : ¬ (2 ^ d = 0) := Nat.pos_iff_ne_zero.1 hp
    cases way <;> simp [hne]
theorem log2_lt_53 {n : Nat} (h0 : n ≠ 0) (h : n < 2 ^ 53) : n.log2 ≤ 52 := by
  have h1 : 2 ^ n.log2 ≤ n := Nat.log2_self_le h0
  have h2 : 2 ^ n.log2 < 2 ^ 53 := Nat.lt_of_le_of_lt h1 h
  have := (Nat.pow_lt_pow_iff_right (by omega : 1 < 2)).1 h2
  omega
/-- The rung of a whole number. -/
theorem nearest_rep (n j : Nat) (h0 : n ≠ 0) (h : n < 2 ^ 53) : double.nearest false (n * 2 ^ j) (-(j : Int)) = (n.log2 + 1022) * 2 ^ 52 + n * 2 ^ (52 - n.log2) := by
  have hk := log2_lt_53 h0 h
  have hp : 0 < 2 ^ j := Nat.two_pow_pos j
  have hne : n * 2 ^ j ≠ 0 := Nat.mul_ne_zero h0 (Nat.pos_iff_ne_zero.1 hp)
  have hl := log2_mul_pow n j h0
  have hlast : max (-(j : Int) + ((n * 2 ^ j).log2 : Int) - ((double.fractionBits : Nat) : Int)) double.leastPlace = (n.log2 : Int) - 52 := by
    rw [hl]
    have e : double.leastPlace = -1074 := by decide
    have e2 : double.fractionBits = 52 := rfl
    rw [e, e2]
    omega
  have hkept : Toward.even.cut false ((n * 2 ^ j) <<< (-(j : Int) - ((n.log2 : Int) - 52)).toNat) (((n.log2 : Int) - 52) - (-(j : Int))).toNat = n * 2 ^ (52 - n.log2) := by
    rw [Nat.shiftLeft_eq, Nat.mul_assoc, ← Nat.pow_add]
    by_cases hj : j ≤ 52 - n.log2
    · have e1 : j + (-(j : Int) - ((n.log2 : Int) - 52)).toNat = 52 - n.log2 := by omega
      have e2 : (((n.log2 : Int) - 52) - (-(j : Int))).toNat = 0 := by omega
      rw [e1, e2]
      have := cut_exact .even false (n * 2 ^ (52 - n.log2)) 0
      simpa using this
    · have e1 : j + (-(j : Int) - ((n.log2 : Int) - 52)).toNat = (52 - n.log2) + (j - (52 - n.log2)) := by omega
      have e2 : (((n.log2 : Int) - 52) - (-(j : Int))).toNat = j - (52 - n.log2) := by omega
      rw [e1, e2, Nat.pow_add, ← Nat.mul_assoc]
      exact cut_exact .even false (n * 2 ^ (52 - n.log2)) _
  unfold Format.nearest
  rw [if_neg hne]
  simp only [hlast, hkept]
  have e : double.leastPlace = -1074 := by decide
  have eb : double.binade = 2 ^ 52 := rfl
  have e3 : ((n.log2 : Int) - 52 - double.leastPlace).toNat = n.log2 + 1022 := by rw [e]; omega
  rw [e3, eb]
  unfold Format.word
  simp only [Bool.false_eq_true, if_false]
  apply Nat.min_eq_left
  have h1 : n * 2 ^ (52 - n.log2) < 2 ^ 53 := by
    have h2 : n < 2 ^ (n.log2 + 1) := Nat.lt_log2_self
    have := Nat.mul_lt_mul_of_pos_right h2 (Nat.two_pow_pos (52 - n.log2))
    rw [← Nat.pow_add] at this
    rwa [show n.log2 + 1 + (52 - n.log2) = 53 by omega] at this
  have e4 : double.infRung = 2047 * 2 ^ 52 := by decide
  rw [e4]
  omega
theorem fl_pos {n : Nat} (h0 : n ≠ 0) (h : n < 2 ^ 53) : fl n = (n.log2 + 1022) * 2 ^ 52 + n * 2 ^ (52 - n.log2) := by
  have := nearest_rep n 0 h0 h
  simpa [fl] using this
theorem fl_zero : fl 0 = 0 := by decide
/-- Whatever stands for n is written as n's bits. -/
theorem write_rep {d : Datum} {n : Nat} (hd : Rep d n) (h : n < 2 ^ 53) : double.write d = fl n := by
  obtain ⟨j, rfl⟩ := hd
  unfold Format.write
  by_cases h0 : n = 0
  · subst h0
    simp [Format.nearest, fl_zero, Format.word]
  · show double.nearest false (n * 2 ^ j) (-(j : Int)) = fl n
    rw [nearest_rep n j h0 h, fl_pos h0 h]
theorem scaled_bounds {n : Nat} (h0 : n ≠ 0) (h : n < 2 ^ 53) : 2 ^ 52 ≤ n * 2 ^ (52 - n.log2) ∧ n * 2 ^ (52 - n.log2) < 2 ^ 53 := by
  have hk := log2_lt_53 h0 h
  have h1 : 2 ^ n.log2 ≤ n := Nat.log2_self_le h0
  have h2 : n < 2 ^ (n.log2 + 1) := Nat.lt_log2_self
  constructor
  · have := Nat.mul_le_mul_right (2 ^ (52 - n.log2)) h1
    rw [← Nat.pow_add] at this
    rwa [show n.log2 + (52 - n.log2) = 52 by omega] at this
  · have := Nat.mul_lt_mul_of_pos_right h2 (Nat.two_pow_pos (52 - n.log2))
    rw [← Nat.pow_add] at this
    rwa [show n.log2 + 1 + (52 - n.log2) = 53 by omega] at this
theorem fl_lt {n : Nat} (h : n < 2 ^ 53) : fl n < 2 ^ 63 := by
  by_cases h0 : n = 0
  · subst h0; rw [fl_zero]; omega
  · rw [fl_pos h0 h]
    have := scaled_bounds h0 h
    have := log2_lt_53 h0 h
    omega
theorem read_fl {n : Nat} (h : n < 2 ^ 53) : Rep (double.read (fl n)) n := by
  by_cases h0 : n = 0
  · subst h0
    have key : ∀ j : Nat, j = 1074 → double.read (fl 0) = Datum.number false (0 * 2 ^ j) (-(j : Int)) := by
      intro j hj
      rw [Nat.zero_mul, hj, fl_zero]
      rfl
    obtain ⟨j, hj⟩ : ∃ j : Nat, j = 1074 := ⟨_, rfl⟩
    exact ⟨j, key j hj⟩
  · have hb := scaled_bounds h0 h
    have hk := log2_lt_53 h0 h
    have hv := fl_pos h0 h
    refine ⟨52 - n.log2, ?_⟩
    unfold Format.read
    have e1 : double.signWeight = 2 ^ 63 := by decide
    have e2 : double.binade = 2 ^ 52 := rfl
    have e3 : double.infRung = 2047 * 2 ^ 52 := by decide
    have e4 : double.leastPlace = -1074 := by decide
    rw [e1, e2, e3, e4]
    have hlt := fl_lt h
    have m1 : fl n % 2 ^ 63 = fl n := Nat.mod_eq_of_lt hlt
    have m2 : fl n / 2 ^ 63 = 0 := Nat.div_eq_of_lt hlt
    simp only [m1, m2]
    generalize hs : n * 2 ^ (52 - n.log2) = s at hb hv
    have q1 : fl n / 2 ^ 52 = n.log2 + 1023 := by omega
    have q2 : fl n % 2 ^ 52 = s - 2 ^ 52 := by omega
    rw [if_neg (by omega), if_pos (by omega), q1, q2]
    have a1 : 2 ^ 52 + (s - 2 ^ 52) = s := by omega
    have a2 : (-1074 : Int) + ((n.log2 + 1023 - 1 : Nat) : Int) = -((52 - n.log2 : Nat) : Int) := by omega
    rw [a1, a2]
    rfl
theorem signed_false (m u : Nat) : signed false m u = ((m * 2 ^ u : Nat) : Int) := by simp [signed, Nat.shiftLeft_eq]
theorem signed_true (m u : Nat) : signed true m u = -((m * 2 ^ u : Nat) : Int) := by simp [signed, Nat.shiftLeft_eq]
theorem base_scale (n j : Nat) (i : Nat) : n * 2 ^ j * 2 ^ (-(j : Int) - min (-(j : Int)) (-(i : Int))).toNat = n * 2 ^ (max j i) := by
  rw [Nat.mul_assoc, ← Nat.pow_add]
  congr 2
  omega
theorem base_scale' (n i : Nat) (j : Nat) : n * 2 ^ i * 2 ^ (-(i : Int) - min (-(j : Int)) (-(i : Int))).toNat = n * 2 ^ (max j i) := by
  rw [Nat.mul_assoc, ← Nat.pow_add]
  congr 2
  omega
theorem sum_rep {c d : Datum} {a b : Nat} (hc : Rep c a) (hd : Rep d b) : ∃ r, c.sum d = some r ∧ Rep r (a + b) := by
  obtain ⟨i, rfl⟩ := hc
  obtain ⟨j, rfl⟩ := hd
  refine ⟨_, rfl, max i j, ?_⟩
  simp only [signed_false, base_scale, base_scale']
  have e : (((a * 2 ^ max i j : Nat) : Int) + ((b * 2 ^ max i j : Nat) : Int)) = (((a + b) * 2 ^ max i j : Nat) : Int) := by rw [Nat.add_mul]; omega
  rw [e]
  have hmin : min (-(i : Int)) (-(j : Int)) = -((max i j : Nat) : Int) := by omega
  rw [hmin, Int.natAbs_natCast]
  congr 1
  split
  · rfl
  · exact decide_eq_false (by omega)
theorem diff_rep {c d : Datum} {a b : Nat} (hc : Rep c a) (hd : Rep d b) (h : b ≤ a) : ∃ r, c.sum d.opposite = some r ∧ Rep r (a - b) := by
  obtain ⟨i, rfl⟩ := hc
  obtain ⟨j, rfl⟩ := hd
  refine ⟨_, rfl, max i j, ?_⟩
  simp only [Bool.not_false, signed_false, signed_true, base_scale, base_scale']
  have hle : b * 2 ^ max i j ≤ a * 2 ^ max i j := Nat.mul_le_mul_right _ h
  have e : (((a * 2 ^ max i j : Nat) : Int) + -((b * 2 ^ max i j : Nat) : Int)) = (((a - b) * 2 ^ max i j : Nat) : Int) := by rw [Nat.sub_mul]; omega
  rw [e]
  have hmin : min (-(i : Int)) (-(j : Int)) = -((max i j : Nat) : Int) := by omega
  rw [hmin, Int.natAbs_natCast]
  congr 1
  split
  · rfl
  · exact decide_eq_false (by omega)
theorem int_lt {x y : Int} (h : x < y) : compare x y = .lt := by
  show compareOfLessAndEq x y = _
  unfold compareOfLessAndEq
  rw [if_pos h]
theorem int_gt {x y : Int} (h : y < x) : compare x y = .gt := by
  show compareOfLessAndEq x y = _
  unfold compareOfLessAndEq
  rw [if_neg (by omega), if_neg (by omega)]
theorem order_rep {c d : Datum} {a b : Nat} (hc : Rep c a) (hd : Rep d b) : c.order d = some (compare a b) := by
  obtain ⟨i, rfl⟩ := hc
  obtain ⟨j, rfl⟩ := hd
  simp only [Datum.order, signed_false, base_scale, base_scale']
  have hp : 0 < 2 ^ max i j := Nat.two_pow_pos _
  congr 1
  rcases Nat.lt_trichotomy a b with h | h | h
  · have h2 := Nat.mul_lt_mul_of_pos_right h hp
    rw [Nat.compare_eq_lt.2 h]
    rw [int_lt (by omega)]
  · subst h
    simp
  · have h2 := Nat.mul_lt_mul_of_pos_right h hp
    rw [Nat.compare_eq_gt.2 h]
    rw [int_gt (by omega)]
theorem toInt_rep {d : Datum} {a : Nat} (hd : Rep d a) : d.toInt .zero = some (a : Int) := by
  obtain ⟨j, rfl⟩ := hd
  have e1 : (-(j : Int)).toNat = 0 := by omega
  have e2 : (- -(j : Int)).toNat = j := by omega
  simp only [Datum.toInt, Datum.integral, e1, e2, Nat.shiftLeft_zero, cut_exact, signed_false]
  simp
/- The operations on bits. -/
theorem add_fl {a b : Nat} (h : a + b < 2 ^ 53) : double.add (fl a) (fl b) = some (fl (a + b)) := by
  obtain ⟨r, hr, hrep⟩ := sum_rep (read_fl (n := a) (by omega)) (read_fl (n := b) (by omega))
  rw [Format.add, hr, Option.map_some, write_rep hrep h]
theorem sub_fl {a b : Nat} (h : a < 2 ^ 53) (hb : b ≤ a) : double.sub (fl a) (fl b) = some (fl (a - b)) := by
  obtain ⟨r, hr, hrep⟩ := diff_rep (read_fl (n := a) (by omega)) (read_fl (n := b) (by omega)) hb
  rw [Format.sub, hr, Option.map_some, write_rep hrep (by omega)]
theorem order_fl {a b : Nat} (ha : a < 2 ^ 53) (hb : b < 2 ^ 53) : double.order (fl a) (fl b) = some (compare a b) := order_rep (read_fl ha) (read_fl hb)
theorem toInt_fl {a : Nat} (ha : a < 2 ^ 53) : (double.read (fl a)).toInt .zero = some (a : Int) := toInt_rep (read_fl ha)
theorem fl_inj {a b : Nat} (ha : a < 2 ^ 53) (hb : b < 2 ^ 53) (h : fl a = fl b) : a = b := by
  have h1 := toInt_fl ha
  rw [h, toInt_fl hb] at h1
  injection h1 with h1
  omega

end Go.Proofs.Ytccndbifnbmddaa.Fl
