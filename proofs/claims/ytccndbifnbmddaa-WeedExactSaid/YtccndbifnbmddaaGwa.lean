/-
  Walks of the gauge's functions that only reckon: whole, isSize, Parts, sum.
  Conditions: none (sum: parts of a size, at most 4096 of them).
-/
import Derived.Test.YtccndbifnbmddaaRows
import Derived.Test.YtccndbifnbmddaaSl
import Derived.Test.YtccndbifnbmddaaFla
import Derived.Deep.QuietTactic
import Derived.BigQuiet
set_option linter.unusedVariables false
set_option linter.unusedSimpArgs false
namespace Go.Proofs.Ytccndbifnbmddaa
open Go.RowKit Fl

theorem floatOfInt_fl (n : Nat) : floatOfInt .f64 (n : Int) = fl n := by
  have h : ¬ ((n : Int) < 0) := by omega
  simp [floatOfInt, FloatKind.nearest, FloatKind.encode, FloatKind.format, Ieee.Format.write, fl, h]
theorem conv_int {x n : Nat} (h : (Ieee.double.read x).toInt .zero = some (n : Int)) (hn : n ≤ 4503599627370496) (w : World) : (convert 73 3 (.float .f64 x)).run Try.prog w = .ok (.int .i64 n) w := by
  refine run_convert_float_int w 73 3 .f64 .i64 x n (by rw [Try.underlying73]; rfl) Try.underlying3 ?_
  have e : (FloatKind.f64.decode x).toInt .zero = some (n : Int) := h
  unfold floatToIntVal
  rw [e]
  have h1 : IntKind.i64.min ≤ (n : Int) ∧ (n : Int) ≤ IntKind.i64.max := by
    have a : IntKind.i64.min = -9223372036854775808 := by decide
    have b : IntKind.i64.max = 9223372036854775807 := by decide
    rw [a, b]; omega
  simp only [h1, and_self, if_true]
theorem most_eq : most = 1099511627776 := by decide
set_option maxHeartbeats 400000 in
theorem whole_any (x : Nat) (w : World) :
    Calls Try.prog 54 #[.float .f64 x] w fun e w' => e = .returned (.bool (Fl.part x).isSome) ∧ w = w' := by
  by_cases h1 : ge0 x = true
  · have h1' : (FloatKind.f64.format.order x 0 == some Ordering.gt || FloatKind.f64.format.order x 0 == some Ordering.eq) = true := h1
    by_cases h2 : leMost x = true
    · obtain ⟨n, hn, hint, heq, _⟩ := whole_or h1 h2
      have h2' : (FloatKind.f64.format.order x 4787326403894837248 == some Ordering.lt || FloatKind.f64.format.order x 4787326403894837248 == some Ordering.eq) = true := h2
      have heq' : (FloatKind.f64.format.order x (fl n) == some Ordering.eq) = (Fl.part x).isSome := heq
      rw [most_eq] at hn
      have hcv := conv_int hint (by omega)
      have hof := floatOfInt_fl n
      clear h1 h2 hint heq
      generalize (Fl.part x).isSome = b at heq'
      go_enter Try.func54, Try.ntmps54
      go_wp2
      go_ret
      exact ⟨rfl, rfl⟩
    · have h2' : (FloatKind.f64.format.order x 4787326403894837248 == some Ordering.lt || FloatKind.f64.format.order x 4787326403894837248 == some Ordering.eq) = false := (by simpa using h2 : leMost x = false)
      rw [part_none_of_le (by simpa using h2)]
      clear h1 h2
      go_enter Try.func54, Try.ntmps54
      go_wp2
      go_ret
      exact ⟨rfl, rfl⟩
  · have h1' : (FloatKind.f64.format.order x 0 == some Ordering.gt || FloatKind.f64.format.order x 0 == some Ordering.eq) = false := (by simpa using h1 : ge0 x = false)
    rw [part_none_of_ge (by simpa using h1)]
    clear h1
    go_enter Try.func54, Try.ntmps54
    go_wp2
    go_ret
    exact ⟨rfl, rfl⟩

set_option maxHeartbeats 400000 in
theorem isSize_any (x y : Nat) (w : World) :
    Calls Try.prog 47 #[.complex .f64 x y] w fun e w' => e = .returned (.bool ((Fl.part x).isSome && (Fl.part y).isSome)) ∧ w = w' := by
  by_cases h : (Fl.part x).isSome = true
  · rw [h, Bool.true_and]
    have H := Lib.hid h
    clear h
    go_enter Try.func47, Try.ntmps47
    go_wp2_with fail
    refine (whole_any _ _).mono ?_
    rintro e w1 ⟨rfl, rfl⟩
    rw [H.out]
    go_wp2_with fail
    refine (whole_any _ _).mono ?_
    rintro e w1 ⟨rfl, rfl⟩
    go_wp2
    go_ret
    exact ⟨rfl, rfl⟩
  · have h' : (Fl.part x).isSome = false := by simpa using h
    rw [h', Bool.false_and]
    have H := Lib.hid h'
    clear h h'
    go_enter Try.func47, Try.ntmps47
    go_wp2_with fail
    refine (whole_any _ _).mono ?_
    rintro e w1 ⟨rfl, rfl⟩
    rw [H.out]
    go_wp2
    go_ret
    exact ⟨rfl, rfl⟩

/-- A size as the program holds it. -/
abbrev cx (q : Nat × Nat) : Value := .complex .f64 (fl q.1) (fl q.2)
def sA (ns : List (Nat × Nat)) : Nat := (ns.map (·.1)).sum
def sB (ns : List (Nat × Nat)) : Nat := (ns.map (·.2)).sum
theorem sA_append (a b : List (Nat × Nat)) : sA (a ++ b) = sA a + sA b := by simp [sA]
theorem sB_append (a b : List (Nat × Nat)) : sB (a ++ b) = sB a + sB b := by simp [sB]
/-- All are sizes. -/
def Sizes (ns : List (Nat × Nat)) : Prop := ∀ q ∈ ns, q.1 ≤ most ∧ q.2 ≤ most
theorem sums_le {ns : List (Nat × Nat)} (h : Sizes ns) : sA ns ≤ ns.length * most ∧ sB ns ≤ ns.length * most := by
  induction ns with
  | nil => simp [sA, sB]
  | cons q r ih =>
    have h1 := h q (by simp)
    have h2 := ih (fun x hx => h x (by simp [hx]))
    simp only [sA, sB, List.map_cons, List.sum_cons, List.length_cons, Nat.add_mul] at *
    omega
theorem sums_lt {ns : List (Nat × Nat)} (h : Sizes ns) (hl : ns.length ≤ 4096) : sA ns < 2 ^ 53 ∧ sB ns < 2 ^ 53 := by
  have h1 := sums_le h
  have h2 : ns.length * most ≤ 4096 * most := Nat.mul_le_mul_right _ hl
  rw [most_eq] at h1 h2
  omega
theorem add_cx (t : TypeId) (a b c d : Nat) (h1 : a + c < 2 ^ 53) (h2 : b + d < 2 ^ 53) (w : World) :
    (binOp .add t (.complex .f64 (fl a) (fl b)) (.complex .f64 (fl c) (fl d))).run Try.prog w = .ok (.complex .f64 (fl (a + c)) (fl (b + d))) w := by
  refine run_complex_sum w .add (.inl rfl) t .f64 _ _ _ _ _ _ ?_
  have e1 : floatBits .add .f64 (fl a) (fl c) = some (fl (a + c)) := add_fl h1
  have e2 : floatBits .add .f64 (fl b) (fl d) = some (fl (b + d)) := add_fl h2
  simp [cSumBits, e1, e2]
theorem sub_cx (t : TypeId) (a b c d : Nat) (h1 : a < 2 ^ 53) (h2 : b < 2 ^ 53) (hc : c ≤ a) (hd : d ≤ b) (w : World) :
    (binOp .sub t (.complex .f64 (fl a) (fl b)) (.complex .f64 (fl c) (fl d))).run Try.prog w = .ok (.complex .f64 (fl (a - c)) (fl (b - d))) w := by
  refine run_complex_sum w .sub (.inr rfl) t .f64 _ _ _ _ _ _ ?_
  have e1 : floatBits .sub .f64 (fl a) (fl c) = some (fl (a - c)) := sub_fl h1 hc
  have e2 : floatBits .sub .f64 (fl b) (fl d) = some (fl (b - d)) := sub_fl h2 hd
  simp [cSumBits, e1, e2]
/-- The sums of the first k grow by the k-th. -/
theorem sums_take (ns : List (Nat × Nat)) (k : Nat) (h : k < ns.length) : sA (ns.take (k + 1)) = sA (ns.take k) + (ns.getD k (0, 0)).1 ∧ sB (ns.take (k + 1)) = sB (ns.take k) + (ns.getD k (0, 0)).2 := by
  rw [List.take_succ_eq_append_getElem h, sA_append, sB_append]
  simp [sA, sB, List.getD, h]

set_option maxHeartbeats 400000 in
theorem sum_any (ns : List (Nat × Nat)) (a : Option Addr) (cap : Nat) (w : World) (hz : Sizes ns) (hl : ns.length ≤ 4096)
    (hc : ∀ k, k < ns.length → ∃ g off, a = some ⟨g, off, none⟩ ∧ w.cell? ⟨g, off + k, none⟩ = some (cx (ns.getD k (0, 0)))) :
    Calls Try.prog 66 #[.slice a ns.length cap] w fun e w' => e = .returned (cx (sA ns, sB ns)) ∧ w = w' := by
  have HC := Lib.hid hc
  clear hc
  go_enter Try.func66, Try.ntmps66
  go_wp2
  go_loop [2, 7] (fun s i => ∃ k : Nat, k ≤ ns.length ∧ i = .int .i64 k ∧ s = .complex .f64 (fl (sA (ns.take k))) (fl (sB (ns.take k)))) (fun _ i => ns.length - (intOf i).toNat)
  case atStart => exact ⟨0, by omega, rfl, by simp [sA, sB, fl_zero]⟩
  case round =>
    obtain ⟨k, hk, rfl, rfl⟩ := hrel
    by_cases hlt : k < ns.length
    · obtain ⟨g, off, rfl, hcell⟩ := HC.out k hlt
      obtain ⟨e1, e2⟩ := sums_take ns k hlt
      have hb := sums_lt (ns := ns.take (k + 1)) (fun q hq => hz q (List.mem_of_mem_take hq)) (by rw [List.length_take]; omega)
      rw [e1, e2] at hb
      have hadd := add_cx 72 (sA (ns.take k)) (sB (ns.take k)) (ns.getD k (0, 0)).1 (ns.getD k (0, 0)).2 hb.1 hb.2
      have E1 := Lib.hid e1
      have E2 := Lib.hid e2
      clear e1 e2 hb
      generalize ns.getD k (0, 0) = q at hcell hadd E1 E2
      generalize hsa : sA (ns.take k) = a1 at hadd E1
      generalize hsb : sB (ns.take k) = b1 at hadd E2
      clear hsa hsb
      obtain ⟨qa, qb⟩ := q
      go_wp2
      go_round
      case rel => exact ⟨k + 1, by omega, by go_num, by rw [E1.out, E2.out]⟩
      case measure => simp [intOf]; omega
    · obtain rfl : k = ns.length := by omega
      go_wp2
      go_ret
      exact ⟨rfl, rfl⟩

end Go.Proofs.Ytccndbifnbmddaa
