/-
  The document's reading of a size (From), walked; its complex number.
  Conditions: none.
-/
import Derived.Test.YtadioaeeobmdgaaRga
import Derived.Test.YtadioaeeobmdgaaCl
import Derived.BigRegion
set_option linter.unusedVariables false
set_option linter.unusedSimpArgs false
namespace Go.Proofs.Ytadioaeeobmdgaa
open Go.RowKit Fl

theorem cmp_symm (a b : Int) : ((compare a b) == Ordering.eq) = ((compare b a) == Ordering.eq) := by
  rcases Int.lt_trichotomy a b with h | h | h
  · rw [Fl.int_lt h, Fl.int_gt h]; rfl
  · subst h; rfl
  · rw [Fl.int_gt h, Fl.int_lt h]; rfl
theorem datum_symm (a b : Ieee.Datum) : (a.order b == some Ordering.eq) = (b.order a == some Ordering.eq) := by
  cases a with
  | nan s f => cases b <;> simp [Ieee.Datum.order]
  | infinity s =>
    cases b with
    | nan s f => simp [Ieee.Datum.order]
    | infinity t => cases s <;> cases t <;> first | rfl | simp [Ieee.Datum.order]
    | number t n i => cases s <;> simp [Ieee.Datum.order]
  | number s m e =>
    cases b with
    | nan s f => simp [Ieee.Datum.order]
    | infinity t => cases t <;> simp [Ieee.Datum.order]
    | number t n i =>
      have := cmp_symm (Ieee.signed s m (e - min e i).toNat) (Ieee.signed t n (i - min e i).toNat)
      simp only [Ieee.Datum.order]
      rw [Int.min_comm i e]
      simpa using this
theorem order_symm (x y : Nat) : (FloatKind.f64.format.order x y == some Ordering.eq) = (FloatKind.f64.format.order y x == some Ordering.eq) := datum_symm _ _

/-- A size that the document reads. -/
abbrev szV (q : Nat × Nat) : Value := .agg #[.int .i64 q.1, .int .i64 q.2]

set_option maxRecDepth 20000 in
set_option maxHeartbeats 1000000 in
theorem complex_any (a b : Nat) (w : World) :
    Calls Try.prog 22 #[szV (a, b)] w fun e w' => e = .returned (cx (a, b)) ∧ Below w.heap.size w w' := by
  have ha := floatOfInt_fl a
  have hb := floatOfInt_fl b
  have B0 : Hid (Below w.heap.size w (w.alloc (.cells #[.int .i64 a, .int .i64 b] 52))) := (Below.refl _ _).alloc (Nat.le_refl _) _
  go_enter Try.func22, Try.ntmps22
  go_wp2
  go_ret
  exact ⟨rfl, B0.out⟩

/-- Where the range tests hold: the whole number, and what the second test says of it. -/
theorem whole_or' {x : Nat} (h1 : ge0 x = true) (h2 : leMost x = true) : ∃ n : Nat, n ≤ most ∧ (Ieee.double.read x).toInt .zero = some (n : Int) ∧
    ((FloatKind.f64.format.order (fl n) x == some Ordering.eq) = (Fl.part x).isSome) ∧ (Fl.part x = none ∨ Fl.part x = some n) := by
  obtain ⟨n, hn, hi, ho, hp⟩ := whole_or h1 h2
  exact ⟨n, hn, hi, by rw [order_symm]; exact ho, hp⟩

set_option maxRecDepth 20000 in
set_option maxHeartbeats 3200000 in
theorem from_in (x y : Nat) (h1 : ge0 x = true) (h2 : leMost x = true) (h3 : ge0 y = true) (h4 : leMost y = true) (w : World) :
    Calls Try.prog 25 #[.complex .f64 x y] w fun e w' => (∃ a b : Nat, e = .returned (.tuple #[szV (a, b), .bool ((Fl.part x).isSome && (Fl.part y).isSome)]) ∧ (∀ n, Fl.part x = some n → a = n) ∧ (∀ n, Fl.part y = some n → b = n)) ∧ Below w.heap.size w w' := by
  obtain ⟨a, ha, hia, hoa, hpa⟩ := whole_or' h1 h2
  obtain ⟨b, hb, hib, hob, hpb⟩ := whole_or' h3 h4
  have t1 : (FloatKind.f64.format.order x 0 == some Ordering.gt || FloatKind.f64.format.order x 0 == some Ordering.eq) = true := h1
  have t2 : (FloatKind.f64.format.order x 4787326403894837248 == some Ordering.lt || FloatKind.f64.format.order x 4787326403894837248 == some Ordering.eq) = true := h2
  have t3 : (FloatKind.f64.format.order y 0 == some Ordering.gt || FloatKind.f64.format.order y 0 == some Ordering.eq) = true := h3
  have t4 : (FloatKind.f64.format.order y 4787326403894837248 == some Ordering.lt || FloatKind.f64.format.order y 4787326403894837248 == some Ordering.eq) = true := h4
  rw [most_eq] at ha hb
  have hca := conv_int hia (by omega)
  have hcb := conv_int hib (by omega)
  have hfa := floatOfInt_fl a
  have hfb := floatOfInt_fl b
  have HPA : Hid (∀ n, Fl.part x = some n → a = n) := fun n hn => by
    rcases hpa with h | h
    · rw [h] at hn; cases hn
    · rw [h] at hn; injection hn
  have HPB : Hid (∀ n, Fl.part y = some n → b = n) := fun n hn => by
    rcases hpb with h | h
    · rw [h] at hn; cases hn
    · rw [h] at hn; injection hn
  clear h1 h2 h3 h4 hpa hpb hia hib
  have B0 : Hid (Below w.heap.size w ((w.alloc (.cells #[.int .i64 0, .int .i64 0] 52)).alloc (.cells #[.int .i64 a, .int .i64 b] 52))) := ((Below.refl _ _).alloc (Nat.le_refl _) _).alloc (by simp) _
  have C0 : Hid (Cl ((w.alloc (.cells #[.int .i64 0, .int .i64 0] 52)).alloc (.cells #[.int .i64 a, .int .i64 b] 52)) w.heap.size [.int .i64 0, .int .i64 0] 52) := (Cl.new w [.int .i64 0, .int .i64 0] 52).alloc _
  have D0 : Hid (Cl ((w.alloc (.cells #[.int .i64 0, .int .i64 0] 52)).alloc (.cells #[.int .i64 a, .int .i64 b] 52)) (w.heap.size + 1) [.int .i64 a, .int .i64 b] 52) := by
    have := Cl.new (w.alloc (.cells #[.int .i64 0, .int .i64 0] 52)) [.int .i64 a, .int .i64 b] 52
    rwa [show (w.alloc (.cells #[.int .i64 0, .int .i64 0] 52)).heap.size = w.heap.size + 1 from by simp] at this
  generalize (Fl.part x).isSome = p at hoa ⊢
  generalize (Fl.part y).isSome = q at hob ⊢
  go_enter Try.func25, Try.ntmps25
  go_wp2
  generalize (w.alloc (.cells #[.int .i64 0, .int .i64 0] 52)).alloc (.cells #[.int .i64 a, .int .i64 b] 52) = w2 at *
  have c0 : w2.cell? ⟨w.heap.size, 0, none⟩ = some (.int .i64 0) := C0.out.cell 0
  have c1 : w2.cell? ⟨w.heap.size, 1, none⟩ = some (.int .i64 0) := C0.out.cell 1
  have f0 := C0.out.free 0
  have f1 := C0.out.free 1
  have d0 : w2.cell? ⟨w.heap.size + 1, 0, none⟩ = some (.int .i64 a) := D0.out.cell 0
  have d1 : w2.cell? ⟨w.heap.size + 1, 1, none⟩ = some (.int .i64 b) := D0.out.cell 1
  cases p with
  | true =>
    go_region
    go_wp2
    refine bodyPost_ret (results_cl_tmp rfl _ _ _ _ _ _ rfl (((C0.out.set 0 (.int .i64 a)).set 1 (.int .i64 b)).drewN 1) Try.underlying52 rfl (by kernel_rfl)) rfl ?_
    exact ⟨⟨a, b, by simp, HPA.out, HPB.out⟩, ((B0.out.setCell (Nat.le_refl _) _).setCell (Nat.le_refl _) _).drew⟩
  | false =>
    go_region
    go_wp2
    refine bodyPost_ret (results_cl_tmp rfl _ _ _ _ _ _ rfl (((C0.out.set 0 (.int .i64 a)).set 1 (.int .i64 b)).drewN 1) Try.underlying52 rfl (by kernel_rfl)) rfl ?_
    exact ⟨⟨a, b, by simp, HPA.out, HPB.out⟩, ((B0.out.setCell (Nat.le_refl _) _).setCell (Nat.le_refl _) _).drew⟩
theorem part_none_iff {x : Nat} (h : ge0 x = false ∨ leMost x = false) : Fl.part x = none := h.elim part_none_of_ge part_none_of_le
set_option maxRecDepth 20000 in
set_option maxHeartbeats 3200000 in
theorem from_out (x y : Nat) (h : (ge0 x && (leMost x && (ge0 y && leMost y))) = false) (w : World) :
    Calls Try.prog 25 #[.complex .f64 x y] w fun e w' => e = .returned (.tuple #[szV (0, 0), .bool false]) ∧ Below w.heap.size w w' := by
  have e1 : (FloatKind.f64.format.order x 0 == some Ordering.gt || FloatKind.f64.format.order x 0 == some Ordering.eq) = ge0 x := rfl
  have e2 : (FloatKind.f64.format.order x 4787326403894837248 == some Ordering.lt || FloatKind.f64.format.order x 4787326403894837248 == some Ordering.eq) = leMost x := rfl
  have e3 : (FloatKind.f64.format.order y 0 == some Ordering.gt || FloatKind.f64.format.order y 0 == some Ordering.eq) = ge0 y := rfl
  have e4 : (FloatKind.f64.format.order y 4787326403894837248 == some Ordering.lt || FloatKind.f64.format.order y 4787326403894837248 == some Ordering.eq) = leMost y := rfl
  generalize ge0 x = b1 at *
  generalize leMost x = b2 at *
  generalize ge0 y = b3 at *
  generalize leMost y = b4 at *
  have B0 : Hid (Below w.heap.size w (w.alloc (.cells #[.int .i64 0, .int .i64 0] 52))) := (Below.refl _ _).alloc (Nat.le_refl _) _
  have C0 : Hid (Cl (w.alloc (.cells #[.int .i64 0, .int .i64 0] 52)) w.heap.size [.int .i64 0, .int .i64 0] 52) := Cl.new w [.int .i64 0, .int .i64 0] 52
  have hpost : ∀ w', Below w.heap.size w w' → (Ending.returned (.tuple #[szV (0, 0), .bool false]) = Ending.returned (.tuple #[szV (0, 0), .bool false])) ∧ Below w.heap.size w w' := fun w' h => ⟨rfl, h⟩
  cases b1 with
  | false =>
    clear h
    go_enter Try.func25, Try.ntmps25
    go_wp2
    refine bodyPost_ret (results_cl_tmp rfl _ _ _ _ _ _ rfl C0.out Try.underlying52 rfl (by kernel_rfl)) rfl ?_
    exact ⟨rfl, B0.out⟩
  | true =>
  cases b2 with
  | false =>
    clear h
    go_enter Try.func25, Try.ntmps25
    go_wp2
    refine bodyPost_ret (results_cl_tmp rfl _ _ _ _ _ _ rfl C0.out Try.underlying52 rfl (by kernel_rfl)) rfl ?_
    exact ⟨rfl, B0.out⟩
  | true =>
  cases b3 with
  | false =>
    clear h
    go_enter Try.func25, Try.ntmps25
    go_wp2
    refine bodyPost_ret (results_cl_tmp rfl _ _ _ _ _ _ rfl C0.out Try.underlying52 rfl (by kernel_rfl)) rfl ?_
    exact ⟨rfl, B0.out⟩
  | true =>
  cases b4 with
  | false =>
    clear h
    go_enter Try.func25, Try.ntmps25
    go_wp2
    refine bodyPost_ret (results_cl_tmp rfl _ _ _ _ _ _ rfl C0.out Try.underlying52 rfl (by kernel_rfl)) rfl ?_
    exact ⟨rfl, B0.out⟩
  | true => cases h
/-- From, told by what the parts are. -/
def FromPost (x y : Nat) (w : World) (e : Ending) (w' : World) : Prop :=
  (∃ a b : Nat, e = .returned (.tuple #[szV (a, b), .bool ((Fl.part x).isSome && (Fl.part y).isSome)]) ∧ (∀ n m, Fl.part x = some n → Fl.part y = some m → a = n ∧ b = m)) ∧ Below w.heap.size w w'
theorem from_any (x y : Nat) (w : World) : Calls Try.prog 25 #[.complex .f64 x y] w (FromPost x y w) := by
  cases h : (ge0 x && (leMost x && (ge0 y && leMost y))) with
  | false =>
    refine (from_out x y h w).mono ?_
    rintro e w' ⟨rfl, hb⟩
    have hn : Fl.part x = none ∨ Fl.part y = none := by
      rw [Bool.and_eq_false_iff, Bool.and_eq_false_iff, Bool.and_eq_false_iff] at h
      rcases h with h | h | h | h
      · exact .inl (part_none_of_ge h)
      · exact .inl (part_none_of_le h)
      · exact .inr (part_none_of_ge h)
      · exact .inr (part_none_of_le h)
    refine ⟨⟨0, 0, ?_, fun n m h1 h2 => ?_⟩, hb⟩
    · rcases hn with hn | hn <;> rw [hn] <;> simp
    · rcases hn with hn | hn
      · rw [hn] at h1; cases h1
      · rw [hn] at h2; cases h2
  | true =>
    rw [Bool.and_eq_true, Bool.and_eq_true, Bool.and_eq_true] at h
    refine (from_in x y h.1 h.2.1 h.2.2.1 h.2.2.2 w).mono ?_
    rintro e w' ⟨⟨a, b, he, h1, h2⟩, hb⟩
    exact ⟨⟨a, b, he, fun n m e1 e2 => ⟨h1 n e1, h2 m e2⟩⟩, hb⟩

end Go.Proofs.Ytadioaeeobmdgaa
