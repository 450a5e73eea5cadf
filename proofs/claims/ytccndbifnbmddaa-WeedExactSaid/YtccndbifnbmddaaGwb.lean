/-
  Walks of the row's methods that read: Len, Ahead, Sum, Over.
  Conditions: the row holds sizes, at most 4096 of them.
-/
import Derived.Test.YtccndbifnbmddaaGwa
set_option linter.unusedVariables false
set_option linter.unusedSimpArgs false
namespace Go.Proofs.Ytccndbifnbmddaa
open Go.RowKit Fl

/-- The row at block p: its slice v, its sizes. -/
def GRow (w : World) (B p : Nat) (v : Value) (ns : List (Nat × Nat)) : Prop :=
  w.heap[p]? = some (.cells #[v] 89 (0, 0)) ∧ B ≤ p ∧ Sl w B 1 v ns.length (ns.map cx) ∧ v.ownBlock ≠ some p ∧ Sizes ns ∧ ns.length ≤ 4096
theorem infoCx : (Try.prog.info? 72).map (fun i => (i.zero, i.size, i.bytes)) = some (some (.complex .f64 0 0), 1, 16) := by kernel_rfl
theorem GRow.kept {S : Nat → Prop} {w w' : World} {B p : Nat} {v : Value} {ns : List (Nat × Nat)} (h : GRow w B p v ns) (hk : Keeps S w w') (hp : ¬ S p) (hv : ∀ k, v.ownBlock = some k → ¬ S k) : GRow w' B p v ns := by
  obtain ⟨h1, h2, h3, h4, h5, h6⟩ := h
  have hlt : p < w.heap.size := (Array.getElem?_eq_some_iff.1 h1).1
  exact ⟨(hk.block p hlt hp).trans h1, h2, h3.kept hk hv, h4, h5, h6⟩
theorem GRow.lt {w : World} {B p : Nat} {v : Value} {ns : List (Nat × Nat)} (h : GRow w B p v ns) : p < w.heap.size := (Array.getElem?_eq_some_iff.1 h.1).1
theorem GRow.cell {w : World} {B p : Nat} {v : Value} {ns : List (Nat × Nat)} (h : GRow w B p v ns) : w.cell? ⟨p, 0, none⟩ = some v := cell_of_one h.1
theorem Sl.cells {w : World} {B : Nat} {a : Option Addr} {cap : Nat} {ns : List (Nat × Nat)} (h : Sl w B 1 (.slice a ns.length cap) ns.length (ns.map cx)) :
    ∀ k, k < ns.length → ∃ g off, a = some ⟨g, off, none⟩ ∧ w.cell? ⟨g, off + k, none⟩ = some (cx (ns.getD k (0, 0))) := by
  intro k hk
  rcases h.2 with ⟨_, h0⟩ | ⟨g, off, cap', he, hB, hg, hn, hm, hr, ht⟩
  · omega
  · injection he with h1 h2 h3
    subst h1
    exact ⟨g, off, rfl, hr k _ (by simp [List.getD, hk])⟩

set_option maxHeartbeats 400000 in
theorem len_any (B p : Nat) (v : Value) (ns : List (Nat × Nat)) (w : World) (h : GRow w B p v ns) :
    Calls Try.prog 49 #[.pointer (some ⟨p, 0, none⟩)] w fun e w' => e = .returned (.int .i64 ns.length) ∧ w = w' := by
  have hc := h.cell
  obtain ⟨a, cap, rfl, hle, hform⟩ := h.2.2.1.form
  clear h
  go_enter Try.func49, Try.ntmps49
  go_wp2
  go_ret
  exact ⟨rfl, rfl⟩
theorem len_nil (w : World) : Calls Try.prog 49 #[.pointer none] w fun e w' => e = .returned (.int .i64 0) ∧ w = w' := by
  go_enter Try.func49, Try.ntmps49
  go_wp2
  go_ret
  exact ⟨rfl, rfl⟩
theorem getD_take {ns : List (Nat × Nat)} {m k : Nat} (h : k < m) : (ns.take m).getD k (0, 0) = ns.getD k (0, 0) := by simp [List.getD, h]
theorem Sizes.take {ns : List (Nat × Nat)} (h : Sizes ns) (k : Nat) : Sizes (ns.take k) := fun q hq => h q (List.mem_of_mem_take hq)
theorem Sizes.drop {ns : List (Nat × Nat)} (h : Sizes ns) (k : Nat) : Sizes (ns.drop k) := fun q hq => h q (List.mem_of_mem_drop hq)

set_option maxHeartbeats 800000 in
theorem ahead_any (B p : Nat) (v : Value) (ns : List (Nat × Nat)) (at' : Int) (w : World) (h : GRow w B p v ns) :
    Calls Try.prog 55 #[.pointer (some ⟨p, 0, none⟩), .int .i64 at'] w fun e w' => e = .returned (cx (sA (ns.take at'.toNat), sB (ns.take at'.toNat))) ∧ ∃ n, w' = w.drewN n := by
  have hc := h.cell
  obtain ⟨a, cap, rfl, hle, hform⟩ := h.2.2.1.form
  have hcs := h.2.2.1.cells
  have hsz := h.2.2.2.2.1
  have hl := h.2.2.2.2.2
  clear h
  obtain ⟨i0, hi, _, _, _⟩ := info_parts infoCx
  obtain ⟨k, hk, hmk⟩ : ∃ k : Nat, k ≤ ns.length ∧ ns.take at'.toNat = ns.take k ∧ (k = at'.toNat ∨ (k = ns.length ∧ ns.length ≤ at'.toNat)) := by
    by_cases hh : at'.toNat ≤ ns.length
    · exact ⟨_, hh, rfl, .inl rfl⟩
    · exact ⟨ns.length, Nat.le_refl _, by rw [List.take_length, List.take_of_length_le (by omega)], .inr ⟨rfl, by omega⟩⟩
  obtain ⟨hmk, hkk⟩ := hmk
  rw [hmk]
  have hsl := slice_to (P := Try.prog) 87 72 i0 Try.underlying87 hi a ns.length cap k k .i64 rfl (by omega) hform
  have hsum : ∀ n, Calls Try.prog 66 #[.slice a k cap] (w.drewN n) fun e w' => e = .returned (cx (sA (ns.take k), sB (ns.take k))) ∧ w' = w.drewN n := by
    intro n
    have := sum_any (ns.take k) a cap (w.drewN n) (hsz.take k) (by rw [List.length_take]; omega) (fun j hj => by
      have hj' : j < k := by rw [List.length_take] at hj; omega
      obtain ⟨g, off, e1, e2⟩ := hcs j (by omega)
      exact ⟨g, off, e1, by rw [getD_take hj']; simpa using e2⟩)
    rw [List.length_take, Nat.min_eq_left hk] at this
    exact this.mono fun e w' ⟨he, hw⟩ => ⟨he, hw.symm⟩
  have HS := Lib.hid hsum
  clear hsum hcs hsz hmk
  generalize sA (ns.take k) = x at HS
  generalize sB (ns.take k) = y at HS
  by_cases h0 : at' < 0
  · have hk0 : k = 0 := by omega
    subst hk0
    clear hkk
    go_enter Try.func55, Try.ntmps55
    go_wp2
    go_quiet ((go_at_call 66; exact Calls.quiet_of_same (HS.out _)))
    go_wp2
    go_ret
    exact ⟨rfl, _, rfl⟩
  · obtain ⟨j, rfl⟩ := Int.eq_ofNat_of_zero_le (show 0 ≤ at' by omega)
    rw [Int.toNat_natCast] at hkk
    by_cases h1 : j ≤ ns.length
    · have hkj : k = j := by omega
      subst hkj
      clear hkk
      go_enter Try.func55, Try.ntmps55
      go_wp2
      go_quiet ((go_at_call 66; exact Calls.quiet_of_same (HS.out _)))
      go_wp2
      go_ret
      exact ⟨rfl, _, rfl⟩
    · have hkj : k = ns.length := by omega
      subst hkj
      clear hkk
      go_enter Try.func55, Try.ntmps55
      go_wp2
      go_quiet ((go_at_call 66; exact Calls.quiet_of_same (HS.out _)))
      go_wp2
      go_ret
      exact ⟨rfl, _, rfl⟩
theorem ahead_nil (at' : Int) (w : World) : Calls Try.prog 55 #[.pointer none, .int .i64 at'] w fun e w' => e = .returned (cx (0, 0)) ∧ w = w' := by
  have hz := fl_zero
  go_enter Try.func55, Try.ntmps55
  go_wp2
  go_ret
  exact ⟨by simp [fl_zero], rfl⟩

set_option maxHeartbeats 400000 in
theorem sumRow_any (B p : Nat) (v : Value) (ns : List (Nat × Nat)) (w : World) (h : GRow w B p v ns) :
    Calls Try.prog 48 #[.pointer (some ⟨p, 0, none⟩)] w fun e w' => e = .returned (cx (sA ns, sB ns)) ∧ ∃ n, w' = w.drewN n := by
  have H := Lib.hid h
  clear h
  go_enter Try.func48, Try.ntmps48
  go_wp2_with fail
  refine (len_any B p v ns _ H.out).mono ?_
  rintro e w1 ⟨rfl, rfl⟩
  go_wp2_with fail
  refine (ahead_any B p v ns _ _ H.out).mono ?_
  rintro e w1 ⟨rfl, n, rfl⟩
  rw [Int.toNat_natCast, List.take_length]
  go_wp2
  go_ret
  exact ⟨rfl, n, rfl⟩
theorem sumRow_nil (w : World) : Calls Try.prog 48 #[.pointer none] w fun e w' => e = .returned (cx (0, 0)) ∧ w = w' := by
  go_enter Try.func48, Try.ntmps48
  go_wp2_with fail
  refine (len_nil _).mono ?_
  rintro e w1 ⟨rfl, rfl⟩
  go_wp2_with fail
  refine (ahead_nil _ _).mono ?_
  rintro e w1 ⟨rfl, rfl⟩
  go_wp2
  go_ret
  exact ⟨rfl, rfl⟩

end Go.Proofs.Ytccndbifnbmddaa
