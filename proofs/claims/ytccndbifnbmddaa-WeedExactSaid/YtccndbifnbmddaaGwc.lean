/-
  Walks of the row's methods Over, New, Push, Set, Shift.
  Conditions: the row holds sizes, at most 4096 of them.
-/
import Derived.Test.YtccndbifnbmddaaGwb
set_option linter.unusedVariables false
set_option linter.unusedSimpArgs false
namespace Go.Proofs.Ytccndbifnbmddaa
open Go.RowKit Fl

/-- How many of the first ones must go. -/
def ov : List (Nat × Nat) → Int → Nat
  | [], _ => 0
  | [_], _ => 0
  | x :: y :: r, m => if m < ((sB (x :: y :: r) : Nat) : Int) then 1 + ov (y :: r) m else 0
theorem ov_last {ns : List (Nat × Nat)} {k : Nat} {m : Int} (h : ns.length ≤ k + 1) : ov (ns.drop k) m = 0 := by
  have hl : (ns.drop k).length ≤ 1 := by simp; omega
  match hd : ns.drop k, hl with
  | [], _ => rfl
  | [_], _ => rfl
theorem drop_two {ns : List (Nat × Nat)} {k : Nat} (h : k + 1 < ns.length) : ns.drop k = ns.getD k (0, 0) :: ns.drop (k + 1) := by
  rw [List.drop_eq_getElem_cons (by omega)]; simp [List.getD, show k < ns.length by omega]
theorem ov_step {ns : List (Nat × Nat)} {k : Nat} {m : Int} (h : k + 1 < ns.length) (hm : m < ((sB (ns.drop k) : Nat) : Int)) : ov (ns.drop k) m = 1 + ov (ns.drop (k + 1)) m := by
  have e2 : ns.drop (k + 1) = ns[k + 1] :: ns.drop (k + 1 + 1) := List.drop_eq_getElem_cons h
  have e1 := drop_two h
  rw [e1, e2] at hm ⊢
  rw [ov, if_pos hm]
theorem ov_stop {ns : List (Nat × Nat)} {k : Nat} {m : Int} (h : k + 1 < ns.length) (hm : ¬ m < ((sB (ns.drop k) : Nat) : Int)) : ov (ns.drop k) m = 0 := by
  have e2 : ns.drop (k + 1) = ns[k + 1] :: ns.drop (k + 1 + 1) := List.drop_eq_getElem_cons h
  have e1 := drop_two h
  rw [e1, e2] at hm ⊢
  rw [ov, if_neg hm]
theorem sums_drop {ns : List (Nat × Nat)} {k : Nat} (h : k + 1 < ns.length) : sA (ns.drop k) = (ns.getD k (0, 0)).1 + sA (ns.drop (k + 1)) ∧ sB (ns.drop k) = (ns.getD k (0, 0)).2 + sB (ns.drop (k + 1)) := by
  rw [drop_two h]; simp [sA, sB]

set_option maxHeartbeats 400000 in
theorem over_any (B p : Nat) (v : Value) (ns : List (Nat × Nat)) (m : Int) (w : World) (h : GRow w B p v ns) :
    Calls Try.prog 38 #[.pointer (some ⟨p, 0, none⟩), .int .i64 m] w fun e w' => e = .returned (.int .i64 (ov ns m)) ∧ ∃ n, w' = w.drewN n := by
  have H := Lib.hid h
  clear h
  go_enter Try.func38, Try.ntmps38
  go_wp2_with fail
  refine (sumRow_any B p v ns _ H.out).mono ?_
  rintro e w1 ⟨rfl, d, rfl⟩
  have H2 := Lib.hid (GRow.kept (S := fun _ => False) H.out (Keeps.drewN _ w d) id (fun _ _ => id))
  have hl := H.out.2.2.2.2.2
  have HZ := Lib.hid H.out.2.2.2.2.1
  have hcell := H2.out.cell
  obtain ⟨a, cap, rfl, hle, hform⟩ := H2.out.2.2.1.form
  have HC := Lib.hid H2.out.2.2.1.cells
  go_wp2
  go_loop [5, 6] (fun i l => ∃ k : Nat, i = .int .i64 k ∧ k ≤ ns.length ∧ l = .complex .f64 (fl (sA (ns.drop k))) (fl (sB (ns.drop k))) ∧ Hid (ov ns m = k + ov (ns.drop k) m)) (fun i _ => ns.length - (intOf i).toNat)
  case atStart => exact ⟨0, rfl, by omega, rfl, by simp [Hid]⟩
  case round =>
    obtain ⟨k, rfl, hk, rfl, hov⟩ := hrel
    by_cases hlt : k + 1 < ns.length
    · have hb := sums_lt (ns := ns.drop k) (HZ.out.drop k) (by rw [List.length_drop]; omega)
      have hcv := conv_int (toInt_fl hb.2) (by
        have h1 := sums_le (HZ.out.drop k)
        have h2 : (ns.drop k).length * most ≤ 4096 * most := Nat.mul_le_mul_right _ (by rw [List.length_drop]; omega)
        rw [most_eq] at h1 h2
        omega)
      have hlt' : (k : Int) < (ns.length : Int) - 1 := by omega
      by_cases hm : m < ((sB (ns.drop k) : Nat) : Int)
      · have hs := ov_step hlt hm
        obtain ⟨d1, d2⟩ := sums_drop hlt
        obtain ⟨g, off, rfl, hcc⟩ := HC.out k (by omega)
        rw [d1, d2] at hb
        have hsub := sub_cx 72 ((ns.getD k (0, 0)).1 + sA (ns.drop (k + 1))) ((ns.getD k (0, 0)).2 + sB (ns.drop (k + 1))) (ns.getD k (0, 0)).1 (ns.getD k (0, 0)).2 hb.1 hb.2 (by omega) (by omega)
        rw [Nat.add_sub_cancel_left, Nat.add_sub_cancel_left] at hsub
        rw [d2] at hcv hm
        rw [d1, d2]
        have HS := Lib.hid hs
        clear hs d1 d2 hb
        generalize ns.getD k (0, 0) = q at hcc hsub hcv hm
        generalize hx : sA (ns.drop (k + 1)) = x at hsub
        generalize hy : sB (ns.drop (k + 1)) = y at hsub hcv hm
        have HX := Lib.hid hx
        have HY := Lib.hid hy
        clear hx hy
        obtain ⟨qa, qb⟩ := q
        have hm' : m < ((qb : Int) + (y : Int)) := by simpa using hm
        clear hm
        have hmx : (((qb + y : Nat)) : Int) = (qb : Int) + (y : Int) := by omega
        go_wp2_with fail
        refine (len_any B p _ ns _ H2.out).mono ?_
        rintro e w1 ⟨rfl, rfl⟩
        go_wp2
        go_round
        case rel => exact ⟨k + 1, by go_num, by omega, by rw [HX.out, HY.out], by rw [Hid, hov.out, HS.out]; omega⟩
        case measure => simp [intOf]; omega
      · have hs := ov_stop hlt hm
        have HS := Lib.hid hs
        clear hs
        generalize sA (ns.drop k) = x at hb
        generalize sB (ns.drop k) = y at hb hcv hm
        have hm' : (y : Int) ≤ m := by omega
        clear hm
        go_wp2_with fail
        refine (len_any B p _ ns _ H2.out).mono ?_
        rintro e w1 ⟨rfl, rfl⟩
        go_wp2
        go_ret
        exact ⟨by rw [hov.out, HS.out]; rfl, d, rfl⟩
    · have hs := ov_last (m := m) (show ns.length ≤ k + 1 by omega)
      have HS := Lib.hid hs
      clear hs
      have hlt' : (ns.length : Int) - 1 ≤ (k : Int) := by omega
      go_wp2_with fail
      refine (len_any B p _ ns _ H2.out).mono ?_
      rintro e w1 ⟨rfl, rfl⟩
      go_wp2
      go_ret
      exact ⟨by rw [hov.out, HS.out]; rfl, d, rfl⟩

theorem new_any (w : World) : Calls Try.prog 36 #[] w fun e w' => e = .returned (.pointer (some ⟨w.heap.size, 0, none⟩)) ∧ w.alloc (.cells #[.slice none 0 0] 89) = w' := by
  go_enter Try.func36, Try.ntmps36
  go_wp2
  go_ret
  exact ⟨rfl, rfl⟩
theorem GRow.new (w : World) (B : Nat) (hB : B ≤ w.heap.size) : GRow (w.alloc (.cells #[.slice none 0 0] 89)) B w.heap.size (.slice none 0 0) [] :=
  ⟨heap_alloc_new w _, hB, Sl.nil _ _ _, by simp [Value.ownBlock], fun q hq => by simp at hq, by simp⟩

end Go.Proofs.Ytccndbifnbmddaa
