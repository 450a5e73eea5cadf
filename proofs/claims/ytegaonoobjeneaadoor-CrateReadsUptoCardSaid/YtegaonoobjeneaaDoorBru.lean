/-
  The document's reader of texts, plainly and walked.
  Conditions: the text has at most 2^32 bytes.
-/
import Derived.Test.YtegaonoobjeneaaDoorBrt
set_option linter.unusedVariables false
set_option linter.unusedSimpArgs false
namespace Go.Proofs.YtegaonoobjeneaaDoor
open Go.RowKit

theorem sText_num (l : List UInt8) (a : Nat) (most : Int) (hm : most ≤ 9223372036854775807) (ha : a ≤ l.length) :
    ∃ (k : Nat) (u : Int), NumV l a = .tuple #[.int .i64 k, .int .u64 u] ∧ a + k ≤ l.length ∧ 0 ≤ u ∧ u ≤ 18446744073709551615 ∧
      (0 < k ∧ a + k < l.length ∧ (l.getD (a + k) 0).toNat = 58 ∧ 0 ≤ most ∧ u ≤ most ∧ u ≤ (l.length : Int) - a - k - 1 → Bd.sText most (l.drop a, false) = ((l.take (a + k + 1 + u.toNat)).drop (a + k + 1), (l.drop (a + k + 1 + u.toNat), false))) ∧
      (¬(0 < k ∧ a + k < l.length ∧ (l.getD (a + k) 0).toNat = 58 ∧ 0 ≤ most ∧ u ≤ most ∧ u ≤ (l.length : Int) - a - k - 1) → Bd.sText most (l.drop a, false) = ([], (l.drop a, true))) := by
  obtain ⟨k, u, h1, h2, h3, h4, h6⟩ := NumV.get l a ha
  have hr := Bd.rdText_ref most hm (l.drop a)
  have hg : Bd.goodT most (l.drop a) ↔ 0 < k ∧ a + k < l.length ∧ (l.getD (a + k) 0).toNat = 58 ∧ 0 ≤ most ∧ u ≤ most ∧ u ≤ (l.length : Int) - a - k - 1 := by
    unfold Bd.goodT
    rw [h6, head_at l a k 58, List.length_drop]
    simp only
    constructor
    · rintro ⟨g1, ⟨g2, g3⟩, g4, g5⟩
      exact ⟨g1, g2, g3, by omega, by omega, by omega⟩
    · rintro ⟨g1, g2, g3, g4, g5, g6⟩
      exact ⟨g1, ⟨g2, g3⟩, by omega, by omega⟩
  refine ⟨k, u, h1, h2, h3, h4, fun hc => ?_, fun hc => ?_⟩
  · rw [if_pos (hg.2 hc), h6, List.drop_drop, List.drop_drop] at hr
    simp only [Bd.sText, hr, Bool.false_eq_true, if_false]
    have e : (l.take (a + k + 1 + u.toNat)).drop (a + k + 1) = (l.drop (a + k + 1)).take u.toNat := by
      rw [List.drop_take]
      congr 1
      omega
    rw [e, show a + (k + 1) = a + k + 1 by omega, show a + (k + 1 + u.toNat) = a + k + 1 + u.toNat by omega]
  · rw [if_neg (fun x => hc (hg.1 x))] at hr
    simp only [Bd.sText, hr, Bool.false_eq_true, if_false]

def RTV (w : World) (p : Nat) (l : List UInt8) (most : Int) (q : Bd.St) (e : Ending) (w' : World) : Prop := e = .returned (.string ⟨(Bd.sText most q).1.toArray⟩) ∧ RUs w p l (Bd.sText most q).2 w'
theorem reftext_bad (p : Nat) (most : Int) (l s : List UInt8) (w : World) (hl : l.length ≤ 4294967296) (h : RU w p l (s, true)) : Calls Tryd.prog 48 #[.pointer (some ⟨p, 0, none⟩), .int .i64 most] w (RTV w p l most (s, true)) := by
  have H := Lib.hid h
  obtain ⟨k, hk, hr, hq⟩ := h
  obtain ⟨c0, c1, c2⟩ := hr.cells
  clear hr hq
  go_enter Tryd.func48, Tryd.ntmps48
  go_wp2
  go_ret
  exact ⟨rfl, H.out, Keeps.refl _ _⟩
set_option maxRecDepth 20000 in
set_option maxHeartbeats 6400000 in
theorem reftext_ok (p : Nat) (most : Int) (l : List UInt8) (a : Nat) (w : World) (hl : l.length ≤ 4294967296) (hk : a ≤ l.length) (hm : most ≤ 9223372036854775807) (hm0 : -9223372036854775808 ≤ most) (hr : RR w p l a false) :
    Calls Tryd.prog 48 #[.pointer (some ⟨p, 0, none⟩), .int .i64 most] w (RTV w p l most (l.drop a, false)) := by
  obtain ⟨k, u, hN, hak, hu0, hu1, hgood, hbad⟩ := sText_num l a most hm hk
  obtain ⟨c0, c1, c2⟩ := hr.cells
  obtain ⟨f1, f2⟩ := hr.free
  have HR := Lib.hid hr
  clear hr
  have HB : Hid (∀ n, Bd.sText most (l.drop a, false) = ([], (l.drop a, true)) → RTV w p l most (l.drop a, false) (.returned (.string ⟨#[]⟩)) ((w.drewN n).setCell ⟨p, 2, none⟩ (.bool true))) := fun n e => by
    rw [RTV, e]
    exact ⟨rfl, ⟨a, hk, RR.setBad (w := w.drewN n) HR.out true, fun h => by cases h⟩, (Keeps.drewN _ w n).trans (keepsP _ _ _ _)⟩
  have HN : Hid (∀ w, Calls Tryd.prog 63 #[.string ⟨l.toArray⟩, .int .i64 a] w fun e w' => e = .returned (.tuple #[.int .i64 k, .int .u64 u]) ∧ w' = w) := fun w => by
    have := number_any l a (by omega) hl w
    rw [hN] at this
    exact this
  have HG : Hid (∀ n m, Bd.sText most (l.drop a, false) = ((l.take (a + k + 1 + u.toNat)).drop (a + k + 1), (l.drop (a + k + 1 + u.toNat), false)) → a + k + 1 + u.toNat ≤ l.length → ∀ b : Int, b = (a : Int) + k + 1 + u → RTV w p l most (l.drop a, false) (.returned (.string ⟨((l.take (a + k + 1 + u.toNat)).drop (a + k + 1)).toArray⟩)) (((w.drewN n).setCell ⟨p, 1, none⟩ (.int .i64 b)).drewN m)) := fun n m e hle b hb => by
    rw [RTV, e, hb]
    refine ⟨rfl, ⟨a + k + 1 + u.toNat, hle, ?_, fun h => rfl⟩, ((Keeps.drewN _ w n).trans (keepsP _ _ _ _)).trans (Keeps.drewN _ _ m)⟩
    have := RR.setAt (w := w.drewN n) HR.out ((a : Int) + k + 1 + u)
    rw [show ((a + k + 1 + u.toNat : Nat) : Int) = (a : Int) + k + 1 + u by omega]
    exact this
  clear hN
  by_cases h3 : a + k < l.length
  · have hix3 := str_at (P := Tryd.prog) l (a + k) ((a : Int) + k) (by omega) h3 9 Tryd.underlying9
    have hc256 := UInt8.toNat_lt (l.getD (a + k) 0)
    generalize (l.getD (a + k) 0).toNat = x at *
    by_cases hg : 0 < k ∧ a + k < l.length ∧ x = 58 ∧ 0 ≤ most ∧ u ≤ most ∧ u ≤ (l.length : Int) - a - k - 1
    · have HE := Lib.hid (hgood hg)
      obtain ⟨g1, g2, rfl, g3, g4, g5⟩ := hg
      have hcut := str_cut (P := Tryd.prog) l (a + k + 1) (a + k + 1 + u.toNat) ((a : Int) + k + 1) ((a : Int) + k + 1 + u) .i64 .i64 (by omega) (by omega) (by omega) (by omega) 9 Tryd.underlying9
      clear hgood hbad
      generalize (l.take (a + k + 1 + u.toNat)).drop (a + k + 1) = t at *
      go_enter Tryd.func48, Tryd.ntmps48
      go_wp2_with fail
      go_quiet ((go_at_call 63; exact Calls.quiet_of_same (HN.out _)))
      go_wp2_with fail
      go_quiet (fail)
      go_wp2
      go_ret
      exact HG.out _ _ HE.out (by omega) _ (by omega)
    · have HE := Lib.hid (hbad hg)
      clear hgood hbad
      go_enter Tryd.func48, Tryd.ntmps48
      go_wp2_with fail
      go_quiet ((go_at_call 63; exact Calls.quiet_of_same (HN.out _)))
      go_wp2
      all_goals first
        | (exfalso; omega)
        | (go_ret; exact HB.out _ HE.out)
        | (exfalso; simp only [beq_iff_eq] at *; omega)
  · have HE := Lib.hid (hbad (fun hg => h3 hg.2.1))
    clear hgood hbad
    go_enter Tryd.func48, Tryd.ntmps48
    go_wp2_with fail
    go_quiet ((go_at_call 63; exact Calls.quiet_of_same (HN.out _)))
    go_wp2
    all_goals first
      | (exfalso; omega)
      | (go_ret; exact HB.out _ HE.out)
theorem reftext_any (p : Nat) (most : Int) (hm0 : -9223372036854775808 ≤ most) (hm : most ≤ 9223372036854775807) (l : List UInt8) (q : Bd.St) (w : World) (hl : l.length ≤ 4294967296) (h : RU w p l q) : Calls Tryd.prog 48 #[.pointer (some ⟨p, 0, none⟩), .int .i64 most] w (RTV w p l most q) := by
  obtain ⟨s, b⟩ := q
  cases b with
  | true => exact reftext_bad p most l s w hl h
  | false =>
    obtain ⟨a, ha, hr, hq⟩ := h
    obtain rfl := hq rfl
    exact reftext_ok p most l a w hl ha hm hm0 hr

end Go.Proofs.YtegaonoobjeneaaDoor
