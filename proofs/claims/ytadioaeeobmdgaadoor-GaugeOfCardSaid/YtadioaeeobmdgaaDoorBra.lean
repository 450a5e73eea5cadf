/-
  The document's writers of numbers and texts, walked.
  Conditions: none.
-/
import Derived.Test.YtadioaeeobmdgaaDoorBwe
import Derived.Deep.QuietTactic
import Derived.BigQuiet
set_option linter.unusedVariables false
set_option linter.unusedSimpArgs false
namespace Go.Proofs.YtadioaeeobmdgaaDoor
open Go.RowKit

theorem ten_at : ∀ u : Fin 10, ((([48, 49, 50, 51, 52, 53, 54, 55, 56, 57] : List UInt8).take (u.1 + 1)).drop u.1) = [UInt8.ofNat (48 + u.1)] := by decide
theorem ten_cut (u : Nat) (h : u < 10) (i j : Int) (hi : i = u) (hj : j = (u + 1 : Nat)) (w : World) :
    (Instr.slice 9 (.string ⟨([48, 49, 50, 51, 52, 53, 54, 55, 56, 57] : List UInt8).toArray⟩) (some (.int .u64 i)) (some (.int .u64 j)) none).run Tryd.prog w = .ok (.string ⟨[UInt8.ofNat (48 + u)].toArray⟩) w := by
  have h1 := str_cut (P := Tryd.prog) [48, 49, 50, 51, 52, 53, 54, 55, 56, 57] u (u + 1) i j .u64 .u64 hi hj (by omega) (by simp; omega) 9 Tryd.underlying9 w
  have h2 := ten_at ⟨u, h⟩
  simp only at h2
  rw [h2] at h1
  exact h1
def Digs (u : Nat) (w : World) (e : Ending) (w' : World) : Prop := e = .returned (.string ⟨(Lib.decDigits u).toArray⟩) ∧ ∃ n, w' = w.drewN n
theorem dec_len {u : Nat} (h : u < 18446744073709551616) : (Lib.decDigits u).length ≤ 20 := by
  have h1 := Lib.itoa_nonneg
  rw [Lib.decDigits_length]
  have key : ∀ (k u : Nat), u < 10 ^ (k + 1) → Lib.nDigits u ≤ k + 1 := by
    intro k
    induction k with
    | zero => intro u h; rw [Lib.nDigits_small (by simpa using h)]; exact Nat.le_refl _
    | succ k ih =>
      intro u h
      by_cases h10 : u < 10
      · rw [Lib.nDigits_small h10]; omega
      · rw [Lib.nDigits_big h10]
        have := ih (u / 10) (by rw [Nat.pow_succ] at h; omega)
        omega
  exact key 19 u (by have : (10 : Nat) ^ (19 + 1) = 100000000000000000000 := by decide
                     omega)
set_option maxRecDepth 20000 in
set_option maxHeartbeats 800000 in
theorem refdigits_int (k : Nat) : ∀ (a : Int) (w : World), 0 ≤ a → a ≤ k → a ≤ 18446744073709551615 → Calls Tryd.prog 34 #[.int .u64 a] w (Digs a.toNat w) := by
  induction k with
  | zero =>
    intro a w h0 hk hu
    obtain rfl : a = 0 := by omega
    have hsl := ten_cut 0 (by decide) 0 1 rfl rfl
    have HE : Hid (Lib.decDigits (0 : Int).toNat = [UInt8.ofNat (48 + 0)]) := Bd.dec_small (by decide)
    generalize [UInt8.ofNat (48 + 0)] = t at hsl HE
    clear hu hk h0
    go_enter Tryd.func34, Tryd.ntmps34
    go_wp2_with fail
    go_ret
    exact ⟨by rw [HE.out]; rfl, 0, rfl⟩
  | succ k ih =>
    intro a w h0 hk hu
    by_cases h10 : a < 10
    · have hsl := ten_cut a.toNat (by omega) a (a + 1) (by omega) (by omega)
      have HE : Hid (Lib.decDigits a.toNat = [UInt8.ofNat (48 + a.toNat)]) := Bd.dec_small (by omega)
      generalize [UInt8.ofNat (48 + a.toNat)] = t at hsl HE
      clear hu hk ih
      go_enter Tryd.func34, Tryd.ntmps34
      go_wp2_with fail
      go_ret
      exact ⟨by rw [HE.out]; rfl, 0, rfl⟩
    · have hm10 : a.toNat % 10 < 10 := Nat.mod_lt _ (by decide)
      have hsl := ten_cut (a.toNat % 10) hm10 (a % 10) (a % 10 + 1) (by omega) (by omega)
      have HE : Hid (Lib.decDigits a.toNat = Lib.decDigits (a.toNat / 10) ++ [UInt8.ofNat (48 + a.toNat % 10)]) := Bd.dec_big (by omega)
      have HI : Hid (∀ w, Calls Tryd.prog 34 #[.int .u64 (a / 10)] w fun e w' => e = .returned (.string ⟨(Lib.decDigits (a.toNat / 10)).toArray⟩) ∧ ∃ n, w' = w.drewN n) := fun w => by
        have := ih (a / 10) w (by omega) (by omega) (by omega)
        rw [show (a / 10).toNat = a.toNat / 10 by omega] at this
        exact this
      have hl := dec_len (u := a.toNat / 10) (by omega)
      have hbig : (10 : Int) ≤ a := by omega
      have hg : ([UInt8.ofNat (48 + a.toNat % 10)] : List UInt8).length = 1 := rfl
      have hm0 : 0 ≤ a % 10 := by omega
      have hm1 : a % 10 ≤ 9 := by omega
      clear hk ih h10 hm10
      generalize [UInt8.ofNat (48 + a.toNat % 10)] = t2 at hsl HE hg
      generalize Lib.decDigits (a.toNat / 10) = t at HE hl HI
      go_enter Tryd.func34, Tryd.ntmps34
      go_wp2_with fail
      go_quiet ((go_at_call 34; exact Calls.quiet_of (HI.out _)))
      go_wp2_with fail
      go_ret
      exact ⟨by rw [HE.out]; rfl, nq, rfl⟩

theorem refdigits_any (a : Int) (h0 : 0 ≤ a) (h1 : a ≤ 18446744073709551615) (w : World) : Calls Tryd.prog 34 #[.int .u64 a] w fun e w' => e = .returned (.string ⟨(Lib.decDigits a.toNat).toArray⟩) ∧ ∃ n, w' = w.drewN n :=
  refdigits_int a.toNat a w h0 (by omega) h1
set_option maxRecDepth 20000 in
set_option maxHeartbeats 800000 in
theorem refInt_any (n : Int) (hn : Bd.inR n) (w : World) : Calls Tryd.prog 25 #[.int .i64 n] w fun e w' => e = .returned (.string ⟨(Bd.bInt n).toArray⟩) ∧ ∃ m, w' = w.drewN m := by
  obtain ⟨hn0, hn1⟩ := hn
  by_cases h0 : n < 0
  · have HE : Hid (Bd.bInt n = [105, 45] ++ Lib.decDigits n.natAbs ++ [101]) := by simp [Hid, Bd.bInt, Lib.itoa, h0]
    have HI : Hid (∀ w, Calls Tryd.prog 34 #[.int .u64 (-(n + 1) + 1)] w fun e w' => e = .returned (.string ⟨(Lib.decDigits n.natAbs).toArray⟩) ∧ ∃ m, w' = w.drewN m) := fun w => by
      have := refdigits_any (-(n + 1) + 1) (by omega) (by omega) w
      rwa [show (-(n + 1) + 1).toNat = n.natAbs by omega] at this
    have hl := dec_len (u := n.natAbs) (by omega)
    generalize Lib.decDigits n.natAbs = t at HE hl HI
    go_enter Tryd.func25, Tryd.ntmps25
    go_wp2_with fail
    refine (HI.out _).mono ?_
    rintro e w1 ⟨rfl, m, rfl⟩
    go_wp2
    go_ret
    exact ⟨by rw [HE.out]; simp [bs_append], m, rfl⟩
  · have HE : Hid (Bd.bInt n = [105] ++ Lib.decDigits n.toNat ++ [101]) := by simp [Hid, Bd.bInt, Lib.itoa, h0]
    have HI : Hid (∀ w, Calls Tryd.prog 34 #[.int .u64 n] w fun e w' => e = .returned (.string ⟨(Lib.decDigits n.toNat).toArray⟩) ∧ ∃ m, w' = w.drewN m) := fun w => refdigits_any n (by omega) (by omega) w
    have hl := dec_len (u := n.toNat) (by omega)
    have hge : 0 ≤ n := by omega
    generalize Lib.decDigits n.toNat = t at HE hl HI
    go_enter Tryd.func25, Tryd.ntmps25
    go_wp2_with fail
    refine (HI.out _).mono ?_
    rintro e w1 ⟨rfl, m, rfl⟩
    go_wp2
    go_ret
    exact ⟨by rw [HE.out]; simp [bs_append], m, rfl⟩
set_option maxRecDepth 20000 in
set_option maxHeartbeats 800000 in
theorem refText_any (s : List UInt8) (hs : s.length ≤ 140737488355328) (w : World) : Calls Tryd.prog 26 #[.string ⟨s.toArray⟩] w fun e w' => e = .returned (.string ⟨(Bd.bText s).toArray⟩) ∧ ∃ m, w' = w.drewN m := by
  have HE : Hid (Bd.bText s = Lib.decDigits s.length ++ [58] ++ s) := by simp [Hid, Bd.bText, Lib.itoa_nonneg]
  have HI : Hid (∀ w, Calls Tryd.prog 34 #[.int .u64 (s.length : Int)] w fun e w' => e = .returned (.string ⟨(Lib.decDigits s.length).toArray⟩) ∧ ∃ m, w' = w.drewN m) := fun w => by
    have := refdigits_any (s.length : Int) (by omega) (by omega) w
    rwa [Int.toNat_natCast] at this
  have hl := dec_len (u := s.length) (by omega)
  generalize Lib.decDigits s.length = t at HE hl HI
  go_enter Tryd.func26, Tryd.ntmps26
  go_wp2_with fail
  refine (HI.out _).mono ?_
  rintro e w1 ⟨rfl, m, rfl⟩
  go_wp2
  go_ret
  exact ⟨by rw [HE.out]; simp [bs_append], m, rfl⟩

end Go.Proofs.YtadioaeeobmdgaaDoor
