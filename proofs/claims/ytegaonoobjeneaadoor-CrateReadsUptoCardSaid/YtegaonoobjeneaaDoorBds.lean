/-
  The document's 'number', plainly: what its loop holds, and what it answers. No program in sight.
  Conditions: none.
-/
import Derived.Test.YtegaonoobjeneaaDoorBdr
set_option linter.unusedVariables false
set_option linter.unusedSimpArgs false
namespace Go.Proofs.YtegaonoobjeneaaDoor.Bd
open Go.Lib

theorem digs_app {a : List UInt8} (r : List UInt8) (ha : ∀ c ∈ a, isDig c = true) : digs (a ++ r) = a ++ digs r := by
  induction a with
  | nil => rfl
  | cons x a ih =>
    unfold digs at ih ⊢
    rw [List.cons_append, List.takeWhile_cons, if_pos (ha x (by simp)), ih (fun c hc => ha c (by simp [hc]))]
    rfl
/-- So many digits, and what they say. -/
structure Pre (l : List UInt8) (k : Nat) (u : Int) : Prop where
  dig : ∀ c ∈ l.take k, isDig c = true
  le : k ≤ l.length
  eq : u = (val 0 (l.take k) : Nat)
theorem Pre.zero (l : List UInt8) : Pre l 0 0 := ⟨by simp, Nat.zero_le _, by simp [val]⟩
theorem Pre.digs {l : List UInt8} {k : Nat} {u : Int} (h : Pre l k u) : digs l = l.take k ++ Bd.digs (l.drop k) := by
  conv => lhs; rw [← List.take_append_drop k l]
  exact digs_app _ h.dig
theorem Pre.ge {l : List UInt8} {k : Nat} {u : Int} (h : Pre l k u) : u ≤ (val 0 (Bd.digs l) : Nat) := by
  rw [h.digs, val_append, h.eq]
  exact Int.ofNat_le.2 (val_ge _ _)
theorem take_succ_getD (l : List UInt8) (k : Nat) (h : k < l.length) : l.take (k + 1) = l.take k ++ [l.getD k 0] := by
  rw [List.take_succ_eq_append_getElem h]
  simp [List.getD, h]
theorem Pre.succ {l : List UInt8} {k : Nat} {u : Int} (h : Pre l k u) (hk : k < l.length) (hd : isDig (l.getD k 0) = true) : Pre l (k + 1) (10 * u + ((l.getD k 0).toNat - 48)) := by
  refine ⟨fun c hc => ?_, hk, ?_⟩
  · rw [take_succ_getD l k hk, List.mem_append] at hc
    rcases hc with hc | hc
    · exact h.dig c hc
    · simp only [List.mem_singleton] at hc
      rw [hc]; exact hd
  · rw [take_succ_getD l k hk, val_append, h.eq]
    have e : val (val 0 (l.take k)) [l.getD k 0] = val 0 (l.take k) * 10 + dv (l.getD k 0) := rfl
    have := dv_eq hd
    rw [e]
    omega
theorem Pre.over {l : List UInt8} {k : Nat} {u : Int} (h : Pre l k u) (hu : 18446744073709551616 ≤ u) : numP l = (0, 0) := by
  have := h.ge
  unfold numP
  rw [if_neg]
  rintro ⟨_, _, h3⟩
  omega
theorem val_pow (l : List UInt8) : ∀ acc, acc * 10 ^ l.length ≤ val acc l := by
  induction l with
  | nil => intro acc; simp [val]
  | cons c r ih =>
    intro acc
    have e : val acc (c :: r) = val (acc * 10 + dv c) r := rfl
    have h1 := ih (acc * 10 + dv c)
    rw [e, List.length_cons, Nat.pow_succ]
    refine Nat.le_trans ?_ h1
    rw [Nat.mul_comm (10 ^ r.length) 10, ← Nat.mul_assoc]
    exact Nat.mul_le_mul_right _ (by omega)
theorem Pre.twenty {l : List UInt8} {k : Nat} {u : Int} (h : Pre l k u) (hk : 20 < k) : numP l = (0, 0) := by
  unfold numP
  rw [if_neg]
  rintro ⟨h1, h2, h3⟩
  have hl : k ≤ (Bd.digs l).length := by
    rw [h.digs, List.length_append, List.length_take]
    have := h.le
    omega
  have h2' := h2 (by omega)
  cases hd : Bd.digs l with
  | nil => exact h1 hd
  | cons c r =>
    rw [hd] at h2' h3 hl
    have hdg : isDig c = true := digs_all l c (by rw [hd]; simp)
    have hc := dv_eq hdg
    have h48 : c.toNat ≠ 48 := fun e => h2' (by
      simp only [List.head?_cons, Option.some.injEq]
      exact UInt8.toNat_inj.1 e)
    have e : val 0 (c :: r) = val (0 * 10 + dv c) r := rfl
    have hp := val_pow r (0 * 10 + dv c)
    rw [e] at h3
    have hr : 20 ≤ r.length := by simp at hl; omega
    have hpw : 10 ^ 20 ≤ 10 ^ r.length := Nat.pow_le_pow_right (by omega) hr
    have h20 : (10 : Nat) ^ 20 = 100000000000000000000 := by decide
    have h1' : 1 * 10 ^ r.length ≤ (0 * 10 + dv c) * 10 ^ r.length := Nat.mul_le_mul_right _ (by omega)
    omega
/-- No digit stands there. -/
def Stops (l : List UInt8) (k : Nat) : Prop := k = l.length ∨ isDig (l.getD k 0) = false
theorem Stops.digs {l : List UInt8} {k : Nat} (hk : k ≤ l.length) (h : Stops l k) : Bd.digs (l.drop k) = [] := by
  rcases h with rfl | h
  · rw [List.drop_length]; rfl
  · by_cases e : k = l.length
    · subst e; rw [List.drop_length]; rfl
    · have hlt : k < l.length := by omega
      rw [List.drop_eq_getElem_cons hlt]
      have : l.getD k 0 = l[k] := by simp [List.getD, hlt]
      rw [this] at h
      unfold Bd.digs
      rw [List.takeWhile_cons, if_neg (by simp [h])]
theorem Pre.stop {l : List UInt8} {k : Nat} {u : Int} (h : Pre l k u) (hs : Stops l k) (hu : u < 18446744073709551616) : numP l = if 1 < k ∧ l.getD 0 0 = 48 then (0, 0) else (k, u.toNat) := by
  have hd : Bd.digs l = l.take k := by rw [h.digs, hs.digs h.le, List.append_nil]
  have hlen : (l.take k).length = k := by rw [List.length_take]; exact Nat.min_eq_left h.le
  unfold numP
  rw [hd, hlen]
  have heq := h.eq
  by_cases h0 : k = 0
  · subst h0
    have : u = 0 := by simpa [val] using heq
    subst this
    simp
  · have hne : l.take k ≠ [] := fun e => by rw [e] at hlen; simp at hlen; omega
    have hhd : (l.take k).head? = some (l.getD 0 0) := by
      cases l with
      | nil => simp at hne
      | cons c r => cases k with
        | zero => exact absurd rfl h0
        | succ k => rfl
    have hv : val 0 (l.take k) < 18446744073709551616 := by omega
    by_cases hc : 1 < k ∧ l.getD 0 0 = 48
    · rw [if_neg, if_pos hc]
      rintro ⟨_, h2, _⟩
      exact h2 hc.1 (by rw [hhd, hc.2])
    · rw [if_pos ⟨hne, fun h1 e => hc ⟨h1, by rw [hhd] at e; exact Option.some.inj e⟩, hv⟩, if_neg hc]
      rw [heq]
      simp

end Go.Proofs.YtegaonoobjeneaaDoor.Bd
