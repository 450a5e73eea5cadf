/-
  The document's reader of numbers, plainly. No program in sight.
  Conditions: none.
-/
import Derived.Test.YtegaonoobjeneaaDoorBd
set_option linter.unusedVariables false
set_option linter.unusedSimpArgs false
namespace Go.Proofs.YtegaonoobjeneaaDoor.Bd
open Go.Lib

def digs (l : List UInt8) : List UInt8 := l.takeWhile isDig
/-- How many digits there are, and what they say; 0: none, or not as they are written. -/
def numP (l : List UInt8) : Nat × Nat :=
  if digs l ≠ [] ∧ (1 < (digs l).length → (digs l).head? ≠ some 48) ∧ val 0 (digs l) < 18446744073709551616 then ((digs l).length, val 0 (digs l)) else (0, 0)
theorem digs_all (l : List UInt8) : ∀ c ∈ digs l, isDig c = true := by
  induction l with
  | nil => intro c hc; cases hc
  | cons x r ih =>
    intro c hc
    unfold digs at hc ih
    rw [List.takeWhile_cons] at hc
    split at hc
    · rcases List.mem_cons.1 hc with rfl | hc
      · assumption
      · exact ih c hc
    · cases hc
theorem digs_append {a r : List UInt8} (ha : ∀ c ∈ a, isDig c = true) (hr : ∀ c, r.head? = some c → isDig c = false) : digs (a ++ r) = a := by
  induction a with
  | nil =>
    unfold digs
    cases r with
    | nil => rfl
    | cons x r =>
      have := hr x rfl
      simp [List.takeWhile_cons, this]
  | cons x a ih =>
    unfold digs at ih ⊢
    rw [List.cons_append, List.takeWhile_cons, if_pos (ha x (by simp)), ih (fun c hc => ha c (by simp [hc]))]
theorem digs_split (l : List UInt8) : l = digs l ++ l.drop (digs l).length := by
  induction l with
  | nil => rfl
  | cons x r ih =>
    unfold digs at ih ⊢
    rw [List.takeWhile_cons]
    split
    · simpa using ih
    · rfl
theorem digs_next (l : List UInt8) : ∀ c, (l.drop (digs l).length).head? = some c → isDig c = false := by
  induction l with
  | nil => intro c h; cases h
  | cons x r ih =>
    unfold digs at ih ⊢
    rw [List.takeWhile_cons]
    split
    · simpa using ih
    · intro c h
      simp at h
      subst h
      simp_all
theorem dec_head (u : Nat) : 1 < (decDigits u).length → (decDigits u).head? ≠ some 48 := by
  induction u using Nat.strongRecOn with
  | _ u ih =>
    intro hl
    by_cases h : u < 10
    · rw [dec_small h] at hl; simp at hl
    · rw [dec_big h]
      by_cases h2 : u / 10 < 10
      · rw [dec_small h2]
        simp only [List.cons_append, List.head?_cons, ne_eq, Option.some.injEq]
        intro e
        have := congrArg UInt8.toNat e
        rw [dg_toNat h2] at this
        have h48 : (48 : UInt8).toNat = 48 := rfl
        omega
      · have hl2 : 1 < (decDigits (u / 10)).length := by
          rw [decDigits_length, nDigits_big h2]
          have := nDigits_pos (u / 10 / 10)
          omega
        have := ih (u / 10) (by omega) hl2
        cases hd : decDigits (u / 10) with
        | nil => exact absurd hd (dec_ne _)
        | cons x r => rw [hd] at this; simpa using this
theorem numP_dec {u : Nat} {r : List UInt8} (hu : u < 18446744073709551616) (hr : ∀ c, r.head? = some c → isDig c = false) : numP (decDigits u ++ r) = ((decDigits u).length, u) := by
  have hd := digs_append (dec_dig u) hr
  unfold numP
  rw [hd, dec_val, if_pos ⟨dec_ne u, dec_head u, hu⟩]
theorem numP_some {l : List UInt8} (h : 0 < (numP l).1) : l = decDigits (numP l).2 ++ l.drop (numP l).1 ∧ (decDigits (numP l).2).length = (numP l).1 ∧ (numP l).2 < 18446744073709551616 ∧
    (∀ c, (l.drop (numP l).1).head? = some c → isDig c = false) := by
  unfold numP at h ⊢
  by_cases hc : digs l ≠ [] ∧ (1 < (digs l).length → (digs l).head? ≠ some 48) ∧ val 0 (digs l) < 18446744073709551616
  · rw [if_pos hc]
    obtain ⟨h1, h2, h3⟩ := hc
    have hcan := dec_canon _ (digs l) rfl h1 (digs_all l) h2
    simp only
    rw [hcan]
    exact ⟨digs_split l, rfl, h3, digs_next l⟩
  · rw [if_neg hc] at h
    exact absurd h (by simp)
/-- A numeral that fits has at most twenty digits. -/
theorem nDigits_le {u : Nat} (h : u < 18446744073709551616) : nDigits u ≤ 20 := by
  rcases Nat.lt_or_ge (nDigits u) 21 with h2 | h2
  · omega
  · exfalso
    have key : ∀ (k u : Nat), k + 1 ≤ nDigits u → 10 ^ k ≤ u ∨ k = 0 := by
      intro k
      induction k with
      | zero => intro u _; exact .inr rfl
      | succ k ih =>
        intro u hk
        by_cases h10 : u < 10
        · rw [nDigits_small h10] at hk; omega
        · rw [nDigits_big h10] at hk
          rcases ih (u / 10) (by omega) with h3 | h3
          · left; rw [Nat.pow_succ]; omega
          · subst h3; left; omega
    rcases key 20 u (by omega) with h3 | h3
    · have : (10 : Nat) ^ 20 = 100000000000000000000 := by decide
      omega
    · omega

end Go.Proofs.YtegaonoobjeneaaDoor.Bd
