/-
  The document's reader against the program's, plainly. No program in sight.
  Conditions: none.
-/
import Derived.Test.YtegaonoobjeneaaDoorBds
set_option linter.unusedVariables false
set_option linter.unusedSimpArgs false
namespace Go.Proofs.YtegaonoobjeneaaDoor.Bd
open Go.Lib

theorem numP_le (m : List UInt8) : (numP m).1 ≤ m.length ∧ (numP m).2 < 18446744073709551616 := by
  unfold numP
  split
  · rename_i h
    refine ⟨?_, h.2.2⟩
    have := congrArg List.length (digs_split m)
    rw [List.length_append] at this
    omega
  · exact ⟨Nat.zero_le _, by simp⟩
def sg (neg : Bool) : List UInt8 := if neg then [45] else []
def sv (neg : Bool) (u : Nat) : Int := if neg then -(u : Int) else u
/-- Within what a number of 64 bits says. -/
def fits (neg : Bool) (u : Nat) : Prop := if neg then 0 < u ∧ u ≤ 9223372036854775808 else u < 9223372036854775808
theorem bInt_sv (neg : Bool) (u : Nat) (h : fits neg u) : bInt (sv neg u) = 105 :: (sg neg ++ (decDigits u ++ [101])) ∧ inR (sv neg u) := by
  cases neg with
  | true =>
    have hu : 0 < u ∧ u ≤ 9223372036854775808 := by simpa [fits] using h
    have e : sv true u = -(u : Int) := by simp [sv]
    refine ⟨?_, by rw [e]; unfold inR; omega⟩
    rw [e, bInt, itoa_neg u hu.1]
    simp [sg]
  | false =>
    simp only [fits] at h
    have h' : u < 9223372036854775808 := by simpa using h
    refine ⟨?_, by simp only [sv, inR]; simp; omega⟩
    simp only [sv, Bool.false_eq_true, if_false]
    rw [bInt, itoa_nonneg]
    simp [sg]
theorem sv_of (n : Int) (h : inR n) : ∃ neg u, n = sv neg u ∧ fits neg u := by
  obtain ⟨h1, h2⟩ := h
  by_cases hn : n < 0
  · exact ⟨true, (-n).toNat, by simp [sv]; omega, by simp only [fits, if_true]; omega⟩
  · exact ⟨false, n.toNat, by simp [sv]; omega, by simp [fits]; omega⟩
def goodI (neg : Bool) (t : List UInt8) : Prop := 0 < (numP t).1 ∧ (t.drop (numP t).1).head? = some 101 ∧ fits neg (numP t).2
instance (neg : Bool) (u : Nat) : Decidable (fits neg u) := by unfold fits; split <;> infer_instance
instance (neg : Bool) (t : List UInt8) : Decidable (goodI neg t) := by unfold goodI; infer_instance
theorem drop_head {t : List UInt8} {k : Nat} {c : UInt8} (h : (t.drop k).head? = some c) : t.drop k = c :: t.drop (k + 1) := by
  cases hd : t.drop k with
  | nil => rw [hd] at h; cases h
  | cons x r =>
    rw [hd] at h
    simp at h
    subst h
    have : t.drop (k + 1) = r := by rw [← List.drop_drop, hd]; rfl
    rw [this]
theorem dec_h (u : Nat) : ∃ c r, decDigits u = c :: r ∧ isDig c = true := by
  cases h : decDigits u with
  | nil => exact absurd h (dec_ne u)
  | cons c r => exact ⟨c, r, rfl, dec_dig u c (by rw [h]; simp)⟩
theorem rdInt_ref (neg : Bool) (t : List UInt8) (h : neg = false → t.head? ≠ some 45) :
    rdInt (105 :: (sg neg ++ t)) = if goodI neg t then some (sv neg (numP t).2, t.drop ((numP t).1 + 1)) else none := by
  by_cases hg : goodI neg t
  · rw [if_pos hg]
    obtain ⟨h1, h2, h3⟩ := hg
    obtain ⟨e, _, _, _⟩ := numP_some h1
    have hd := drop_head h2
    obtain ⟨hb, hr⟩ := bInt_sv neg _ h3
    have := rdInt_of (t.drop ((numP t).1 + 1)) hr
    rw [hb] at this
    rw [← this]
    congr 1
    conv => lhs; rw [e, hd]
    simp
  · rw [if_neg hg]
    cases hr : rdInt (105 :: (sg neg ++ t)) with
    | none => rfl
    | some x =>
      exfalso
      obtain ⟨n, r⟩ := x
      obtain ⟨hn, e⟩ := rdInt_some hr
      obtain ⟨neg', u, rfl, hf⟩ := sv_of n hn
      rw [(bInt_sv neg' u hf).1] at e
      simp only [List.cons_append, List.cons.injEq, true_and, List.append_assoc] at e
      obtain ⟨c, d, hdc, hcd⟩ := dec_h u
      have hne : c ≠ 45 := by rintro rfl; exact absurd hcd (by decide)
      have hu : u < 18446744073709551616 := by
        cases neg' <;> simp [fits] at hf <;> omega
      have key : ∀ t', t' = decDigits u ++ 101 :: r → numP t' = ((decDigits u).length, u) := fun t' ht => by
        rw [ht]
        exact numP_dec hu (fun c hc => by simp at hc; subst hc; decide)
      have fin : t = decDigits u ++ 101 :: r → neg = neg' → False := fun ht hn => by
        apply hg
        subst hn
        have hk := key t ht
        refine ⟨?_, ?_, ?_⟩
        · rw [hk]; simp [hdc]
        · rw [hk, ht]; simp
        · rw [hk]; exact hf
      cases neg <;> cases neg'
      · exact fin (by simpa [sg] using e) rfl
      · simp [sg] at e
        rw [e] at h
        simp at h
      · simp [sg, hdc] at e
        exact hne e.1.symm
      · exact fin (by simpa [sg] using e) rfl
def goodT (most : Int) (m : List UInt8) : Prop := 0 < (numP m).1 ∧ (m.drop (numP m).1).head? = some 58 ∧ ((numP m).2 : Int) ≤ most ∧ (numP m).2 + (numP m).1 + 1 ≤ m.length
instance (most : Int) (m : List UInt8) : Decidable (goodT most m) := by unfold goodT; infer_instance
theorem rdText_ref (most : Int) (hm : most ≤ 9223372036854775807) (m : List UInt8) :
    rdText most m = if goodT most m then some ((m.drop ((numP m).1 + 1)).take (numP m).2, m.drop ((numP m).1 + 1 + (numP m).2)) else none := by
  by_cases hg : goodT most m
  · rw [if_pos hg]
    obtain ⟨h1, h2, h3, h4⟩ := hg
    obtain ⟨e, _, _, _⟩ := numP_some h1
    have hd := drop_head h2
    have hl : ((m.drop ((numP m).1 + 1)).take (numP m).2).length = (numP m).2 := by rw [List.length_take, List.length_drop]; omega
    have := rdText_of (most := most) ((m.drop ((numP m).1 + 1)).take (numP m).2) (m.drop ((numP m).1 + 1 + (numP m).2)) (by rw [hl]; exact h3) (by rw [hl]; omega)
    rw [← this]
    congr 1
    rw [bText, hl, itoa_nonneg]
    conv => lhs; rw [e, hd]
    rw [List.append_assoc, List.cons_append, show m.drop ((numP m).1 + 1 + (numP m).2) = (m.drop ((numP m).1 + 1)).drop (numP m).2 by rw [List.drop_drop], List.take_append_drop]
  · rw [if_neg hg]
    cases hr : rdText most m with
    | none => rfl
    | some x =>
      exfalso
      obtain ⟨t, r⟩ := x
      obtain ⟨ht, e⟩ := rdText_some hr
      rw [bText, itoa_nonneg, List.append_assoc] at e
      have hk : numP m = ((decDigits t.length).length, t.length) := by
        rw [e]
        exact numP_dec (by omega) (fun c hc => by simp at hc; subst hc; decide)
      obtain ⟨c, d, hdc, _⟩ := dec_h t.length
      apply hg
      refine ⟨?_, ?_, ?_, ?_⟩
      · rw [hk]; simp [hdc]
      · rw [hk, e]; simp
      · rw [hk]; exact ht
      · rw [hk, e]; simp; omega

end Go.Proofs.YtegaonoobjeneaaDoor.Bd
