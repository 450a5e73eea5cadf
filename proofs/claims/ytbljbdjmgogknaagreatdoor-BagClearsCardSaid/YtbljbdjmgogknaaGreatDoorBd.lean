/-
  Bead, plainly: numerals, numbers, texts, and what a reader takes off. No program in sight.
  Conditions: numbers of 64 bits.
-/
import Derived.Lib.ItoaLen
import Derived.Lib.ItoaMem
import Derived.Lib.AtoiAllMem
import Derived.Lib.AtoiAllCases
import Derived.Lib.CutLaws
import Derived.Lib.Strings
set_option linter.unusedVariables false
set_option linter.unusedSimpArgs false
namespace Go.Proofs.YtbljbdjmgogknaaGreatDoor.Bd
open Go.Lib

def isDig (c : UInt8) : Bool := decide (48 ≤ c.toNat ∧ c.toNat ≤ 57)
theorem isDig_iff {c : UInt8} : isDig c = true ↔ 48 ≤ c.toNat ∧ c.toNat ≤ 57 := by simp [isDig]
/-- What a digit says. -/
def dv (c : UInt8) : Nat := c.toNat % 48
theorem dv_eq {c : UInt8} (h : isDig c = true) : c.toNat = 48 + dv c ∧ dv c ≤ 9 := by
  have := isDig_iff.1 h
  unfold dv
  omega
attribute [irreducible] dv
/-- What digits say. -/
def val (acc : Nat) : List UInt8 → Nat
  | [] => acc
  | c :: r => val (acc * 10 + dv c) r
theorem val_append (a b : List UInt8) (acc : Nat) : val acc (a ++ b) = val (val acc a) b := by
  induction a generalizing acc with
  | nil => rfl
  | cons c r ih => exact ih _
theorem val_ge (l : List UInt8) (acc : Nat) : acc ≤ val acc l := by
  induction l generalizing acc with
  | nil => exact Nat.le_refl acc
  | cons c r ih =>
    have h := ih (acc * 10 + dv c)
    have e : val acc (c :: r) = val (acc * 10 + dv c) r := rfl
    rw [e]
    omega
theorem parse_bd {acc d v : Nat} (hg : acc * 10 + d ≤ v) (hv : v < 18446744073709551616) : ¬ 1844674407370955162 ≤ acc ∧ ¬ 18446744073709551616 ≤ acc * 10 + d := by omega
theorem parse_val (l : List UInt8) : ∀ (acc : Nat), (∀ c ∈ l, isDig c = true) → val acc l < 18446744073709551616 → parseUint10 acc l = .ok (val acc l) := by
  induction l with
  | nil => intro acc _ _; rfl
  | cons c r ih =>
    intro acc h hv
    have hc := isDig_iff.1 (h c (by simp))
    have hd := dv_eq (h c (by simp))
    have hg := val_ge r (acc * 10 + dv c)
    have ev : val acc (c :: r) = val (acc * 10 + dv c) r := rfl
    rw [ev] at hv ⊢
    obtain ⟨h1, h2⟩ := parse_bd hg hv
    have hs : c.toNat - 48 = dv c := by rw [hd.1, Nat.add_sub_cancel_left]
    have e : parseUint10 acc (c :: r) = parseUint10 (acc * 10 + dv c) r := by
      rw [parseUint10, if_pos hc, hs, if_neg h1, if_neg h2]
    rw [e]
    exact ih _ (fun x hx => h x (List.mem_cons_of_mem _ hx)) hv

theorem dec_small {u : Nat} (h : u < 10) : decDigits u = [UInt8.ofNat (48 + u)] := by rw [decDigits, dif_pos h]
theorem dec_big {u : Nat} (h : ¬ u < 10) : decDigits u = decDigits (u / 10) ++ [UInt8.ofNat (48 + u % 10)] := by rw [decDigits, dif_neg h]
theorem dg_toNat {d : Nat} (h : d < 10) : (UInt8.ofNat (48 + d)).toNat = 48 + d := by
  rw [UInt8.toNat_ofNat']; omega
theorem dec_dig (u : Nat) : ∀ c ∈ decDigits u, isDig c = true := by
  induction u using Nat.strongRecOn with
  | _ u ih =>
    by_cases h : u < 10
    · rw [dec_small h]
      intro c hc
      simp only [List.mem_singleton] at hc
      subst hc
      rw [isDig_iff, dg_toNat h]; omega
    · rw [dec_big h]
      intro c hc
      rcases List.mem_append.1 hc with hc | hc
      · exact ih (u / 10) (by omega) c hc
      · simp only [List.mem_singleton] at hc
        subst hc
        rw [isDig_iff, dg_toNat (by omega)]; omega
theorem dv_of {d : Nat} (h : d < 10) : dv (UInt8.ofNat (48 + d)) = d := by
  have h1 := dg_toNat h
  have h2 := dv_eq (c := UInt8.ofNat (48 + d)) (by rw [isDig_iff, h1]; omega)
  omega
theorem val_one (c : UInt8) (acc : Nat) : val acc [c] = acc * 10 + dv c := rfl
theorem dec_val (u : Nat) : val 0 (decDigits u) = u := by
  induction u using Nat.strongRecOn with
  | _ u ih =>
    by_cases h : u < 10
    · rw [dec_small h, val_one, dv_of h]; omega
    · rw [dec_big h, val_append, ih (u / 10) (by omega), val_one, dv_of (by omega)]; omega
theorem dec_ne (u : Nat) : decDigits u ≠ [] := by
  intro h
  have h1 := decDigits_length u
  have h2 := nDigits_pos u
  rw [h] at h1
  simp at h1
  omega
/-- A numeral has one form. -/
theorem dec_canon : ∀ (n : Nat) (l : List UInt8), l.length = n → l ≠ [] → (∀ c ∈ l, isDig c = true) → (1 < l.length → l.head? ≠ some 48) → decDigits (val 0 l) = l := by
  intro n
  induction n with
  | zero => intro l hl h0; exact absurd (List.eq_nil_of_length_eq_zero hl) h0
  | succ n ih =>
    intro l hl h0 hd hh
    obtain ⟨r, c, rfl⟩ : ∃ r c, l = r ++ [c] := ⟨l.dropLast, l.getLast h0, (List.dropLast_concat_getLast h0).symm⟩
    have hc := isDig_iff.1 (hd c (by simp))
    have hdc := dv_eq (hd c (by simp))
    rw [val_append, val_one]
    have hcc : ∀ d, d = dv c → UInt8.ofNat (48 + d) = c := by
      intro d e
      apply UInt8.toNat_inj.1
      rw [dg_toNat (by omega)]; omega
    match r with
    | [] =>
      have e : val 0 [] = 0 := rfl
      rw [e, dec_small (by omega), hcc _ (by omega)]
      rfl
    | x :: r =>
      have hr : decDigits (val 0 (x :: r)) = x :: r := by
        refine ih (x :: r) (by simp at hl ⊢; omega) (by simp) (fun y hy => hd y (List.mem_append_left _ hy)) (fun _ => ?_)
        have := hh (by simp)
        simpa using this
      have hx : 1 ≤ val 0 (x :: r) := by
        rcases Nat.eq_zero_or_pos (val 0 (x :: r)) with e | e
        · rw [e, dec_small (by omega)] at hr
          have := hh (by simp)
          injection hr with h1 _
          rw [← h1] at this
          simp at this
        · exact e
      generalize val 0 (x :: r) = v at hr hx
      rw [dec_big (by omega), show (v * 10 + dv c) / 10 = v by omega, hr, hcc _ (by omega)]

/-- A number of 64 bits. -/
def inR (n : Int) : Prop := -9223372036854775808 ≤ n ∧ n ≤ 9223372036854775807
theorem parseMag_dec {u : Nat} (h : u < 18446744073709551616) : parseMag (decDigits u) = .ok u := by
  rw [parseMag, if_neg (dec_ne u), parse_val _ _ (dec_dig u) (by rw [dec_val]; exact h), dec_val]
theorem atoi_itoa {n : Int} (h : inR n) : atoiAll (itoa n) = .ok n := by
  obtain ⟨h0, h1⟩ := h
  by_cases hn : n < 0
  · have e : itoa n = 45 :: decDigits n.natAbs := by rw [itoa, if_pos hn]
    rw [e, atoiAll_minus, parseMag_dec (by omega)]
    unfold signed
    simp only
    rw [if_neg (by omega)]
    congr 1
    omega
  · have e : itoa n = decDigits n.toNat := by rw [itoa, if_neg hn]
    obtain ⟨c, r, hcr⟩ : ∃ c r, decDigits n.toNat = c :: r := by
      cases hd : decDigits n.toNat with
      | nil => exact absurd hd (dec_ne _)
      | cons c r => exact ⟨c, r, rfl⟩
    have hc := isDig_iff.1 (dec_dig n.toNat c (by rw [hcr]; simp))
    have hp := parseMag_dec (u := n.toNat) (by omega)
    rw [e]
    rw [hcr] at hp ⊢
    rw [atoiAll_plain c r (by omega) (by omega), hp]
    unfold signless
    simp only
    rw [if_neg (by omega)]
    congr 1
    omega
theorem itoa_inj {n m : Int} (hn : inR n) (hm : inR m) (h : itoa n = itoa m) : n = m := by
  have h1 := atoi_itoa hn
  rw [h, atoi_itoa hm] at h1
  injection h1 with h1
  exact h1.symm
theorem itoa_mem {n : Int} {c : UInt8} (h : c ∈ itoa n) : isDig c = true ∨ c = 45 := by
  unfold itoa at h
  split at h
  · rcases List.mem_cons.1 h with h | h
    · exact .inr h
    · exact .inl (dec_dig _ c h)
  · exact .inl (dec_dig _ c h)
theorem itoa_not {n : Int} {c : UInt8} (h : ¬ (48 ≤ c.toNat ∧ c.toNat ≤ 57)) (h2 : c ≠ 45) : c ∉ itoa n := by
  intro hc
  rcases itoa_mem hc with h3 | h3
  · exact h (isDig_iff.1 h3)
  · exact h2 h3
theorem itoa_ne (n : Int) : itoa n ≠ [] := by
  unfold itoa
  split
  · simp
  · exact dec_ne _

/-! ### Cutting at a byte -/

theorem occ_one (s : List UInt8) (c : UInt8) (i : Nat) : occAt s [c] i = decide (s[i]? = some c) := by
  unfold occAt
  rw [← List.head?_drop]
  cases s.drop i with
  | nil => rfl
  | cons x r =>
    simp only [List.isPrefixOf, Bool.and_true, List.head?_cons, Option.some.injEq]
    by_cases h : c = x
    · subst h; simp
    · have h' : ¬ x = c := fun e => h e.symm
      simp [h, h']
theorem cut_hit {a b : List UInt8} {c : UInt8} (h : c ∉ a) : cut (a ++ c :: b) [c] = (a, b, true) := by
  have hi : index (a ++ c :: b) [c] = a.length := by
    refine index_first (by simp) (by rw [occ_one]; simp) (fun j hj => ?_)
    rw [occ_one, decide_eq_false_iff_not]
    intro e
    rw [List.getElem?_append_left hj] at e
    exact h (List.mem_of_getElem? e)
  unfold cut
  rw [hi, if_pos (by omega)]
  simp
theorem cut_miss {s : List UInt8} {c : UInt8} (h : c ∉ s) : cut s [c] = (s, [], false) := by
  have hi : index s [c] = -1 := by
    refine index_none (fun j hj => ?_)
    rw [occ_one, decide_eq_false_iff_not]
    intro e
    exact h (List.mem_of_getElem? e)
  unfold cut
  rw [hi, if_neg (by decide)]
theorem cut_cases (s : List UInt8) (c : UInt8) : (c ∉ s ∧ cut s [c] = (s, [], false)) ∨ ∃ a b, c ∉ a ∧ s = a ++ c :: b ∧ cut s [c] = (a, b, true) := by
  by_cases h : c ∈ s
  · obtain ⟨a, b, rfl, ha⟩ := List.eq_append_cons_of_mem h
    exact .inr ⟨a, b, ha, rfl, cut_hit ha⟩
  · exact .inl ⟨h, cut_miss h⟩
theorem pre_one (s : List UInt8) (c : UInt8) : hasPrefix s [c] = decide (s.head? = some c) := by
  have := occ_one s c 0
  unfold occAt at this
  rw [List.drop_zero] at this
  rw [hasPrefix, this, List.head?_eq_getElem?]
theorem trim_hit (s : List UInt8) (c : UInt8) : trimPrefix (c :: s) [c] = s := by
  have h : hasPrefix (c :: s) [c] = true := by rw [pre_one]; simp
  rw [trimPrefix, if_pos h]
  rfl
theorem trim_miss {s : List UInt8} {c : UInt8} (h : hasPrefix s [c] = false) : trimPrefix s [c] = s := by rw [trimPrefix, if_neg (by simp [h])]

/-! ### Numbers and texts written -/

/-- A number's bytes; a text's. -/
def bInt (n : Int) : List UInt8 := 105 :: (itoa n ++ [101])
def bText (t : List UInt8) : List UInt8 := itoa (t.length : Int) ++ 58 :: t
/-- A number is taken off: what follows. -/
def rdInt (s : List UInt8) : Option (Int × List UInt8) :=
  match atoiAll (trimPrefix (cut s [101]).1 [105]) with
  | .ok n => if (cut s [101]).2.2 && hasPrefix (cut s [101]).1 [105] && decide (itoa n = trimPrefix (cut s [101]).1 [105]) then some (n, (cut s [101]).2.1) else none
  | _ => none
/-- A text of at most so many bytes is. -/
def rdText (most : Int) (s : List UInt8) : Option (List UInt8 × List UInt8) :=
  match atoiAll (cut s [58]).1 with
  | .ok n => if (cut s [58]).2.2 && decide (itoa n = (cut s [58]).1) && decide (0 ≤ n) && decide (n ≤ most) && decide (n ≤ ((cut s [58]).2.1.length : Int)) then some ((cut s [58]).2.1.take n.toNat, (cut s [58]).2.1.drop n.toNat) else none
  | _ => none
theorem cut_int (n : Int) (r : List UInt8) : cut (bInt n ++ r) [101] = (105 :: itoa n, r, true) := by
  have e : bInt n ++ r = (105 :: itoa n) ++ 101 :: r := by simp [bInt]
  rw [e]
  refine cut_hit ?_
  intro h
  rcases List.mem_cons.1 h with h | h
  · cases h
  · exact itoa_not (by decide) (by decide) h
theorem rdInt_of {n : Int} (r : List UInt8) (h : inR n) : rdInt (bInt n ++ r) = some (n, r) := by
  unfold rdInt
  rw [cut_int]
  simp only
  rw [trim_hit, atoi_itoa h]
  simp [pre_one]
theorem rdInt_some {s : List UInt8} {n : Int} {r : List UInt8} (h : rdInt s = some (n, r)) : inR n ∧ s = bInt n ++ r := by
  unfold rdInt at h
  rcases cut_cases s 101 with ⟨_, e⟩ | ⟨a, b, ha, rfl, e⟩
  · rw [e] at h
    simp only at h
    split at h
    · simp at h
    · cases h
  · rw [e] at h
    simp only at h
    split at h
    · rename_i m hm
      split at h
      · rename_i hc
        simp only [Bool.true_and, Bool.and_eq_true, decide_eq_true_eq] at hc
        obtain ⟨hp, hi⟩ := hc
        simp only [Option.some.injEq, Prod.mk.injEq] at h
        obtain ⟨rfl, rfl⟩ := h
        rw [pre_one, decide_eq_true_eq] at hp
        obtain ⟨a', rfl⟩ : ∃ a', a = 105 :: a' := by
          cases a with
          | nil => simp at hp
          | cons x y => simp at hp; exact ⟨y, by rw [hp]⟩
        rw [trim_hit] at hm hi
        refine ⟨atoiAll_bounds hm, ?_⟩
        rw [bInt, hi]
        simp
      · cases h
    · cases h
theorem cut_text (t r : List UInt8) : cut (bText t ++ r) [58] = (itoa (t.length : Int), t ++ r, true) := by
  have e : bText t ++ r = itoa (t.length : Int) ++ 58 :: (t ++ r) := by simp [bText]
  rw [e]
  exact cut_hit (itoa_not (by decide) (by decide))
theorem rdText_of {most : Int} (t r : List UInt8) (h : (t.length : Int) ≤ most) (hl : t.length ≤ 9223372036854775807) : rdText most (bText t ++ r) = some (t, r) := by
  unfold rdText
  rw [cut_text]
  simp only
  rw [atoi_itoa (by unfold inR; omega)]
  simp only [List.length_append]
  rw [if_pos (by simp; omega)]
  simp
theorem rdText_some {most : Int} {s t r : List UInt8} (h : rdText most s = some (t, r)) : (t.length : Int) ≤ most ∧ s = bText t ++ r := by
  unfold rdText at h
  rcases cut_cases s 58 with ⟨_, e⟩ | ⟨a, b, ha, rfl, e⟩
  · rw [e] at h
    simp only at h
    split at h
    · simp at h
    · cases h
  · rw [e] at h
    simp only at h
    split at h
    · rename_i m hm
      split at h
      · rename_i hc
        simp only [Bool.true_and, Bool.and_eq_true, decide_eq_true_eq] at hc
        obtain ⟨⟨⟨hi, h0⟩, h1⟩, h2⟩ := hc
        simp only [Option.some.injEq, Prod.mk.injEq] at h
        obtain ⟨rfl, rfl⟩ := h
        have hl : ((b.take m.toNat).length : Int) = m := by rw [List.length_take]; omega
        refine ⟨by omega, ?_⟩
        rw [bText, hl, hi]
        simp
      · cases h
    · cases h
theorem rdInt_none {s : List UInt8} (h : rdInt s = none) (n : Int) (hn : inR n) (r : List UInt8) : s ≠ bInt n ++ r := by
  rintro rfl
  rw [rdInt_of r hn] at h
  cases h
theorem rdInt_head {s : List UInt8} {n : Int} {r : List UInt8} (h : rdInt s = some (n, r)) : s.head? = some 105 := by
  obtain ⟨_, rfl⟩ := rdInt_some h
  rfl
theorem itoa_head (n : Nat) : ∃ c l, itoa (n : Int) = c :: l ∧ isDig c = true := by
  rw [itoa_nonneg]
  cases h : decDigits n with
  | nil => exact absurd h (dec_ne n)
  | cons c l => exact ⟨c, l, rfl, dec_dig n c (by rw [h]; simp)⟩
theorem bText_head (t r : List UInt8) : ∃ c l, bText t ++ r = c :: l ∧ isDig c = true := by
  obtain ⟨c, l, h, hd⟩ := itoa_head t.length
  exact ⟨c, l ++ 58 :: t ++ r, by rw [bText, h]; simp, hd⟩

/-! ### A reader: what is left, and whether it went wrong -/

/-- What is left, and whether it went wrong. -/
abbrev St := List UInt8 × Bool
def sInt (q : St) : Int × St :=
  if q.2 then (0, q) else match rdInt q.1 with
    | some (n, r) => (n, (r, false))
    | none => (0, (q.1, true))
def sText (most : Int) (q : St) : List UInt8 × St :=
  if q.2 then ([], q) else match rdText most q.1 with
    | some (t, r) => (t, (r, false))
    | none => ([], (q.1, true))
def sSign (c : UInt8) (q : St) : St := if q.2 then q else (trimPrefix q.1 [c], !hasPrefix q.1 [c])
def sMore (q : St) : Bool := !q.2 && !q.1.isEmpty && !(q.1.head? == some 101)
def sDone (q : St) : Int := if q.2 || !q.1.isEmpty then 3 else 0

theorem sInt_of {n : Int} (r : List UInt8) (h : inR n) : sInt (bInt n ++ r, false) = (n, (r, false)) := by simp [sInt, rdInt_of r h]
theorem sText_of {most : Int} (t r : List UInt8) (h : (t.length : Int) ≤ most) (hl : t.length ≤ 9223372036854775807) : sText most (bText t ++ r, false) = (t, (r, false)) := by simp [sText, rdText_of t r h hl]
theorem sSign_of (c : UInt8) (r : List UInt8) : sSign c (c :: r, false) = (r, false) := by
  have h : hasPrefix (c :: r) [c] = true := by rw [pre_one]; simp
  simp [sSign, trim_hit, h]
theorem sSign_no {c : UInt8} {s : List UInt8} (h : s.head? ≠ some c) : sSign c (s, false) = (s, true) := by
  have hp : hasPrefix s [c] = false := by rw [pre_one]; simp [h]
  simp [sSign, trim_miss hp, hp]
theorem sInt_bad (s : List UInt8) : sInt (s, true) = (0, (s, true)) := rfl
theorem sText_bad (most : Int) (s : List UInt8) : sText most (s, true) = ([], (s, true)) := rfl
theorem sSign_bad (c : UInt8) (s : List UInt8) : sSign c (s, true) = (s, true) := rfl
theorem sMore_bad (s : List UInt8) : sMore (s, true) = false := rfl
theorem sDone_bad (s : List UInt8) : sDone (s, true) = 3 := rfl
theorem sDone_iff (q : St) : sDone q = 0 ↔ q = ([], false) := by
  obtain ⟨s, b⟩ := q
  cases b <;> cases s <;> simp [sDone]
theorem sMore_int (n : Int) (r : List UInt8) : sMore (bInt n ++ r, false) = true := by simp [sMore, bInt]

end Go.Proofs.YtbljbdjmgogknaaGreatDoor.Bd
