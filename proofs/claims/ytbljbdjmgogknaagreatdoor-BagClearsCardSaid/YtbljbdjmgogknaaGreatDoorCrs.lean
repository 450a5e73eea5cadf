/-
  Crate, plainly: how long a batch is; records taken out; the document's way of reading. No program in sight.
  Conditions: none.
-/
import Derived.Test.YtbljbdjmgogknaaGreatDoorCr
import Derived.Lib.ItoaLen
set_option linter.unusedVariables false
set_option linter.unusedSimpArgs false
namespace Go.Proofs.YtbljbdjmgogknaaGreatDoor.Cr
open Go.Lib

theorem nDigits_le_pow : ∀ (k u : Nat), 0 < k → u < 10 ^ k → nDigits u ≤ k := by
  intro k
  induction k with
  | zero => intro u h; omega
  | succ k ih =>
    intro u _ hu
    by_cases h : u < 10
    · rw [nDigits_small h]; omega
    · rw [nDigits_big h]
      have hk : 0 < k := by
        rcases Nat.eq_zero_or_pos k with rfl | hk
        · simp at hu; omega
        · exact hk
      have := ih (u / 10) hk (by rw [Nat.pow_succ] at hu; omega)
      omega
theorem bInt_len {n : Int} (h0 : 0 ≤ n) (h1 : n < 10000000000000) : 3 ≤ (Bd.bInt n).length ∧ (Bd.bInt n).length ≤ 15 := by
  have e : itoa n = decDigits n.toNat := by unfold itoa; rw [if_neg (by omega)]
  have hd := nDigits_le_pow 13 n.toNat (by decide) (by have : (10 : Nat) ^ 13 = 10000000000000 := by decide
                                                       omega)
  have hp := nDigits_pos n.toNat
  simp only [Bd.bInt, List.length_cons, List.length_append, List.length_nil, e, decDigits_length]
  omega
theorem bText_len {t : List UInt8} (h : t.length < 100) : (Bd.bText t).length ≤ 3 + t.length := by
  have e : itoa (t.length : Int) = decDigits t.length := by unfold itoa; rw [if_neg (by omega)]; rfl
  have hd := nDigits_le_pow 2 t.length (by decide) (by omega)
  simp only [Bd.bText, List.length_cons, List.length_append, e, decDigits_length]
  omega
theorem flag_le (b : Bool) : 0 ≤ flag b ∧ flag b ≤ 1 := by cases b <;> decide
theorem encRec_len {x : Rec} (hx : isRec x = true) (h0 : 0 ≤ x.off) (h1 : x.off < 10000000000000) : (encRec x).length ≤ 130 := by
  simp only [isRec, Bool.and_eq_true, decide_eq_true_eq] at hx
  have a := bInt_len h0 h1
  have b := bText_len (t := x.key) (by omega)
  have c := bText_len (t := x.val) (by omega)
  have f := flag_le x.gone
  have d := bInt_len f.1 (by omega)
  simp only [encRec, List.length_cons, List.length_append, List.length_nil]
  omega
theorem encRecs_len (l : List Rec) (h : ∀ x ∈ l, isRec x = true ∧ 0 ≤ x.off ∧ x.off < 10000000000000) : (encRecs l).length ≤ 130 * l.length := by
  induction l with
  | nil => simp [encRecs]
  | cons x l ih =>
    have h1 := h x (by simp)
    have h2 := ih fun y hy => h y (by simp [hy])
    have h3 := encRec_len h1.1 h1.2.1 h1.2.2
    simp only [encRecs, List.map_cons, List.flatten_cons, List.length_append, List.length_cons] at h2 ⊢
    omega
theorem good_recs {b : Batch} (h : good b = true) : ∀ x ∈ b.recs, isRec x = true ∧ 0 ≤ x.off ∧ x.off < 10000000000000 := by
  obtain ⟨h1, h2, h3, h4, h5, h6, h7, h8, h9⟩ := good_nums h
  simp only [isNum, Bool.and_eq_true, decide_eq_true_eq] at h1
  intro x hx
  obtain ⟨g1, g2, g3⟩ := goodRecs_all h9 x hx
  exact ⟨g1, by omega, by omega⟩
/-- How long a batch is. -/
theorem enc_len {b : Batch} (h : good b = true) : 17 ≤ (enc b).length ∧ (enc b).length ≤ 82 + 130 * b.recs.length ∧ b.recs.length ≤ 8 := by
  obtain ⟨h1, h2, h3, h4, h5, h6, h7, h8, h9⟩ := good_nums h
  have hr := encRecs_len b.recs (good_recs h)
  simp only [isNum, Bool.and_eq_true, decide_eq_true_eq] at h1 h2 h3 h4
  have a1 := bInt_len (n := b.base) (by omega) (by omega)
  have a2 := bInt_len (n := b.count) (by omega) (by omega)
  have a3 := bInt_len (n := b.prod) (by omega) (by omega)
  have a4 := bInt_len (n := b.seq) (by omega) (by omega)
  have a5 := bInt_len (n := b.time) (by omega) (by omega)
  simp only [enc, nums, List.length_cons, List.length_append, List.length_nil]
  omega
theorem enc_ends (b : Batch) : ∃ m, enc b = 108 :: (m ++ [101]) := ⟨nums b ++ encRecs b.recs, by simp [enc]⟩
theorem goodRecs_sub {hi : Int} : ∀ {l m : List Rec} {next n2 : Int}, m.Sublist l → n2 ≤ next → goodRecs hi next l = true → goodRecs hi n2 m = true := by
  intro l m
  intro next n2 hs
  induction hs generalizing next n2 with
  | slnil => intro _ _; rfl
  | cons x hs ih =>
    intro hn h
    simp only [goodRecs, Bool.and_eq_true, decide_eq_true_eq] at h
    exact ih (by omega) h.2.2.2
  | cons_cons x hs ih =>
    intro hn h
    simp only [goodRecs, Bool.and_eq_true, decide_eq_true_eq] at h ⊢
    exact ⟨h.1, by omega, h.2.2.1, ih (Int.le_refl _) h.2.2.2⟩
/-- Records taken out: a batch still. -/
theorem good_sub {b : Batch} {m : List Rec} (hs : m.Sublist b.recs) (h : good b = true) : good { b with recs := m } = true := by
  obtain ⟨h1, h2, h3, h4, h5, h6, h7, h8, h9⟩ := good_nums h
  have := hs.length_le
  have hg := goodRecs_sub hs (Int.le_refl _) h9
  simp only [good, Bool.and_eq_true, decide_eq_true_eq]
  exact ⟨h1, h2, h3, h4, h5, h6, h7, by omega, hg⟩
theorem offs_length : ∀ (l : List Rec) (n : Int), (offs n l).length = l.length := by
  intro l
  induction l with
  | nil => intro n; rfl
  | cons x l ih => intro n; simp [offs, ih]
theorem offs_get : ∀ (l : List Rec) (n : Int) (i : Nat), (offs n l)[i]? = (l[i]?).map fun x => { x with off := n + i } := by
  intro l
  induction l with
  | nil => intro n i; rfl
  | cons x l ih =>
    intro n i
    cases i with
    | zero => simp [offs]
    | succ i => simp only [offs, List.getElem?_cons_succ, ih]; congr 1; funext y; congr 1; omega

/-! ### The document's reading -/

def rRecs : Nat → List Rec → Bd.St → Option (List Rec × Bd.St)
  | 0, _, _ => none
  | n + 1, acc, q => if Bd.sMore q && decide (acc.length < 9) then (if (sRec q).2.1 then rRecs n (acc ++ [(sRec q).1]) (sRec q).2.2 else none) else some (acc, q)
def fin (m : Int × Int × Int × Int × Int × Bd.St) (o : Option (List Rec × Bd.St)) : Option Batch :=
  match o with
  | none => none
  | some (rs, q) => if Bd.sDone (Bd.sSign 101 q) = 0 && good ⟨m.1, m.2.1, m.2.2.1, m.2.2.2.1, m.2.2.2.2.1, rs⟩ then some ⟨m.1, m.2.1, m.2.2.1, m.2.2.2.1, m.2.2.2.2.1, rs⟩ else none
def rdec (s : List UInt8) : Option Batch := fin (sNums (Bd.sSign 108 (s, false))) (rRecs 11 [] (sNums (Bd.sSign 108 (s, false))).2.2.2.2.2)
theorem dec_fin (s : List UInt8) : dec s = fin (sNums (Bd.sSign 108 (s, false))) (sRecs 11 [] (sNums (Bd.sSign 108 (s, false))).2.2.2.2.2) := by
  unfold dec fin
  rfl
theorem good_many {b : Batch} (h : 8 < b.recs.length) : good b = false := by
  cases hg : good b with
  | false => rfl
  | true =>
    obtain ⟨_, _, _, _, _, h6, _, h8, _⟩ := good_nums hg
    omega
theorem fin_many {m : Int × Int × Int × Int × Int × Bd.St} {rs : List Rec} {q : Bd.St} (h : 8 < rs.length) : fin m (some (rs, q)) = none := by
  unfold fin
  simp only [good_many (b := ⟨m.1, m.2.1, m.2.2.1, m.2.2.2.1, m.2.2.2.2.1, rs⟩) h, Bool.and_false, Bool.false_eq_true, if_false]
theorem sRecs_nine {n : Nat} {acc : List Rec} {q : Bd.St} (h : 8 < acc.length) (m : Int × Int × Int × Int × Int × Bd.St) : fin m (sRecs n acc q) = none := by
  cases n with
  | zero => rfl
  | succ n =>
    rw [sRecs]
    split
    · rw [if_neg (by simp; omega)]; rfl
    · exact fin_many h
theorem rRecs_eq (m : Int × Int × Int × Int × Int × Bd.St) : ∀ (n : Nat) (acc : List Rec) (q : Bd.St), acc.length + n = 11 → fin m (rRecs n acc q) = fin m (sRecs n acc q) := by
  intro n
  induction n with
  | zero => intro acc q _; rfl
  | succ n ih =>
    intro acc q hn
    by_cases h9 : 8 < acc.length
    · rw [sRecs_nine h9, rRecs]
      rw [if_neg (by simp; omega)]
      exact fin_many h9
    · rw [rRecs, sRecs]
      have e1 : decide (acc.length < 9) = true := decide_eq_true (by omega)
      have e2 : decide (acc.length ≤ 8) = true := decide_eq_true (by omega)
      rw [e1, e2]
      simp only [Bool.and_true]
      split
      · split
        · exact ih _ _ (by simp; omega)
        · rfl
      · rfl
theorem rdec_eq (s : List UInt8) : rdec s = dec s := by rw [dec_fin]; exact rRecs_eq _ _ _ _ rfl

end Go.Proofs.YtbljbdjmgogknaaGreatDoor.Cr
