/-
  The plain law of FrameFinds: of texts put one behind the other and cut off, just the whole ones are found. No program in sight.
-/
import Derived.Test.YtlieanigefjocaaFrma
set_option linter.unusedVariables false
set_option linter.unusedSimpArgs false
namespace Go.Proofs.Ytlieanigefjocaa.Frm
open Crc

/-- Where the j-th text ends. -/
def ends (ts : List (List UInt8)) (j : Nat) : Nat := (puts (ts.take j)).length
theorem puts_append (a b : List (List UInt8)) : puts (a ++ b) = puts a ++ puts b := by simp [puts]
theorem puts_cons (t : List UInt8) (ts : List (List UInt8)) : puts (t :: ts) = put t ++ puts ts := by simp [puts]
theorem ends_zero (ts : List (List UInt8)) : ends ts 0 = 0 := by simp [ends, puts]
theorem puts_succ (ts : List (List UInt8)) (j : Nat) (h : j < ts.length) : puts (ts.take (j + 1)) = puts (ts.take j) ++ put (ts.getD j []) := by
  rw [List.take_succ_eq_append_getElem h, puts_append]
  simp [puts, List.getD, h]
theorem ends_succ (ts : List (List UInt8)) (j : Nat) (h : j < ts.length) : ends ts (j + 1) = ends ts j + 8 + (ts.getD j []).length := by
  rw [ends, puts_succ ts j h, List.length_append, put_length, ends]; omega
theorem ends_all (ts : List (List UInt8)) : ends ts ts.length = (puts ts).length := by simp [ends]
theorem ends_le (ts : List (List UInt8)) (h : ∀ j, j < ts.length → (ts.getD j []).length ≤ 4096) : ∀ j, j ≤ ts.length → ends ts j ≤ j * 4104 := by
  intro j
  induction j with
  | zero => intro _; rw [ends_zero]; exact Nat.zero_le _
  | succ j ih =>
    intro hj
    rw [ends_succ ts j (by omega)]
    have := h j (by omega)
    have := ih (by omega)
    omega
theorem mem_of_getD {ts : List (List UInt8)} {m : Nat} (h : ∀ j, j < ts.length → (ts.getD j []).length ≤ m) : ∀ t ∈ ts, t.length ≤ m := by
  intro t ht
  obtain ⟨j, hj, rfl⟩ := List.getElem_of_mem ht
  have := h j hj
  simpa [List.getD, hj] using this
theorem scan_cutoff (ts : List (List UInt8)) (h : ∀ j, j < ts.length → (ts.getD j []).length ≤ 4096) (n k : Nat) (hk : k ≤ ts.length) (h1 : ends ts k ≤ n) (hn : n ≤ (puts ts).length)
    (h2 : k < ts.length → n < ends ts (k + 1)) : scan ((puts ts).take n) = (ts.take k, ends ts k) := by
  have hm := mem_of_getD h
  have e : puts ts = puts (ts.take k) ++ puts (ts.drop k) := by rw [← puts_append, List.take_append_drop]
  have hcut : (puts ts).take n = puts (ts.take k) ++ (puts (ts.drop k)).take (n - ends ts k) := by
    rw [e, List.take_append, List.take_of_length_le (by exact h1)]
    rfl
  have hrest : scan ((puts (ts.drop k)).take (n - ends ts k)) = ([], 0) := by
    by_cases hlt : k < ts.length
    · have hn2 := h2 hlt
      rw [ends_succ ts k hlt] at hn2
      have ed : ts.drop k = ts.getD k [] :: ts.drop (k + 1) := by
        rw [List.drop_eq_getElem_cons hlt]; simp [List.getD, hlt]
      rw [ed, puts_cons, List.take_append_of_le_length (by rw [put_length]; omega)]
      exact scan_cut _ (by have := h k hlt; omega) _ (by omega)
    · have ek : ts.drop k = [] := List.drop_eq_nil_of_le (by omega)
      rw [ek]
      have : (puts []).take (n - ends ts k) = [] := by simp [puts]
      rw [this]
      apply scan_end
      rw [next_short (l := []) (k := 0) (by simp) (by simp)]; decide
  rw [hcut, scan_puts _ (fun t ht => by have := hm t (List.mem_of_mem_take ht); omega), hrest]
  simp [ends]

end Go.Proofs.Ytlieanigefjocaa.Frm
