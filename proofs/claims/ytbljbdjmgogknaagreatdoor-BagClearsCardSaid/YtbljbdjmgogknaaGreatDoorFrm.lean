/-
  Frames in plain Lean: what Put, Next and Scan answer, as functions of lists of bytes. No program in sight.
-/
import Derived.Test.YtbljbdjmgogknaaGreatDoorCrc
set_option linter.unusedVariables false
set_option linter.unusedSimpArgs false
namespace Go.Proofs.YtbljbdjmgogknaaGreatDoor.Frm
open Crc

/-- A text's frame. -/
def put (l : List UInt8) : List UInt8 := four (BitVec.ofNat 32 l.length) ++ (four (sum l) ++ l)
/-- The frame that begins at a place: its text, the place behind it, the error. -/
def next (l : List UInt8) (k : Int) : List UInt8 × Int × Int :=
  if k < 0 ∨ (l.length : Int) < k then ([], 0, 1) else
  let r := l.drop k.toNat
  if r.length < 8 then ([], 0, 5) else
  let n := (num r).toNat
  if 16384 < n then ([], 0, 4) else
  if r.length - 8 < n then ([], 0, 5) else
  let b := (r.take (8 + n)).drop 8
  if sum b ≠ num (r.drop 4) then ([], 0, 6) else (b, k + 8 + n, 0)

theorem next_arg {l : List UInt8} {k : Int} (h : k < 0 ∨ (l.length : Int) < k) : next l k = ([], 0, 1) := by unfold next; rw [if_pos h]
theorem next_short {l : List UInt8} {k : Nat} (h : k ≤ l.length) (h8 : l.length - k < 8) : next l k = ([], 0, 5) := by
  unfold next
  rw [if_neg (by omega)]
  simp only [Int.toNat_natCast]
  rw [if_pos (by simp; omega)]
theorem next_long {l : List UInt8} {k : Nat} (h : k ≤ l.length) (h8 : 8 ≤ l.length - k) (hn : 16384 < (num (l.drop k)).toNat) : next l k = ([], 0, 4) := by
  unfold next
  rw [if_neg (by omega)]
  simp only [Int.toNat_natCast]
  rw [if_neg (by simp; omega), if_pos hn]
theorem next_short2 {l : List UInt8} {k : Nat} (h : k ≤ l.length) (h8 : 8 ≤ l.length - k) (hn : (num (l.drop k)).toNat ≤ 16384) (hs : l.length - k - 8 < (num (l.drop k)).toNat) : next l k = ([], 0, 5) := by
  unfold next
  rw [if_neg (by omega)]
  simp only [Int.toNat_natCast]
  rw [if_neg (by simp; omega), if_neg (by omega), if_pos (by simp; omega)]
theorem next_sum {l : List UInt8} {k : Nat} (h : k ≤ l.length) (h8 : 8 ≤ l.length - k) (hn : (num (l.drop k)).toNat ≤ 16384) (hs : (num (l.drop k)).toNat ≤ l.length - k - 8)
    (hc : sum (((l.drop k).take (8 + (num (l.drop k)).toNat)).drop 8) ≠ num ((l.drop k).drop 4)) : next l k = ([], 0, 6) := by
  unfold next
  rw [if_neg (by omega)]
  simp only [Int.toNat_natCast]
  rw [if_neg (by simp; omega), if_neg (by omega), if_neg (by simp; omega), if_pos hc]
theorem next_ok {l : List UInt8} {k : Nat} (h : k ≤ l.length) (h8 : 8 ≤ l.length - k) (hn : (num (l.drop k)).toNat ≤ 16384) (hs : (num (l.drop k)).toNat ≤ l.length - k - 8)
    (hc : sum (((l.drop k).take (8 + (num (l.drop k)).toNat)).drop 8) = num ((l.drop k).drop 4)) :
    next l k = (((l.drop k).take (8 + (num (l.drop k)).toNat)).drop 8, (k : Int) + 8 + (num (l.drop k)).toNat, 0) := by
  unfold next
  rw [if_neg (by omega)]
  simp only [Int.toNat_natCast]
  rw [if_neg (by simp; omega), if_neg (by omega), if_neg (by simp; omega), if_neg (by simpa using hc)]

/-- What an answer without an error says. -/
theorem next_zero {l : List UInt8} {k : Nat} (h : (next l k).2.2 = 0) :
    k + 8 + (num (l.drop k)).toNat ≤ l.length ∧ (num (l.drop k)).toNat ≤ 16384 ∧ (next l k).1 = ((l.drop k).take (8 + (num (l.drop k)).toNat)).drop 8 ∧
      (next l k).2.1 = (k : Int) + 8 + (num (l.drop k)).toNat ∧ sum (next l k).1 = num ((l.drop k).drop 4) ∧ (next l k).1.length = (num (l.drop k)).toNat := by
  by_cases h0 : (k : Int) < 0 ∨ (l.length : Int) < k
  · rw [next_arg h0] at h; cases h
  · have hk : k ≤ l.length := by omega
    by_cases h8 : l.length - k < 8
    · rw [next_short hk h8] at h; cases h
    · by_cases h1 : 16384 < (num (l.drop k)).toNat
      · rw [next_long hk (by omega) h1] at h; cases h
      · by_cases h2 : l.length - k - 8 < (num (l.drop k)).toNat
        · rw [next_short2 hk (by omega) (by omega) h2] at h; cases h
        · by_cases h3 : sum (((l.drop k).take (8 + (num (l.drop k)).toNat)).drop 8) = num ((l.drop k).drop 4)
          · rw [next_ok hk (by omega) (by omega) (by omega) h3]
            refine ⟨by omega, by omega, rfl, rfl, h3, ?_⟩
            simp only [List.length_drop, List.length_take]
            omega
          · rw [next_sum hk (by omega) (by omega) (by omega) h3] at h; cases h
/-- The texts of all frames from a place on, as far as they are right, and where they end. -/
def scanFrom (l : List UInt8) (k : Nat) : List (List UInt8) × Nat :=
  if h : (next l k).2.2 = 0 ∧ k < (next l k).2.1.toNat ∧ (next l k).2.1.toNat ≤ l.length then
    ((next l k).1 :: (scanFrom l (next l k).2.1.toNat).1, (scanFrom l (next l k).2.1.toNat).2)
  else ([], k)
termination_by l.length - k
decreasing_by all_goals omega
def scan (l : List UInt8) : List (List UInt8) × Nat := scanFrom l 0
theorem scan_end {l : List UInt8} {k : Nat} (h : (next l k).2.2 ≠ 0) : scanFrom l k = ([], k) := by
  rw [scanFrom, dif_neg (fun g => h g.1)]
theorem scan_more {l : List UInt8} {k m : Nat} (h : (next l k).2.2 = 0) (hm : (next l k).2.1 = m) : scanFrom l k = ((next l k).1 :: (scanFrom l m).1, (scanFrom l m).2) := by
  obtain ⟨h1, _, _, h2, _⟩ := next_zero h
  have e : (next l k).2.1.toNat = m := by omega
  rw [scanFrom, dif_pos ⟨h, by omega, by omega⟩, e]

end Go.Proofs.YtbljbdjmgogknaaGreatDoor.Frm
