/-
  Plain laws of frames: put and found again, one behind the other, cut off, changed. No program in sight.
-/
import Derived.Test.YtbljbdjmgogknaaGreatDoorFrm
set_option linter.unusedVariables false
set_option linter.unusedSimpArgs false
namespace Go.Proofs.YtbljbdjmgogknaaGreatDoor.Frm
open Crc

/-- A frame is the same one behind other bytes. -/
theorem next_shift (u t : List UInt8) (j : Nat) : next (u ++ t) ((u.length + j : Nat) : Int) =
    ((next t j).1, (if (next t j).2.2 = 0 then (u.length : Int) + (next t j).2.1 else 0), (next t j).2.2) := by
  have hd : (u ++ t).drop (u.length + j) = t.drop j := by rw [List.drop_append, List.drop_eq_nil_of_le (by omega)]; simp
  have hl : (u ++ t).length = u.length + t.length := List.length_append
  by_cases h0 : t.length < j
  · rw [next_arg (l := t) (by omega), next_arg (l := u ++ t) (by omega)]; rfl
  · by_cases h8 : t.length - j < 8
    · rw [next_short (l := t) (by omega) h8, next_short (l := u ++ t) (by omega) (by omega)]; rfl
    · by_cases h1 : 16384 < (num (t.drop j)).toNat
      · rw [next_long (l := t) (by omega) (by omega) h1, next_long (l := u ++ t) (by omega) (by omega) (by rw [hd]; exact h1)]; rfl
      · by_cases h2 : t.length - j - 8 < (num (t.drop j)).toNat
        · rw [next_short2 (l := t) (by omega) (by omega) (by omega) h2, next_short2 (l := u ++ t) (by omega) (by omega) (by rw [hd]; omega) (by rw [hd]; omega)]; rfl
        · by_cases h3 : sum (((t.drop j).take (8 + (num (t.drop j)).toNat)).drop 8) = num ((t.drop j).drop 4)
          · rw [next_ok (l := t) (by omega) (by omega) (by omega) (by omega) h3, next_ok (l := u ++ t) (by omega) (by omega) (by rw [hd]; omega) (by rw [hd]; omega) (by rw [hd]; exact h3), hd]
            simp
            omega
          · rw [next_sum (l := t) (by omega) (by omega) (by omega) (by omega) h3, next_sum (l := u ++ t) (by omega) (by omega) (by rw [hd]; omega) (by rw [hd]; omega) (by rw [hd]; exact h3)]; rfl
theorem scan_shift (u t : List UInt8) : ∀ n j, t.length - j ≤ n → scanFrom (u ++ t) (u.length + j) = ((scanFrom t j).1, u.length + (scanFrom t j).2) := by
  intro n
  induction n with
  | zero =>
    intro j hj
    have hs := next_shift u t j
    by_cases hz : (next t j).2.2 = 0
    · obtain ⟨h1, _⟩ := next_zero hz; omega
    · rw [scan_end hz, scan_end (by rw [hs]; exact hz)]
  | succ n ih =>
    intro j hj
    have hs := next_shift u t j
    by_cases hz : (next t j).2.2 = 0
    · obtain ⟨h1, h2, h3, h4, h5, h6⟩ := next_zero hz
      have e4 : (next t j).2.1 = ((j + 8 + (num (t.drop j)).toNat : Nat) : Int) := by rw [h4]; omega
      rw [scan_more hz e4, scan_more (l := u ++ t) (m := u.length + (j + 8 + (num (t.drop j)).toNat)) (by rw [hs]; exact hz) (by rw [hs]; simp only [hz, if_true]; rw [e4]; omega), ih _ (by omega), hs]
    · rw [scan_end hz, scan_end (by rw [hs]; exact hz)]
theorem scan_behind (u t : List UInt8) : scanFrom (u ++ t) u.length = ((scan t).1, u.length + (scan t).2) := scan_shift u t t.length 0 (by omega)
theorem getD_take_eq {s s' : List UInt8} {m : Nat} (h : s.take m = s'.take m) (i : Nat) (hi : i < m) : s.getD i 0 = s'.getD i 0 := by
  have e : ∀ x : List UInt8, x.getD i 0 = (x.take m).getD i 0 := fun x => by simp [List.getD, hi]
  rw [e s, e s', h]
theorem num_drop {s s' : List UInt8} {m k : Nat} (h : s.take m = s'.take m) (hk : k + 4 ≤ m) : num (s.drop k) = num (s'.drop k) := by
  have e : ∀ (x : List UInt8) (i : Nat), (x.drop k).getD i 0 = x.getD (k + i) 0 := fun x i => by simp [List.getD]
  simp only [num, e]
  rw [getD_take_eq h (k + 0) (by omega), getD_take_eq h (k + 1) (by omega), getD_take_eq h (k + 2) (by omega), getD_take_eq h (k + 3) (by omega)]
/-- A frame hangs on its own bytes alone. -/
theorem next_local {s s' : List UInt8} {k m : Nat} (hz : (next s k).2.2 = 0) (hm : (next s k).2.1 = m) (h : s.take m = s'.take m) (hl : m ≤ s'.length) : next s' k = next s k := by
  obtain ⟨h1, h2, h3, h4, h5, h6⟩ := next_zero hz
  have em : m = k + 8 + (num (s.drop k)).toNat := by omega
  have en : num (s'.drop k) = num (s.drop k) := (num_drop h (by omega)).symm
  have en2 : num ((s'.drop k).drop 4) = num ((s.drop k).drop 4) := by
    rw [List.drop_drop, List.drop_drop]; exact (num_drop h (by omega)).symm
  have eb : ((s'.drop k).take (8 + (num (s.drop k)).toNat)).drop 8 = ((s.drop k).take (8 + (num (s.drop k)).toNat)).drop 8 := by
    rw [List.take_drop, List.take_drop, show k + (8 + (num (s.drop k)).toNat) = m by omega, h]
  rw [h3] at h5
  rw [next_ok (l := s') (by omega) (by omega) (by rw [en]; exact h2) (by rw [en]; omega) (by rw [en, en2, eb]; exact h5)]
  rw [next_ok (l := s) (by omega) (by omega) h2 (by omega) h5, en, eb]
theorem scan_ge (s : List UInt8) : ∀ n k, s.length - k ≤ n → k ≤ s.length → k ≤ (scanFrom s k).2 ∧ (scanFrom s k).2 ≤ s.length := by
  intro n
  induction n with
  | zero =>
    intro k hk h
    by_cases hz : (next s k).2.2 = 0
    · obtain ⟨h1, _⟩ := next_zero hz; omega
    · rw [scan_end hz]; simp; exact h
  | succ n ih =>
    intro k hk h
    by_cases hz : (next s k).2.2 = 0
    · obtain ⟨h1, h2, h3, h4, h5, h6⟩ := next_zero hz
      rw [scan_more (m := k + 8 + (num (s.drop k)).toNat) hz (by rw [h4]; omega)]
      have := ih (k + 8 + (num (s.drop k)).toNat) (by omega) (by omega)
      exact ⟨by simp only; omega, this.2⟩
    · rw [scan_end hz]; simp; exact h
theorem scan_le (s : List UInt8) : (scan s).2 ≤ s.length := (scan_ge s s.length 0 (by omega) (by omega)).2
/-- The frames of the first are found, and then goes on what follows. -/
theorem scan_upto (s s' : List UInt8) (e : Nat) (h : s.take e = s'.take e) (he : e ≤ s'.length) : ∀ n k, s.length - k ≤ n → k ≤ s.length → (scanFrom s k).2 = e →
    scanFrom s' k = ((scanFrom s k).1 ++ (scanFrom s' e).1, (scanFrom s' e).2) := by
  intro n
  induction n with
  | zero =>
    intro k hk hks hek
    by_cases hz : (next s k).2.2 = 0
    · obtain ⟨h1, _⟩ := next_zero hz; omega
    · rw [scan_end hz] at hek ⊢
      subst hek
      simp
  | succ n ih =>
    intro k hk hks hek
    by_cases hz : (next s k).2.2 = 0
    · obtain ⟨h1, h2, h3, h4, h5, h6⟩ := next_zero hz
      have e4 : (next s k).2.1 = ((k + 8 + (num (s.drop k)).toNat : Nat) : Int) := by rw [h4]; omega
      have hm := scan_more hz e4
      rw [hm] at hek ⊢
      simp only at hek ⊢
      have hge := scan_ge s s.length (k + 8 + (num (s.drop k)).toNat) (by omega) (by omega)
      have hloc := next_local (s' := s') hz e4 (by
        have := congrArg (List.take (k + 8 + (num (s.drop k)).toNat)) h
        rwa [List.take_take, List.take_take, Nat.min_eq_left (by omega)] at this) (by omega)
      rw [scan_more (l := s') (m := k + 8 + (num (s.drop k)).toNat) (by rw [hloc]; exact hz) (by rw [hloc]; exact e4), ih _ (by omega) (by omega) hek, hloc]
      rfl
    · rw [scan_end hz] at hek ⊢
      subst hek
      simp
/-- FrameJoins' law. -/
theorem scan_joins (s t : List UInt8) : scan (s.take (scan s).2 ++ t) = ((scan s).1 ++ (scan t).1, (scan s).2 + (scan t).2) := by
  have hle := scan_le s
  have hl : (s.take (scan s).2).length = (scan s).2 := by rw [List.length_take]; omega
  have h1 := scan_upto s (s.take (scan s).2 ++ t) (scan s).2 (by rw [List.take_append_of_le_length (by omega), List.take_take, Nat.min_self]) (by rw [List.length_append]; omega) s.length 0 (by omega) (by omega) rfl
  have h2 := scan_behind (s.take (scan s).2) t
  rw [hl] at h2
  rw [h2] at h1
  exact h1
theorem put_length (l : List UInt8) : (put l).length = 8 + l.length := by simp [put, four_length]; omega
theorem put_head (l : List UInt8) (h : l.length ≤ 16384) (r : List UInt8) : num (put l ++ r) = BitVec.ofNat 32 l.length := by
  have := num_four (BitVec.ofNat 32 l.length)
  unfold put
  unfold four at this ⊢
  simpa [num] using this
theorem put_check (l r : List UInt8) : num ((put l ++ r).drop 4) = sum l := by
  have := num_four (sum l)
  unfold put
  unfold four at this ⊢
  simpa [num] using this
theorem put_body (l r : List UInt8) : ((put l ++ r).take (8 + l.length)).drop 8 = l := by
  have : (put l ++ r).take (8 + l.length) = put l := by
    rw [List.take_append_of_le_length (by rw [put_length]; omega), List.take_of_length_le (by rw [put_length]; omega)]
  rw [this]
  rfl
/-- A frame is found as it was put. -/
theorem next_put (l r : List UInt8) (h : l.length ≤ 16384) : next (put l ++ r) ((0 : Nat) : Int) = (l, ((8 + l.length : Nat) : Int), 0) := by
  have hn : (num ((put l ++ r).drop 0)).toNat = l.length := by
    rw [List.drop_zero, put_head l h r, BitVec.toNat_ofNat]; omega
  have hl : (put l ++ r).length = 8 + l.length + r.length := by rw [List.length_append, put_length]
  have hb : (((put l ++ r).drop 0).take (8 + (num ((put l ++ r).drop 0)).toNat)).drop 8 = l := by rw [hn, List.drop_zero]; exact put_body l r
  rw [next_ok (l := put l ++ r) (k := 0) (by omega) (by omega) (by omega) (by omega) (by rw [hb]; rw [List.drop_zero]; exact (put_check l r).symm), hb, hn]
  simp
theorem scan_put (l r : List UInt8) (h : l.length ≤ 16384) : scan (put l ++ r) = (l :: (scan r).1, (put l).length + (scan r).2) := by
  have hn := next_put l r h
  have h1 := scan_more (l := put l ++ r) (k := 0) (m := 8 + l.length) (by rw [hn]) (by rw [hn])
  have h2 := scan_behind (put l) r
  rw [put_length] at h2
  rw [scan, h1, h2, hn, put_length]
/-- A frame that is cut off is none. -/
theorem scan_cut (l : List UInt8) (h : l.length ≤ 16384) (n : Nat) (hn : n < 8 + l.length) : scan ((put l).take n) = ([], 0) := by
  have hl : ((put l).take n).length = n := by rw [List.length_take, put_length]; omega
  apply scan_end
  by_cases h8 : n < 8
  · rw [next_short (l := (put l).take n) (k := 0) (by omega) (by omega)]; decide
  · have hd : num (((put l).take n).drop 0) = num ((put l ++ []).drop 0) := num_drop (m := n) (by rw [List.append_nil, List.take_take, Nat.min_self]) (by omega)
    have hv : (num (((put l).take n).drop 0)).toNat = l.length := by
      rw [hd, List.drop_zero, put_head l h, BitVec.toNat_ofNat]; omega
    rw [next_short2 (l := (put l).take n) (k := 0) (by omega) (by omega) (by omega) (by omega)]
    decide
/-- All frames of these texts, one behind the other. -/
def puts (ts : List (List UInt8)) : List UInt8 := (ts.map put).flatten
theorem scan_puts (ts : List (List UInt8)) (h : ∀ t ∈ ts, t.length ≤ 16384) (r : List UInt8) : scan (puts ts ++ r) = (ts ++ (scan r).1, (puts ts).length + (scan r).2) := by
  induction ts with
  | nil => simp [puts]
  | cons t ts ih =>
    have e : puts (t :: ts) = put t ++ puts ts := by simp [puts]
    rw [e, List.append_assoc, scan_put _ _ (h t (by simp)), ih (fun x hx => h x (by simp [hx]))]
    simp [List.length_append]
    omega
/-- FrameTells' law: a changed text of the same length is told. -/
theorem next_changed (a l l' : List UInt8) (h : l.length ≤ 16384) (hl : l'.length = l.length) (hs : sum l' ≠ sum l) :
    next (a ++ (four (BitVec.ofNat 32 l.length) ++ (four (sum l) ++ l'))) (a.length : Int) = ([], 0, 6) := by
  have key : next (four (BitVec.ofNat 32 l.length) ++ (four (sum l) ++ l')) ((0 : Nat) : Int) = ([], 0, 6) := by
    have e1 : num ((four (BitVec.ofNat 32 l.length) ++ (four (sum l) ++ l')).drop 0) = BitVec.ofNat 32 l.length := by
      have := num_four (BitVec.ofNat 32 l.length)
      unfold four at this ⊢
      simpa [num] using this
    have e2 : num (((four (BitVec.ofNat 32 l.length) ++ (four (sum l) ++ l')).drop 0).drop 4) = sum l := by
      have := num_four (sum l)
      unfold four at this ⊢
      simpa [num] using this
    have ev : (num ((four (BitVec.ofNat 32 l.length) ++ (four (sum l) ++ l')).drop 0)).toNat = l.length := by rw [e1, BitVec.toNat_ofNat]; omega
    have elen : (four (BitVec.ofNat 32 l.length) ++ (four (sum l) ++ l')).length = 8 + l.length := by simp [four_length, hl]; omega
    have eb : (((four (BitVec.ofNat 32 l.length) ++ (four (sum l) ++ l')).drop 0).take (8 + l.length)).drop 8 = l' := by
      rw [List.drop_zero, List.take_of_length_le (by omega)]; rfl
    exact next_sum (k := 0) (by omega) (by omega) (by omega) (by omega) (by rw [ev, eb, e2]; exact hs)
  have := next_shift a (four (BitVec.ofNat 32 l.length) ++ (four (sum l) ++ l')) 0
  rw [key] at this
  simpa using this

end Go.Proofs.YtbljbdjmgogknaaGreatDoor.Frm
