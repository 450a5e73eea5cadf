/-
  The check of a text (CRC-32, bit by bit), in plain Lean: no program in sight.
  Conditions: none. What is used above: linearity, injectivity, four bytes at once.
-/
set_option linter.unusedVariables false
set_option linter.unusedSimpArgs false
namespace Go.Proofs.YtbljbdjmgogknaaGreatDoor.Crc

def poly : BitVec 32 := 0xedb88320#32
def stp (r : BitVec 32) : BitVec 32 := (r >>> 1) ^^^ (if r.getLsbD 0 then poly else 0#32)
def stps : Nat → BitVec 32 → BitVec 32
  | 0, r => r
  | k + 1, r => stp (stps k r)
def z (b : UInt8) : BitVec 32 := b.toBitVec.setWidth 32
def upd (r : BitVec 32) (b : UInt8) : BitVec 32 := stps 8 (r ^^^ z b)
def fold (r : BitVec 32) (l : List UInt8) : BitVec 32 := l.foldl upd r
def ones : BitVec 32 := 0xffffffff#32
def sum (l : List UInt8) : BitVec 32 := fold ones l ^^^ ones
/-- The four bytes of a number, the lowest first. -/
def four (n : BitVec 32) : List UInt8 := [⟨n.setWidth 8⟩, ⟨(n >>> 8).setWidth 8⟩, ⟨(n >>> 16).setWidth 8⟩, ⟨(n >>> 24).setWidth 8⟩]
/-- The number of the first four bytes. -/
def num (l : List UInt8) : BitVec 32 := z (l.getD 0 0) ^^^ z (l.getD 1 0) <<< 8 ^^^ z (l.getD 2 0) <<< 16 ^^^ z (l.getD 3 0) <<< 24

theorem stp_xor (a b : BitVec 32) : stp (a ^^^ b) = stp a ^^^ stp b := by
  unfold stp
  rw [BitVec.getLsbD_xor, BitVec.ushiftRight_xor_distrib]
  cases a.getLsbD 0 <;> cases b.getLsbD 0 <;> simp [BitVec.xor_assoc]
  · rw [BitVec.xor_comm]
  · rw [BitVec.xor_comm (b >>> 1) poly, ← BitVec.xor_assoc poly poly]; simp
theorem stps_xor (k : Nat) (a b : BitVec 32) : stps k (a ^^^ b) = stps k a ^^^ stps k b := by
  induction k with
  | zero => rfl
  | succ k ih => simp only [stps, ih, stp_xor]
theorem stps_add (j k : Nat) (r : BitVec 32) : stps (j + k) r = stps j (stps k r) := by
  induction j with
  | zero => simp [stps]
  | succ j ih => rw [Nat.succ_add]; simp only [stps, ih]
theorem stps_low (k : Nat) : ∀ r : BitVec 32, (∀ i, i < k → r.getLsbD i = false) → stps k r = r >>> k := by
  induction k with
  | zero => intro r _; simp [stps]
  | succ k ih =>
    intro r h
    simp only [stps]
    rw [ih r (fun i hi => h i (by omega))]
    unfold stp
    have : (r >>> k).getLsbD 0 = false := by simp only [BitVec.getLsbD_ushiftRight]; exact h _ (by omega)
    rw [this]
    simp [← BitVec.shiftRight_add]
theorem z_high (b : UInt8) (i : Nat) (h : 8 ≤ i) : (z b).getLsbD i = false := by
  unfold z
  rw [BitVec.getLsbD_setWidth]
  simp
  intro _
  exact BitVec.getLsbD_of_ge _ _ h
theorem stps_z (b : UInt8) (n : Nat) (hn : n ≤ 16) : stps 8 (z b <<< (8 + n)) = z b <<< n := by
  rw [stps_low]
  · apply BitVec.eq_of_getLsbD_eq
    intro i hi
    rw [BitVec.getLsbD_ushiftRight, BitVec.getLsbD_shiftLeft, BitVec.getLsbD_shiftLeft]
    have e2 : 8 + i - (8 + n) = i - n := by omega
    by_cases h1 : i < n
    · simp [h1]
    · by_cases h2 : 8 + i < 32
      · simp [h1, h2, hi, e2]
      · have e3 : (z b).getLsbD (i - n) = false := z_high b _ (by omega)
        simp [e2, e3]
  · intro i hi
    rw [BitVec.getLsbD_shiftLeft]
    have : i < 8 + n := by omega
    simp [this]
theorem stps_z0 (b : UInt8) : stps 8 (z b <<< 8) = z b := by
  have := stps_z b 0 (by omega)
  simpa using this
/-- Four bytes at once. -/
theorem fold_four (r : BitVec 32) (a b c d : UInt8) : fold r [a, b, c, d] = stps 32 (r ^^^ num [a, b, c, d]) := by
  have e : ∀ x, stps 32 x = stps 8 (stps 8 (stps 8 (stps 8 x))) := fun x => by
    have e1 := stps_add 8 24 x
    have e2 := stps_add 8 16 x
    have e3 := stps_add 8 8 x
    rw [show stps 32 x = stps (8 + 24) x from rfl, e1, show stps 24 x = stps (8 + 16) x from rfl, e2, show stps 16 x = stps (8 + 8) x from rfl, e3]
  have h8 := stps_z0
  have h16 : ∀ y, stps 8 (z y <<< 16) = z y <<< 8 := fun y => stps_z y 8 (by omega)
  have h24 : ∀ y, stps 8 (z y <<< 24) = z y <<< 16 := fun y => stps_z y 16 (by omega)
  simp only [fold, List.foldl, upd, e, num, List.getD_cons_zero, List.getD_cons_succ, stps_xor, h8, h16, h24, BitVec.xor_assoc]
theorem stp_inj {a b : BitVec 32} (h : stp a = stp b) : a = b := by
  have hp : poly.getLsbD 31 = true := by decide
  have top : ∀ x : BitVec 32, (stp x).getLsbD 31 = x.getLsbD 0 := by
    intro x
    unfold stp
    rw [BitVec.getLsbD_xor, BitVec.getLsbD_ushiftRight]
    cases hx : x.getLsbD 0 <;> simp [hp]
  have h0 : a.getLsbD 0 = b.getLsbD 0 := by rw [← top a, ← top b, h]
  have h1 : a >>> 1 = b >>> 1 := by
    unfold stp at h
    rw [h0] at h
    have := congrArg (· ^^^ (if b.getLsbD 0 = true then poly else 0#32)) h
    simpa [BitVec.xor_assoc] using this
  apply BitVec.eq_of_getLsbD_eq
  intro i hi
  cases i with
  | zero => exact h0
  | succ i =>
    have := congrArg (·.getLsbD i) h1
    simp only [BitVec.getLsbD_ushiftRight] at this
    rwa [Nat.add_comm 1 i] at this
theorem stps_inj {k : Nat} {a b : BitVec 32} (h : stps k a = stps k b) : a = b := by
  induction k with
  | zero => exact h
  | succ k ih => exact ih (stp_inj h)
theorem upd_inj {a b : BitVec 32} {c : UInt8} (h : upd a c = upd b c) : a = b := by
  have := stps_inj h
  have := congrArg (· ^^^ z c) this
  simpa [BitVec.xor_assoc] using this
theorem fold_inj {l : List UInt8} : ∀ {a b : BitVec 32}, fold a l = fold b l → a = b := by
  induction l with
  | nil => intro a b h; exact h
  | cons c l ih => intro a b h; exact upd_inj (ih h)
theorem fold_append (r : BitVec 32) (a b : List UInt8) : fold r (a ++ b) = fold (fold r a) b := List.foldl_append ..
theorem xor_cancel {a b c : BitVec 32} (h : c ^^^ a = c ^^^ b) : a = b := by
  have := congrArg (c ^^^ ·) h
  simpa [← BitVec.xor_assoc] using this
theorem num_getLsbD (a b c d : UInt8) (i : Nat) : (num [a, b, c, d]).getLsbD i =
    (if i < 8 then a.toBitVec.getLsbD i else if i < 16 then b.toBitVec.getLsbD (i - 8) else if i < 24 then c.toBitVec.getLsbD (i - 16) else if i < 32 then d.toBitVec.getLsbD (i - 24) else false) := by
  have hz : ∀ (x : UInt8) (j : Nat), (z x).getLsbD j = (decide (j < 8) && x.toBitVec.getLsbD j) := by
    intro x j
    by_cases h : j < 8
    · unfold z; rw [BitVec.getLsbD_setWidth]; simp [h]; omega
    · simp [h, z_high x j (by omega)]
  simp only [num, List.getD_cons_zero, List.getD_cons_succ, BitVec.getLsbD_xor, BitVec.getLsbD_shiftLeft, hz]
  by_cases h1 : i < 8
  · simp [h1, show i < 16 by omega, show i < 24 by omega]
  · by_cases h2 : i < 16
    · simp [h1, h2, show i < 24 by omega, show i < 32 by omega, show i - 8 < 8 by omega]
    · by_cases h3 : i < 24
      · simp [h1, h2, h3, show i < 32 by omega, show i - 16 < 8 by omega, show ¬ i - 8 < 8 by omega]
      · by_cases h4 : i < 32
        · simp [h1, h2, h3, h4, show i - 24 < 8 by omega, show ¬ i - 8 < 8 by omega, show ¬ i - 16 < 8 by omega]
        · simp [h1, h2, h3, h4]
theorem num_inj {a b c d a' b' c' d' : UInt8} (h : num [a, b, c, d] = num [a', b', c', d']) : [a, b, c, d] = [a', b', c', d'] := by
  have g : ∀ i, (num [a, b, c, d]).getLsbD i = (num [a', b', c', d']).getLsbD i := fun i => by rw [h]
  simp only [num_getLsbD] at g
  have e : ∀ {x y : UInt8}, (∀ j, j < 8 → x.toBitVec.getLsbD j = y.toBitVec.getLsbD j) → x = y := by
    intro x y hxy
    exact UInt8.eq_of_toBitVec_eq (BitVec.eq_of_getLsbD_eq (fun i hi => hxy i hi))
  have ha : a = a' := e fun j hj => by have := g j; simpa [hj] using this
  have hb : b = b' := e fun j hj => by
    have := g (j + 8); simpa [show ¬ j + 8 < 8 by omega, show j + 8 < 16 by omega] using this
  have hc : c = c' := e fun j hj => by
    have := g (j + 16); simpa [show ¬ j + 16 < 8 by omega, show ¬ j + 16 < 16 by omega, show j + 16 < 24 by omega] using this
  have hd : d = d' := e fun j hj => by
    have := g (j + 24); simpa [show ¬ j + 24 < 8 by omega, show ¬ j + 24 < 16 by omega, show ¬ j + 24 < 24 by omega, show j + 24 < 32 by omega] using this
  rw [ha, hb, hc, hd]
/-- A change of four bytes that stand together is told by the check. -/
theorem sum_tells (x y : List UInt8) {a b c d a' b' c' d' : UInt8} (h : sum (x ++ [a, b, c, d] ++ y) = sum (x ++ [a', b', c', d'] ++ y)) : [a, b, c, d] = [a', b', c', d'] := by
  unfold sum at h
  have h1 : fold ones (x ++ [a, b, c, d] ++ y) = fold ones (x ++ [a', b', c', d'] ++ y) := by
    have := congrArg (· ^^^ ones) h
    simpa [BitVec.xor_assoc] using this
  rw [fold_append, fold_append, fold_append, fold_append] at h1
  have h2 := fold_inj h1
  rw [fold_four, fold_four] at h2
  exact num_inj (xor_cancel (stps_inj h2))
theorem num_four (n : BitVec 32) : num (four n) = n := by
  apply BitVec.eq_of_getLsbD_eq
  intro i hi
  unfold four
  rw [num_getLsbD]
  simp only [BitVec.getLsbD_setWidth, BitVec.getLsbD_ushiftRight]
  by_cases h1 : i < 8
  · simp [h1]
  · by_cases h2 : i < 16
    · simp [h1, h2, show 8 + (i - 8) = i by omega]; omega
    · by_cases h3 : i < 24
      · simp [h1, h2, h3, show 16 + (i - 16) = i by omega]; omega
      · simp [h1, h2, h3, hi, show 24 + (i - 24) = i by omega]; omega
/-- A text, and behind it its check, have together one and the same check. -/
theorem sum_rest (l : List UInt8) : sum (l ++ four (sum l)) = 0x2144df1c#32 := by
  have h : fold ones (l ++ four (sum l)) = stps 32 (fold ones l ^^^ sum l) := by
    rw [fold_append]
    have := fold_four (fold ones l) ⟨(sum l).setWidth 8⟩ ⟨((sum l) >>> 8).setWidth 8⟩ ⟨((sum l) >>> 16).setWidth 8⟩ ⟨((sum l) >>> 24).setWidth 8⟩
    have e : num (four (sum l)) = sum l := num_four _
    unfold four at e
    rw [e] at this
    exact this
  have h2 : fold ones l ^^^ sum l = ones := by
    unfold sum
    rw [← BitVec.xor_assoc]; simp
  rw [sum, h, h2]
  decide +kernel
theorem four_length (n : BitVec 32) : (four n).length = 4 := rfl

end Go.Proofs.YtbljbdjmgogknaaGreatDoor.Crc
