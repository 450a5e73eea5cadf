/-
  Share, plainly: who owns what. No program in sight.
  Conditions: at most four partitions and four members.
-/
import Derived.Lib.SlTrimSet
import GoSem.Claim
set_option linter.unusedVariables false
set_option linter.unusedSimpArgs false
namespace Go.Proofs.YtkjbhkillkbcgaaDoor.Sh

abbrev Nm := List UInt8
def letters : Nm := [97, 98, 99, 100, 101, 102, 103, 104, 105, 106, 107, 108, 109, 110, 111, 112, 113, 114, 115, 116, 117, 118, 119, 120, 121, 122, 48, 49, 50, 51, 52, 53, 54, 55, 56, 57]
/-- Whether a text can be a name. -/
def isName (s : Nm) : Bool := !s.isEmpty && decide (s.length ≤ 8) && (Lib.trimS s letters).isEmpty
/-- Names that can be, each above the one ahead of it. -/
def riseFrom (p : Option Nm) : List Nm → Bool
  | [] => true
  | x :: r => isName x && (match p with | none => true | some y => Op.bytesLess y x) && riseFrom (some x) r
def good (ms : List Nm) : Bool := riseFrom none ms && decide (ms.length ≤ 4)
/-- How many the i-th of m has of n. -/
def cnt (n m i : Nat) : Nat := n / m + if i < n % m then 1 else 0
def sumTo (n m : Nat) : Nat → Nat
  | 0 => 0
  | i + 1 => sumTo n m i + cnt n m i
/-- The owners of the partitions 1, 2 .. -/
def ownFrom (n m : Nat) : Nat → List Nm → List Nm
  | _, [] => []
  | i, a :: r => List.replicate (cnt n m i) a ++ ownFrom n m (i + 1) r
def fits (parts : Int) (ms : List Nm) : Bool := good ms && !ms.isEmpty && decide (0 ≤ parts) && decide (parts ≤ 4)
def ass (parts : Int) (ms : List Nm) : List Nm := if fits parts ms then ownFrom (parts - 1).toNat ms.length 0 ms else []
/-- The places of a name, from k on. -/
def partsOf (a : Nm) : Nat → List Nm → List Nat
  | _, [] => []
  | k, x :: r => if x = a then k :: partsOf a (k + 1) r else partsOf a (k + 1) r

theorem partsOf_append (a : Nm) (l r : List Nm) (k : Nat) : partsOf a k (l ++ r) = partsOf a k l ++ partsOf a (k + l.length) r := by
  induction l generalizing k with
  | nil => simp [partsOf]
  | cons x l ih =>
    simp only [List.cons_append, partsOf, List.length_cons]
    rw [ih, show k + 1 + l.length = k + (l.length + 1) by omega]
    split <;> simp
theorem partsOf_replicate (a x : Nm) (c k : Nat) : partsOf a k (List.replicate c x) = if x = a then List.range' k c else [] := by
  induction c generalizing k with
  | zero => simp [partsOf]
  | succ c ih =>
    rw [List.replicate_succ, partsOf, ih]
    split <;> simp [List.range'_succ]
theorem own_take (n m : Nat) (ms : List Nm) (i k : Nat) (h : k < ms.length) : ownFrom n m i (ms.take (k + 1)) = ownFrom n m i (ms.take k) ++ List.replicate (cnt n m (i + k)) (ms.getD k []) := by
  induction ms generalizing i k with
  | nil => simp at h
  | cons a r ih =>
    cases k with
    | zero => simp [ownFrom]
    | succ k =>
      simp only [List.take_succ_cons, ownFrom, List.getD_cons_succ]
      rw [ih (i + 1) k (by simpa using h), show i + 1 + k = i + (k + 1) by omega, List.append_assoc]
theorem own_length (n m : Nat) (ms : List Nm) (k : Nat) (h : k ≤ ms.length) : (ownFrom n m 0 (ms.take k)).length = sumTo n m k := by
  induction k with
  | zero => rfl
  | succ k ih =>
    rw [own_take n m ms 0 k h, List.length_append, ih (by omega), List.length_replicate, sumTo, Nat.zero_add]
theorem partsOf_absent {a : Nm} (n m : Nat) {ms : List Nm} (h : a ∉ ms) (i k : Nat) : partsOf a k (ownFrom n m i ms) = [] := by
  induction ms generalizing i k with
  | nil => rfl
  | cons x r ih =>
    rw [ownFrom, partsOf_append, partsOf_replicate, if_neg (fun e => h (by simp [e])), ih (fun e => h (by simp [e]))]
    rfl
theorem own_split (n m : Nat) (ms : List Nm) (i k : Nat) (h : k ≤ ms.length) : ownFrom n m i ms = ownFrom n m i (ms.take k) ++ ownFrom n m (i + k) (ms.drop k) := by
  induction ms generalizing i k with
  | nil =>
    have : k = 0 := by simpa using h
    subst this
    rfl
  | cons a r ih =>
    cases k with
    | zero => simp [ownFrom]
    | succ k =>
      simp only [List.take_succ_cons, ownFrom, List.drop_succ_cons]
      rw [ih (i + 1) k (by simpa using h), show i + 1 + k = i + (k + 1) by omega, List.append_assoc]
/-- A member's are one behind the other. -/
theorem partsOf_at {n m : Nat} {ms : List Nm} (hd : ms.Nodup) {k : Nat} (h : k < ms.length) : partsOf (ms.getD k []) 1 (ownFrom n m 0 ms) = List.range' (1 + sumTo n m k) (cnt n m k) := by
  have hk : ms.getD k [] = ms[k] := by simp [List.getD, h]
  rw [own_split n m ms 0 k (by omega), partsOf_append, own_length n m ms k (by omega)]
  have h1 : ms.getD k [] ∉ ms.take k := by
    rw [hk]
    intro hm
    obtain ⟨j, hj, e⟩ := List.getElem_of_mem hm
    rw [List.length_take] at hj
    rw [List.getElem_take] at e
    have := (List.getElem_inj hd).1 e
    omega
  have hdr : ms.drop k = ms.getD k [] :: ms.drop (k + 1) := by rw [hk]; exact List.drop_eq_getElem_cons h
  have h2 : ms.getD k [] ∉ ms.drop (k + 1) := by
    rw [hk]
    intro hm
    obtain ⟨j, hj, e⟩ := List.getElem_of_mem hm
    rw [List.length_drop] at hj
    rw [List.getElem_drop] at e
    have := (List.getElem_inj hd).1 e
    omega
  rw [partsOf_absent n m h1, hdr, ownFrom, partsOf_append, partsOf_replicate, if_pos rfl, partsOf_absent n m h2]
  simp
theorem tab1 : ∀ n m : Fin 5, 0 < m.1 → n.1 < 4 → sumTo n.1 m.1 m.1 = n.1 ∧ cnt n.1 m.1 0 ≤ cnt n.1 m.1 (m.1 - 1) + 1 := by decide
theorem tab2 : ∀ n m i : Fin 5, 0 < m.1 → cnt n.1 m.1 (i.1 + 1) ≤ cnt n.1 m.1 i.1 := by decide
theorem tab3 : ∀ n m i : Fin 5, 0 < m.1 → cnt n.1 (m.1 + 1) (i.1 + 1) ≤ cnt n.1 m.1 i.1 ∧ cnt n.1 (m.1 + 1) i.1 ≤ cnt n.1 m.1 i.1 := by decide
theorem tab4 : ∀ n m i : Fin 5, 0 < m.1 → cnt n.1 m.1 i.1 ≤ 4 ∧ sumTo n.1 m.1 i.1 ≤ 16 := by decide
theorem own_all {n : Nat} {ms : List Nm} (hn : n < 4) (h0 : ms ≠ []) (h4 : ms.length ≤ 4) : (ownFrom n ms.length 0 ms).length = n := by
  have h := own_length n ms.length ms ms.length (Nat.le_refl _)
  rw [List.take_length] at h
  have hp : 0 < ms.length := List.length_pos_iff.2 h0
  rw [h]
  exact (tab1 ⟨n, by omega⟩ ⟨ms.length, by omega⟩ hp hn).1
theorem own_get {n m : Nat} {ms : List Nm} {k j : Nat} (hk : k < ms.length) (hj : j < cnt n m k) : (ownFrom n m 0 ms).getD (sumTo n m k + j) [] = ms.getD k [] := by
  have hkk : ms.getD k [] = ms[k] := by simp [List.getD, hk]
  have hdr : ms.drop k = ms.getD k [] :: ms.drop (k + 1) := by rw [hkk]; exact List.drop_eq_getElem_cons hk
  have hl := own_length n m ms k (by omega)
  rw [own_split n m ms 0 k (by omega), hdr, ownFrom, List.getD_eq_getElem?_getD, List.getElem?_append_right (by omega), hl, Nat.add_sub_cancel_left, Nat.zero_add,
    List.getElem?_append_left (by rw [List.length_replicate]; exact hj), List.getElem?_replicate, if_pos hj]
  rfl
theorem less_irrefl (a : Nm) : Op.bytesLess a a = false := by
  induction a with
  | nil => rfl
  | cons x a ih => simp [Op.bytesLess, ih]
theorem less_trans {a b c : Nm} (h : Op.bytesLess a b = true) (k : Op.bytesLess b c = true) : Op.bytesLess a c = true := by
  induction a generalizing b c with
  | nil =>
    cases c with
    | nil => cases b <;> simp [Op.bytesLess] at k
    | cons z c => rfl
  | cons x a ih =>
    cases b with
    | nil => simp [Op.bytesLess] at h
    | cons y b =>
      cases c with
      | nil => simp [Op.bytesLess] at k
      | cons z c =>
        simp only [Op.bytesLess, Bool.or_eq_true, decide_eq_true_eq, Bool.and_eq_true, beq_iff_eq] at h k ⊢
        rcases h with h | ⟨rfl, h⟩
        · rcases k with k | ⟨rfl, k⟩
          · exact .inl (UInt8.lt_trans h k)
          · exact .inl h
        · rcases k with k | ⟨rfl, k⟩
          · exact .inl k
          · exact .inr ⟨rfl, ih h k⟩
theorem less_ne {a b : Nm} (h : Op.bytesLess a b = true) : a ≠ b := by
  rintro rfl
  rw [less_irrefl] at h
  cases h
theorem rise_above {p : Option Nm} {l : List Nm} (h : riseFrom p l = true) : ∀ x ∈ l, ∀ y, p = some y → Op.bytesLess y x = true := by
  induction l generalizing p with
  | nil => intro x hx; cases hx
  | cons z r ih =>
    intro x hx y hp
    subst hp
    simp only [riseFrom, Bool.and_eq_true] at h
    obtain ⟨⟨_, h2⟩, h3⟩ := h
    rcases List.mem_cons.1 hx with rfl | hx
    · exact h2
    · exact less_trans h2 (ih h3 x hx z rfl)
theorem rise_nodup {p : Option Nm} {l : List Nm} (h : riseFrom p l = true) : l.Nodup := by
  induction l generalizing p with
  | nil => exact List.nodup_nil
  | cons z r ih =>
    simp only [riseFrom, Bool.and_eq_true] at h
    obtain ⟨_, h3⟩ := h
    exact List.nodup_cons.2 ⟨fun hz => less_ne (rise_above h3 z hz z rfl) rfl, ih h3⟩
theorem good_nodup {ms : List Nm} (h : good ms = true) : ms.Nodup := by
  simp only [good, Bool.and_eq_true] at h
  exact rise_nodup h.1
end Go.Proofs.YtkjbhkillkbcgaaDoor.Sh
