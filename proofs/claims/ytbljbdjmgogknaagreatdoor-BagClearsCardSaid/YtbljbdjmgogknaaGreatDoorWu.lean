/-
  Wire: the small functions: whether numbers are from low to high.
  Conditions: none but the model's longest length.
-/
import Derived.Test.YtbljbdjmgogknaaGreatDoorWs
set_option linter.unusedVariables false
set_option linter.unusedSimpArgs false
namespace Go.Proofs.YtbljbdjmgogknaaGreatDoor
open Go.RowKit

theorem wwithin_any (n low high : Int) (w : World) : Calls Tryz.prog 68 #[.int .i64 n, .int .i64 low, .int .i64 high] w fun e w' => e = .returned (.bool (Wi.inB n low high)) ∧ w' = w := by
  unfold Wi.inB
  by_cases h0 : low ≤ n
  · by_cases h1 : n ≤ high
    · rw [show (decide (low ≤ n) && decide (n ≤ high)) = true by simp [h0, h1]]
      go_enter Tryz.func68, Tryz.ntmps68
      go_wp2
      go_ret
      exact ⟨by simp [h0, h1] <;> omega, rfl⟩
    · rw [show (decide (low ≤ n) && decide (n ≤ high)) = false by simp [h0, h1]]
      go_enter Tryz.func68, Tryz.ntmps68
      go_wp2
      go_ret
      exact ⟨by simp [h0, h1] <;> omega, rfl⟩
  · rw [show (decide (low ≤ n) && decide (n ≤ high)) = false by simp [h0]]
    go_enter Tryz.func68, Tryz.ntmps68
    go_wp2
    go_ret
    exact ⟨rfl, rfl⟩
theorem isUnit_any (n : Int) (w : World) : Calls Tryz.prog 69 #[.int .i64 n] w fun e w' => e = .returned (.bool (Wi.unitB n)) ∧ w' = w := by
  unfold Wi.unitB
  have H1 := Lib.hid (wwithin_any n 0 5 w)
  have H2 := Lib.hid (wwithin_any n 11 14 w)
  generalize Wi.inB n 0 5 = b1 at *
  generalize Wi.inB n 11 14 = b2 at *
  go_enter Tryz.func69, Tryz.ntmps69
  go_wp2_with fail
  refine H1.out.mono ?_
  rintro e w1 ⟨rfl, rfl⟩
  cases b1 with
  | true =>
    go_wp2
    go_ret
    exact ⟨rfl, rfl⟩
  | false =>
    go_wp2_with fail
    refine H2.out.mono ?_
    rintro e w2 ⟨rfl, rfl⟩
    go_wp2
    go_ret
    exact ⟨rfl, rfl⟩
/-- The first of a row that is so. -/
def idxP {α : Type} (p : α → Bool) : Nat → List α → Int
  | _, [] => -1
  | k, x :: r => if p x then (k : Int) else idxP p (k + 1) r
theorem idxP_any {α : Type} (p : α → Bool) : ∀ (l : List α) (k : Nat), decide (0 ≤ idxP p k l) = l.any p
  | [], k => by simp [idxP]
  | x :: r, k => by
    unfold idxP
    cases h : p x with
    | true => simp [h]
    | false => simp only [Bool.false_eq_true, if_false, List.any_cons, h, Bool.false_or]; exact idxP_any p r (k + 1)
theorem idxP_step {α : Type} {p : α → Bool} {l : List α} {k : Nat} {x : α} (hx : l[k]? = some x) : idxP p k (l.drop k) = if p x then (k : Int) else idxP p (k + 1) (l.drop (k + 1)) := by
  obtain ⟨hk, rfl⟩ := List.getElem?_eq_some_iff.1 hx
  rw [List.drop_eq_getElem_cons hk]
  rfl
theorem are1_any (n lo hi : Int) (pl ph : Nat) (w : World) (h1 : Cl w pl [.int .i64 lo] 3) (h2 : Cl w ph [.int .i64 hi] 3) :
    Calls Tryz.prog 100 #[.int .i64 n, .pointer (some ⟨pl, 0, none⟩), .pointer (some ⟨ph, 0, none⟩)] w fun e w' => e = .returned (.bool (!Wi.inB n lo hi)) ∧ w' = w := by
  have H := Lib.hid (wwithin_any n lo hi w)
  have a0 := h1.cell 0
  have b0 := h2.cell 0
  simp only [List.getElem?_cons_zero, List.getElem?_cons_succ] at a0 b0
  generalize Wi.inB n lo hi = b1 at *
  clear h1 h2
  go_enter Tryz.func100, Tryz.ntmps100
  go_wp2_with fail
  refine H.out.mono ?_
  rintro e w1 ⟨rfl, rfl⟩
  cases b1 <;>
  · go_wp2
    go_ret
    exact ⟨rfl, rfl⟩
set_option maxHeartbeats 800000 in
theorem idxInts_any (l : List Int) (hl : l.length ≤ maxLen) (v : Value) (lo hi : Int) (pl ph : Nat) (w : World) (h : Ints w v l) (h1 : Cl w pl [.int .i64 lo] 3) (h2 : Cl w ph [.int .i64 hi] 3) :
    Calls Tryz.prog 124 #[v, .func (.func 100) #[] #[.pointer (some ⟨pl, 0, none⟩), .pointer (some ⟨ph, 0, none⟩)]] w fun e w' => e = .returned (.int .i64 (idxP (fun n => !Wi.inB n lo hi) 0 l)) ∧ w' = w := by
  have HZ := Lib.hid h
  have H1 := Lib.hid h1
  have H2 := Lib.hid h2
  obtain ⟨a, cap, rfl⟩ := h.form
  unfold maxLen at hl
  clear h h1 h2
  go_enter Tryz.func124, Tryz.ntmps124
  go_wp2
  go_loop [8] (fun i => ∃ k : Nat, i = .int .i64 k ∧ k ≤ l.length ∧ idxP (fun n => !Wi.inB n lo hi) 0 l = idxP (fun n => !Wi.inB n lo hi) k (l.drop k)) (fun i => l.length - (intOf i).toNat)
  case atStart => exact ⟨0, rfl, by omega, rfl⟩
  case round =>
    obtain ⟨k, rfl, hk, hq⟩ := hrel
    have HQ := Lib.hid hq
    clear hq
    by_cases hlt : k < l.length
    · obtain ⟨x, hx⟩ : ∃ x, l[k]? = some x := ⟨l[k], by simp [hlt]⟩
      have HS := Lib.hid (idxP_step (p := fun n => !Wi.inB n lo hi) hx)
      have HN := Lib.hid (are1_any x lo hi pl ph w H1.out H2.out)
      obtain ⟨g, off, cap', he, hg, p0⟩ := HZ.out.get (Below.refl _ _) hx
      injection he with he1 he2 he3
      subst he1 he3
      clear he2
      cases hb : Wi.inB x lo hi with
      | true =>
        rw [hb] at HN
        have HX : Hid (idxP (fun n => !Wi.inB n lo hi) 0 l = idxP (fun n => !Wi.inB n lo hi) (k + 1) (l.drop (k + 1))) := by rw [Hid, HQ.out, HS.out, hb]; rfl
        clear hb HS HQ
        go_wp2_with fail
        refine HN.out.mono ?_
        rintro e w5 ⟨rfl, rfl⟩
        go_wp2
        go_round
        case rel => exact ⟨k + 1, by go_num, by omega, HX.out⟩
        case measure => simp [intOf]; omega
      | false =>
        rw [hb] at HN
        have HX : Hid (idxP (fun n => !Wi.inB n lo hi) 0 l = (k : Int)) := by rw [Hid, HQ.out, HS.out, hb]; rfl
        clear hb HS HQ
        go_wp2_with fail
        refine HN.out.mono ?_
        rintro e w5 ⟨rfl, rfl⟩
        go_wp2
        go_ret
        exact ⟨by rw [HX.out]; rfl, rfl⟩
    · obtain rfl : k = l.length := by omega
      have HX : Hid (idxP (fun n => !Wi.inB n lo hi) 0 l = -1) := by rw [Hid, HQ.out, List.drop_length]; rfl
      go_wp2
      go_ret
      exact ⟨by rw [HX.out]; rfl, rfl⟩
theorem any_not (low high : Int) (l : List Int) : (l.any fun n => !Wi.inB n low high) = !Wi.areB low high l := by
  unfold Wi.areB
  induction l with
  | nil => rfl
  | cons x r ih => rw [List.any_cons, List.all_cons, ih]; cases Wi.inB x low high <;> simp
theorem containsInts_any (l : List Int) (hl : l.length ≤ maxLen) (v : Value) (lo hi : Int) (pl ph : Nat) (w : World) (h : Ints w v l) (h1 : Cl w pl [.int .i64 lo] 3) (h2 : Cl w ph [.int .i64 hi] 3) :
    Calls Tryz.prog 99 #[v, .func (.func 100) #[] #[.pointer (some ⟨pl, 0, none⟩), .pointer (some ⟨ph, 0, none⟩)]] w fun e w' => e = .returned (.bool (!Wi.areB lo hi l)) ∧ w' = w := by
  have HI := Lib.hid (idxInts_any l hl v lo hi pl ph w h h1 h2)
  have hd := idxP_any (fun n => !Wi.inB n lo hi) l 0
  rw [any_not] at hd
  generalize idxP (fun n => !Wi.inB n lo hi) 0 l = r at *
  obtain ⟨a, cap, rfl⟩ := h.form
  have HD := Lib.hid hd
  clear h h1 h2 hl hd
  cases hb : Wi.areB lo hi l with
  | true =>
    rw [hb] at HD
    have hr : decide (0 ≤ r) = false := HD.out
    have hr2 : r < 0 := by simpa using hr
    go_enter Tryz.func99, Tryz.ntmps99
    go_wp2_with fail
    refine HI.out.mono ?_
    rintro e w1 ⟨rfl, rfl⟩
    go_wp2
    go_ret
    exact ⟨by simp [hr2], rfl⟩
  | false =>
    rw [hb] at HD
    have hr : decide (0 ≤ r) = true := HD.out
    have hr2 : 0 ≤ r := by simpa using hr
    go_enter Tryz.func99, Tryz.ntmps99
    go_wp2_with fail
    refine HI.out.mono ?_
    rintro e w1 ⟨rfl, rfl⟩
    go_wp2
    go_ret
    exact ⟨by simp [hr2], rfl⟩
theorem are_sz (l : List Int) (hl : l.length ≤ maxLen) (v : Value) (lo hi : Int) (w : World) (h : Ints w v l) :
    Calls Tryz.prog 70 #[.int .i64 lo, .int .i64 hi, v] w fun e w' => e = .returned (.bool (Wi.areB lo hi l)) ∧ Below w.heap.size w w' ∧ w'.heap.size = w.heap.size + 2 := by
  have C1 : Hid (Cl (w.alloc (.cells #[.int .i64 lo] 3)) w.heap.size [.int .i64 lo] 3) := Cl.new w _ _
  have C2 : Hid (Cl ((w.alloc (.cells #[.int .i64 lo] 3)).alloc (.cells #[.int .i64 hi] 3)) (w.heap.size + 1) [.int .i64 hi] 3) := by
    have h := Cl.new (w.alloc (.cells #[.int .i64 lo] 3)) [.int .i64 hi] 3
    rw [World.size_alloc] at h
    exact h
  have C3 : Hid (Cl ((w.alloc (.cells #[.int .i64 lo] 3)).alloc (.cells #[.int .i64 hi] 3)) w.heap.size [.int .i64 lo] 3) := C1.out.alloc _
  have B2 : Hid (Below w.heap.size w ((w.alloc (.cells #[.int .i64 lo] 3)).alloc (.cells #[.int .i64 hi] 3))) := ((Below.refl _ _).alloc (Nat.le_refl _) _).alloc (by simp) _
  have HC := Lib.hid (containsInts_any l hl v lo hi w.heap.size (w.heap.size + 1) _ (h.kept B2.out) C3.out C2.out)
  obtain ⟨a, cap, rfl⟩ := h.form
  generalize Wi.areB lo hi l = b at *
  clear h hl C1 C2 C3
  go_enter Tryz.func70, Tryz.ntmps70
  go_wp2_with fail
  refine HC.out.mono ?_
  rintro e w3 ⟨rfl, rfl⟩
  cases b <;>
  · go_wp2
    go_ret
    exact ⟨rfl, B2.out, by simp⟩
theorem are_any (l : List Int) (hl : l.length ≤ maxLen) (v : Value) (lo hi : Int) (w : World) (h : Ints w v l) :
    Calls Tryz.prog 70 #[.int .i64 lo, .int .i64 hi, v] w fun e w' => e = .returned (.bool (Wi.areB lo hi l)) ∧ Below w.heap.size w w' :=
  (are_sz l hl v lo hi w h).mono fun e w' ⟨he, hb, _⟩ => ⟨he, hb⟩

end Go.Proofs.YtbljbdjmgogknaaGreatDoor
