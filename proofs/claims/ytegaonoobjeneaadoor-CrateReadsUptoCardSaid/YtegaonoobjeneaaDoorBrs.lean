/-
  The document's reader: what it holds; its small functions, walked.
  Conditions: the text has at most 2^32 bytes.
-/
import Derived.Test.YtegaonoobjeneaaDoorBrr
import Derived.Test.YtegaonoobjeneaaDoorBna
import Derived.Deep.QuietTactic
import Derived.BigQuiet
set_option linter.unusedVariables false
set_option linter.unusedSimpArgs false
namespace Go.Proofs.YtegaonoobjeneaaDoor
open Go.RowKit

/-- The cells of the document's reader. -/
def RR (w : World) (p : Nat) (l : List UInt8) (k : Int) (b : Bool) : Prop := w.heap[p]? = some (.cells #[.string ⟨l.toArray⟩, .int .i64 k, .bool b] 64 (0, 0))
theorem RR.cells {w : World} {p : Nat} {l : List UInt8} {k : Int} {b : Bool} (h : RR w p l k b) : w.cell? ⟨p, 0, none⟩ = some (.string ⟨l.toArray⟩) ∧ w.cell? ⟨p, 1, none⟩ = some (.int .i64 k) ∧ w.cell? ⟨p, 2, none⟩ = some (.bool b) := by
  unfold RR at h
  simp [World.cell?, h]
theorem RR.free {w : World} {p : Nat} {l : List UInt8} {k : Int} {b : Bool} (h : RR w p l k b) : w.frozen? ⟨p, 1, none⟩ = false ∧ w.frozen? ⟨p, 2, none⟩ = false := by
  unfold RR at h
  simp [World.frozen?, h]
theorem RR.lt {w : World} {p : Nat} {l : List UInt8} {k : Int} {b : Bool} (h : RR w p l k b) : p < w.heap.size := by
  unfold RR at h
  obtain ⟨h1, _⟩ := Array.getElem?_eq_some_iff.1 h
  exact h1
theorem RR.setAt {w : World} {p : Nat} {l : List UInt8} {k : Int} {b : Bool} (h : RR w p l k b) (k' : Int) : RR (w.setCell ⟨p, 1, none⟩ (.int .i64 k')) p l k' b := by
  unfold RR at h ⊢
  simp [World.setCell, Array.getElem?_modify, h]
theorem RR.setBad {w : World} {p : Nat} {l : List UInt8} {k : Int} {b : Bool} (h : RR w p l k b) (b' : Bool) : RR (w.setCell ⟨p, 2, none⟩ (.bool b')) p l k b' := by
  unfold RR at h ⊢
  simp [World.setCell, Array.getElem?_modify, h]
/-- The document's reader stands where a reader stands that has q left. -/
def RU (w : World) (p : Nat) (l : List UInt8) (q : Bd.St) : Prop := ∃ k : Nat, k ≤ l.length ∧ RR w p l k q.2 ∧ (q.2 = false → q.1 = l.drop k)
def RUs (w : World) (p : Nat) (l : List UInt8) (q : Bd.St) (w' : World) : Prop := RU w' p l q ∧ Keeps (fun k => k = p) w w'
theorem RU.keep {S : Nat → Prop} {w w' : World} {p : Nat} {l : List UInt8} {q : Bd.St} (h : RU w p l q) (kp : Keeps S w w') (hs : ¬ S p) : RU w' p l q := by
  obtain ⟨k, hk, hr, hq⟩ := h
  exact ⟨k, hk, (kp.block p hr.lt hs).trans hr, hq⟩
theorem RU.below {w w' : World} {p : Nat} {l : List UInt8} {q : Bd.St} (h : RU w p l q) (hb : Below w.heap.size w w') : RU w' p l q := by
  obtain ⟨k, hk, hr, hq⟩ := h
  exact ⟨k, hk, (hb.block p hr.lt).trans hr, hq⟩
theorem RU.lt {w : World} {p : Nat} {l : List UInt8} {q : Bd.St} (h : RU w p l q) : p < w.heap.size := by
  obtain ⟨k, hk, hr, hq⟩ := h
  exact hr.lt
theorem RU.new (l : List UInt8) (w : World) : RU (w.alloc (.cells #[.string ⟨l.toArray⟩, .int .i64 0, .bool false] 64)) w.heap.size l (l, false) := by
  refine ⟨0, Nat.zero_le _, ?_, fun _ => rfl⟩
  unfold RR
  rw [heap_alloc_new]
  rfl
theorem drop_getD {l : List UInt8} {k : Nat} (h : k < l.length) : (l.drop k).head? = some (l.getD k 0) := by
  rw [List.head?_drop]
  simp [List.getD, h]
theorem done_drop (l : List UInt8) (k : Nat) (hk : k ≤ l.length) : Bd.sDone (l.drop k, false) = if k < l.length then 3 else 0 := by
  by_cases h : k < l.length
  · rw [if_pos h]
    have : l.drop k ≠ [] := fun e => by rw [List.drop_eq_nil_iff] at e; omega
    cases hd : l.drop k with
    | nil => exact absurd hd this
    | cons c r => rfl
  · rw [if_neg h, show k = l.length by omega, List.drop_length]
    rfl
theorem more_drop (l : List UInt8) (k : Nat) (h : k < l.length) : Bd.sMore (l.drop k, false) = !decide ((l.getD k 0).toNat = 101) := by
  have hh := drop_getD h
  cases hd : l.drop k with
  | nil => rw [hd] at hh; cases hh
  | cons c r =>
    rw [hd] at hh
    simp only [List.head?_cons, Option.some.injEq] at hh
    subst hh
    simp only [Bd.sMore, List.isEmpty_cons, List.head?_cons, Bool.not_false, Bool.true_and]
    congr 1
    rw [Bool.eq_iff_iff]
    simp only [beq_iff_eq, Option.some.injEq, decide_eq_true_eq]
    exact ⟨fun e => by rw [e]; rfl, fun e => UInt8.toNat_inj.1 e⟩
theorem sign_drop (c : UInt8) (l : List UInt8) (k : Nat) (hk : k ≤ l.length) : Bd.sSign c (l.drop k, false) = if k < l.length ∧ (l.getD k 0).toNat = c.toNat then (l.drop (k + 1), false) else (l.drop k, true) := by
  by_cases h : k < l.length ∧ (l.getD k 0).toNat = c.toNat
  · rw [if_pos h]
    have hc : l.getD k 0 = c := UInt8.toNat_inj.1 h.2
    have hh := drop_getD h.1
    rw [hc] at hh
    rw [Bd.drop_head hh]
    exact Bd.sSign_of c _
  · rw [if_neg h]
    refine Bd.sSign_no fun e => h ?_
    have hlt : k < l.length := by
      rcases Nat.lt_or_ge k l.length with h1 | h1
      · exact h1
      · rw [List.drop_eq_nil_iff.2 h1] at e; cases e
    rw [drop_getD hlt] at e
    exact ⟨hlt, by rw [Option.some.inj e]⟩

theorem refdone_any (p : Nat) (l : List UInt8) (q : Bd.St) (w : World) (hl : l.length ≤ 4294967296) (h : RU w p l q) :
    Calls Tryd.prog 50 #[.pointer (some ⟨p, 0, none⟩)] w fun e w' => e = .returned (.int .i64 (Bd.sDone q)) ∧ ∃ n, w' = w.drewN n := by
  obtain ⟨k, hk, hr, hq⟩ := h
  obtain ⟨c0, c1, c2⟩ := hr.cells
  clear hr
  obtain ⟨t, b⟩ := q
  simp only at c2 hq
  cases b with
  | true =>
    clear hq
    go_enter Tryd.func50, Tryd.ntmps50
    go_wp2_with fail
    go_quiet (fail)
    go_wp2
    go_ret
    exact ⟨rfl, _, rfl⟩
  | false =>
    obtain rfl := hq rfl
    have hd := done_drop l k hk
    clear hq
    by_cases hlt : k < l.length
    · rw [if_pos hlt] at hd
      generalize Bd.sDone (l.drop k, false) = d at *
      subst hd
      go_enter Tryd.func50, Tryd.ntmps50
      go_wp2_with fail
      go_quiet (fail)
      go_wp2
      go_ret
      exact ⟨rfl, _, rfl⟩
    · rw [if_neg hlt] at hd
      generalize Bd.sDone (l.drop k, false) = d at *
      subst hd
      go_enter Tryd.func50, Tryd.ntmps50
      go_wp2_with fail
      go_quiet (fail)
      go_wp2
      go_ret
      exact ⟨rfl, _, rfl⟩
theorem refmore_any (p : Nat) (l : List UInt8) (q : Bd.St) (w : World) (hl : l.length ≤ 4294967296) (h : RU w p l q) :
    Calls Tryd.prog 47 #[.pointer (some ⟨p, 0, none⟩)] w fun e w' => e = .returned (.bool (Bd.sMore q)) ∧ ∃ n, w' = w.drewN n := by
  obtain ⟨k, hk, hr, hq⟩ := h
  obtain ⟨c0, c1, c2⟩ := hr.cells
  clear hr
  obtain ⟨t, b⟩ := q
  simp only at c2 hq
  cases b with
  | true =>
    clear hq
    go_enter Tryd.func47, Tryd.ntmps47
    go_wp2_with fail
    go_quiet (fail)
    go_wp2
    go_ret
    exact ⟨rfl, _, rfl⟩
  | false =>
    obtain rfl := hq rfl
    clear hq
    by_cases hlt : k < l.length
    · have hd := more_drop l k hlt
      have hix := str_at (P := Tryd.prog) l k k rfl hlt 9 Tryd.underlying9
      have hc256 := UInt8.toNat_lt (l.getD k 0)
      generalize (l.getD k 0).toNat = c at *
      by_cases hc : c = 101
      · rw [decide_eq_true hc] at hd
        generalize Bd.sMore (l.drop k, false) = d at *
        subst hd hc
        go_enter Tryd.func47, Tryd.ntmps47
        go_wp2_with fail
        go_quiet (fail)
        go_wp2
        go_ret
        exact ⟨rfl, _, rfl⟩
      · rw [decide_eq_false hc] at hd
        generalize Bd.sMore (l.drop k, false) = d at *
        subst hd
        have hc' : ((c : Int) != 101) = true := bne_iff_ne.2 (by omega)
        go_enter Tryd.func47, Tryd.ntmps47
        go_wp2_with fail
        go_quiet (fail)
        go_wp2
        go_ret
        exact ⟨rfl, _, rfl⟩
    · have hd : Bd.sMore (l.drop k, false) = false := by rw [show k = l.length by omega, List.drop_length]; rfl
      generalize Bd.sMore (l.drop k, false) = d at *
      subst hd
      go_enter Tryd.func47, Tryd.ntmps47
      go_wp2_with fail
      go_quiet (fail)
      go_wp2
      go_ret
      exact ⟨rfl, _, rfl⟩
set_option maxHeartbeats 400000 in
theorem refsign_any (p : Nat) (l : List UInt8) (q : Bd.St) (c : UInt8) (w : World) (hl : l.length ≤ 4294967296) (h : RU w p l q) :
    Calls Tryd.prog 62 #[.pointer (some ⟨p, 0, none⟩), .int .u8 c.toNat] w fun e w' => e = .returned (.tuple #[]) ∧ RUs w p l (Bd.sSign c q) w' := by
  have H := Lib.hid h
  obtain ⟨k, hk, hr, hq⟩ := h
  obtain ⟨c0, c1, c2⟩ := hr.cells
  obtain ⟨f1, f2⟩ := hr.free
  have HR := Lib.hid hr
  clear hr
  obtain ⟨t, b⟩ := q
  simp only at c2 hq HR
  cases b with
  | true =>
    clear hq
    go_enter Tryd.func62, Tryd.ntmps62
    go_wp2
    (first | go_end0 | ((try simp only [Exit.inBlock, Exit.then]); refine bodyPost_ret (results_none rfl _ _ _) rfl ?_))
    exact ⟨rfl, H.out, Keeps.refl _ _⟩
  | false =>
    obtain rfl := hq rfl
    clear hq H
    have hd := sign_drop c l k hk
    have HB : Hid (∀ n, RUs w p l (l.drop k, true) ((w.drewN n).setCell ⟨p, 2, none⟩ (.bool true))) := fun n => ⟨⟨k, hk, RR.setBad (w := w.drewN n) HR.out true, fun h => by cases h⟩, (Keeps.drewN _ w n).trans (keepsP _ _ _ _)⟩
    by_cases hlt : k < l.length
    · have HG : Hid (∀ n, RUs w p l (l.drop (k + 1), false) ((w.drewN n).setCell ⟨p, 1, none⟩ (.int .i64 ((k : Int) + 1)))) := fun n => ⟨⟨k + 1, hlt, RR.setAt (w := w.drewN n) HR.out _, fun h => rfl⟩, (Keeps.drewN _ w n).trans (keepsP _ _ _ _)⟩
      have hix := str_at (P := Tryd.prog) l k k rfl hlt 9 Tryd.underlying9
      have hc256 := UInt8.toNat_lt (l.getD k 0)
      have hd256 := UInt8.toNat_lt c
      generalize (l.getD k 0).toNat = x at *
      by_cases hx : x = c.toNat
      · rw [if_pos ⟨hlt, hx⟩] at hd
        rw [hd]
        clear hd
        subst hx
        go_enter Tryd.func62, Tryd.ntmps62
        go_wp2_with fail
        go_quiet (fail)
        go_wp2
        (first | go_end0 | ((try simp only [Exit.inBlock, Exit.then]); refine bodyPost_ret (results_none rfl _ _ _) rfl ?_))
        exact ⟨rfl, HG.out _⟩
      · rw [if_neg (fun h => hx h.2)] at hd
        rw [hd]
        clear hd
        generalize c.toNat = y at *
        go_enter Tryd.func62, Tryd.ntmps62
        go_wp2_with fail
        go_quiet (fail)
        go_wp2
        (first | go_end0 | ((try simp only [Exit.inBlock, Exit.then]); refine bodyPost_ret (results_none rfl _ _ _) rfl ?_))
        exact ⟨rfl, HB.out _⟩
    · rw [if_neg (fun h => hlt h.1)] at hd
      rw [hd]
      clear hd
      generalize c.toNat = y at *
      go_enter Tryd.func62, Tryd.ntmps62
      go_wp2_with fail
      go_quiet (fail)
      go_wp2
      (first | go_end0 | ((try simp only [Exit.inBlock, Exit.then]); refine bodyPost_ret (results_none rfl _ _ _) rfl ?_))
      exact ⟨rfl, HB.out _⟩
theorem refopen_any (p : Nat) (l : List UInt8) (q : Bd.St) (w : World) (hl : l.length ≤ 4294967296) (h : RU w p l q) :
    Calls Tryd.prog 45 #[.pointer (some ⟨p, 0, none⟩)] w fun e w' => e = .returned (.tuple #[]) ∧ RUs w p l (Bd.sSign 108 q) w' := by
  have HC := Lib.hid (refsign_any p l q 108 w hl h)
  clear h
  go_enter Tryd.func45, Tryd.ntmps45
  go_wp2_with fail
  refine HC.out.mono ?_
  rintro e w' ⟨rfl, h⟩
  go_wp2
  go_end0
  exact ⟨rfl, h⟩
theorem refclose_any (p : Nat) (l : List UInt8) (q : Bd.St) (w : World) (hl : l.length ≤ 4294967296) (h : RU w p l q) :
    Calls Tryd.prog 49 #[.pointer (some ⟨p, 0, none⟩)] w fun e w' => e = .returned (.tuple #[]) ∧ RUs w p l (Bd.sSign 101 q) w' := by
  have HC := Lib.hid (refsign_any p l q 101 w hl h)
  clear h
  go_enter Tryd.func49, Tryd.ntmps49
  go_wp2_with fail
  refine HC.out.mono ?_
  rintro e w' ⟨rfl, h⟩
  go_wp2
  go_end0
  exact ⟨rfl, h⟩

end Go.Proofs.YtegaonoobjeneaaDoor
