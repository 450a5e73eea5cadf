/-
  Bead's reader, walked: New, ready, sign, Open, Close, More, Done.
  Conditions: none but the model's longest length.
-/
import Derived.Test.YtbljbdjmgogknaaGreatDoorBwa
import Derived.ScopeJumps
import Derived.WalkMore
set_option linter.unusedVariables false
set_option linter.unusedSimpArgs false
namespace Go.Proofs.YtbljbdjmgogknaaGreatDoor
open Go.RowKit

/-- A reader: what is left, and whether it went wrong. -/
def Rd (w : World) (p : Nat) (q : Bd.St) : Prop := w.heap[p]? = some (.cells #[.string ⟨q.1.toArray⟩, .bool q.2] 129 (0, 0))
theorem Rd.cells {w : World} {p : Nat} {q : Bd.St} (h : Rd w p q) : w.cell? ⟨p, 0, none⟩ = some (.string ⟨q.1.toArray⟩) ∧ w.cell? ⟨p, 1, none⟩ = some (.bool q.2) := by
  unfold Rd at h
  simp [World.cell?, h]
theorem Rd.free {w : World} {p : Nat} {q : Bd.St} (h : Rd w p q) : w.frozen? ⟨p, 0, none⟩ = false ∧ w.frozen? ⟨p, 1, none⟩ = false := by
  unfold Rd at h
  simp [World.frozen?, h]
theorem Rd.lt {w : World} {p : Nat} {q : Bd.St} (h : Rd w p q) : p < w.heap.size := (Array.getElem?_eq_some_iff.1 h).1
theorem Rd.keep {S : Nat → Prop} {w w' : World} {p : Nat} {q : Bd.St} (h : Rd w p q) (k : Keeps S w w') (hs : ¬ S p) : Rd w' p q := (k.block p h.lt hs).trans h
theorem Rd.below {w w' : World} {p : Nat} {q : Bd.St} (h : Rd w p q) (hb : Below w.heap.size w w') : Rd w' p q := (hb.block p h.lt).trans h
theorem Rd.set0 {w : World} {p : Nat} {q : Bd.St} (h : Rd w p q) (l : List UInt8) : Rd (w.setCell ⟨p, 0, none⟩ (.string ⟨l.toArray⟩)) p (l, q.2) := by
  unfold Rd at h ⊢
  simp [World.setCell, Array.getElem?_modify, h]
theorem Rd.set1 {w : World} {p : Nat} {q : Bd.St} (h : Rd w p q) (b : Bool) : Rd (w.setCell ⟨p, 1, none⟩ (.bool b)) p (q.1, b) := by
  unfold Rd at h ⊢
  simp [World.setCell, Array.getElem?_modify, h]
theorem keepsP (w : World) (p o : Nat) (u : Value) : Keeps (fun k => k = p) w (w.setCell ⟨p, o, none⟩ u) := Keeps.setCell _ _ _ _ rfl
/-- What a call on a reader turns. -/
def Rds (w : World) (p : Nat) (q : Bd.St) (w' : World) : Prop := Rd w' p q ∧ Keeps (fun k => k = p) w w'
def RdV (v : Value) (w : World) (p : Nat) (q : Bd.St) (e : Ending) (w' : World) : Prop := e = .returned v ∧ Rds w p q w'

theorem new_any (s : List UInt8) (w : World) : Calls Tryz.prog 57 #[.string ⟨s.toArray⟩] w fun e w' => e = .returned (.pointer (some ⟨w.heap.size, 0, none⟩)) ∧ w' = w.alloc (.cells #[.string ⟨s.toArray⟩, .bool false] 129) := by
  go_enter Tryz.func57, Tryz.ntmps57
  go_wp2
  go_ret
  exact ⟨rfl, rfl⟩
theorem Rd.new (s : List UInt8) (w : World) : Rd (w.alloc (.cells #[.string ⟨s.toArray⟩, .bool false] 129)) w.heap.size (s, false) := by
  unfold Rd
  rw [heap_alloc_new]
theorem ready_any (p : Nat) (q : Bd.St) (w : World) (h : Rd w p q) : Calls Tryz.prog 115 #[.pointer (some ⟨p, 0, none⟩)] w fun e w' => e = .returned (.bool (!q.2)) ∧ w = w' := by
  obtain ⟨c0, c1⟩ := h.cells
  clear h
  go_enter Tryz.func115, Tryz.ntmps115
  go_wp2
  go_ret
  exact ⟨rfl, rfl⟩
theorem ready_nil (w : World) : Calls Tryz.prog 115 #[.pointer none] w fun e w' => e = .returned (.bool false) ∧ w = w' := by
  go_enter Tryz.func115, Tryz.ntmps115
  go_wp2
  go_ret
  exact ⟨rfl, rfl⟩
theorem done_any (p : Nat) (q : Bd.St) (w : World) (h : Rd w p q) : Calls Tryz.prog 61 #[.pointer (some ⟨p, 0, none⟩)] w fun e w' => e = .returned (.int .i64 (Bd.sDone q)) ∧ w = w' := by
  obtain ⟨c0, c1⟩ := h.cells
  clear h
  obtain ⟨s, b⟩ := q
  simp only at c0 c1
  cases b with
  | true =>
    go_enter Tryz.func61, Tryz.ntmps61
    go_wp2
    go_ret
    exact ⟨rfl, rfl⟩
  | false =>
    cases s with
    | nil =>
      go_enter Tryz.func61, Tryz.ntmps61
      go_wp2
      go_ret
      exact ⟨rfl, rfl⟩
    | cons x s =>
      go_enter Tryz.func61, Tryz.ntmps61
      go_wp2
      go_ret
      exact ⟨rfl, rfl⟩
theorem done_nil (w : World) : Calls Tryz.prog 61 #[.pointer none] w fun e w' => e = .returned (.int .i64 2) ∧ w = w' := by
  go_enter Tryz.func61, Tryz.ntmps61
  go_wp2
  go_ret
  exact ⟨rfl, rfl⟩

theorem cutPrefix_any (l : List UInt8) (c : UInt8) (w : World) : Calls Tryz.prog 116 #[.string ⟨l.toArray⟩, .string ⟨#[c]⟩] w fun e w' =>
    e = .returned (.tuple #[.string ⟨(Lib.trimPrefix l [c]).toArray⟩, .bool (Lib.hasPrefix l [c])]) ∧ w = w' := by
  refine (Tryz.strings_CutPrefix ⟨l.toArray⟩ ⟨#[c]⟩ w).mono ?_
  rintro e w' ⟨he, hw⟩
  exact ⟨he, hw.symm⟩
set_option maxHeartbeats 400000 in
theorem sign_any (p : Nat) (q : Bd.St) (c : UInt8) (w : World) (h : Rd w p q) : Calls Tryz.prog 91 #[.pointer (some ⟨p, 0, none⟩), .string ⟨#[c]⟩] w fun e w' => e = .returned (.tuple #[]) ∧ Rds w p (Bd.sSign c q) w' := by
  have H := Lib.hid h
  obtain ⟨c0, c1⟩ := h.cells
  obtain ⟨f0, f1⟩ := h.free
  clear h
  obtain ⟨s, b⟩ := q
  simp only at c0 c1
  cases b with
  | true =>
    go_enter Tryz.func91, Tryz.ntmps91
    go_wp2_with fail
    refine (ready_any _ _ _ H.out).mono ?_
    rintro e w1 ⟨rfl, rfl⟩
    go_wp2
    go_end0
    exact ⟨rfl, H.out, Keeps.refl _ _⟩
  | false =>
    have HE : Hid (Rds w p (Bd.sSign c (s, false)) ((w.setCell ⟨p, 0, none⟩ (.string ⟨(Lib.trimPrefix s [c]).toArray⟩)).setCell ⟨p, 1, none⟩ (.bool (!Lib.hasPrefix s [c])))) :=
      ⟨(H.out.set0 (Lib.trimPrefix s [c])).set1 (!Lib.hasPrefix s [c]), (keepsP w p 0 _).trans (keepsP _ p 1 _)⟩
    have HC := Lib.hid (cutPrefix_any s c w)
    generalize Lib.trimPrefix s [c] = t at HE HC
    generalize Lib.hasPrefix s [c] = b at HE HC
    go_enter Tryz.func91, Tryz.ntmps91
    go_wp2_with fail
    refine (ready_any _ _ _ H.out).mono ?_
    rintro e w1 ⟨rfl, rfl⟩
    go_wp2_with fail
    refine HC.out.mono ?_
    rintro e w1 ⟨rfl, rfl⟩
    go_wp2
    go_end0
    exact ⟨rfl, HE.out⟩
theorem open_any (p : Nat) (q : Bd.St) (w : World) (h : Rd w p q) : Calls Tryz.prog 58 #[.pointer (some ⟨p, 0, none⟩)] w fun e w' => e = .returned (.tuple #[]) ∧ Rds w p (Bd.sSign 108 q) w' := by
  have H := Lib.hid h
  clear h
  go_enter Tryz.func58, Tryz.ntmps58
  go_wp2_with fail
  refine (sign_any _ _ _ _ H.out).mono ?_
  rintro e w1 ⟨rfl, h1⟩
  have H1 := Lib.hid h1
  clear h1
  go_wp2
  go_end0
  exact ⟨rfl, H1.out⟩
theorem close_any (p : Nat) (q : Bd.St) (w : World) (h : Rd w p q) : Calls Tryz.prog 60 #[.pointer (some ⟨p, 0, none⟩)] w fun e w' => e = .returned (.tuple #[]) ∧ Rds w p (Bd.sSign 101 q) w' := by
  have H := Lib.hid h
  clear h
  go_enter Tryz.func60, Tryz.ntmps60
  go_wp2_with fail
  refine (sign_any _ _ _ _ H.out).mono ?_
  rintro e w1 ⟨rfl, h1⟩
  have H1 := Lib.hid h1
  clear h1
  go_wp2
  go_end0
  exact ⟨rfl, H1.out⟩
set_option maxHeartbeats 400000 in
theorem more_any (p : Nat) (q : Bd.St) (w : World) (h : Rd w p q) : Calls Tryz.prog 122 #[.pointer (some ⟨p, 0, none⟩)] w fun e w' => e = .returned (.bool (Bd.sMore q)) ∧ w = w' := by
  have H := Lib.hid h
  obtain ⟨c0, c1⟩ := h.cells
  clear h
  obtain ⟨s, b⟩ := q
  simp only at c0 c1
  cases b with
  | true =>
    go_enter Tryz.func122, Tryz.ntmps122
    go_wp2_with fail
    refine (ready_any _ _ _ H.out).mono ?_
    rintro e w1 ⟨rfl, rfl⟩
    go_wp2
    go_ret
    exact ⟨rfl, rfl⟩
  | false =>
    cases s with
    | nil =>
      go_enter Tryz.func122, Tryz.ntmps122
      go_wp2_with fail
      refine (ready_any _ _ _ H.out).mono ?_
      rintro e w1 ⟨rfl, rfl⟩
      go_wp2
      go_ret
      exact ⟨rfl, rfl⟩
    | cons x s =>
      have hix := str_at (P := Tryz.prog) (x :: s) 0 0 rfl (by simp) 9 Tryz.underlying9
      simp only [List.getD_cons_zero] at hix
      have he : ((x.toNat : Int) != 101) = (!(x == 101)) := by
        by_cases hx : x = 101
        · subst hx; rfl
        · have : (x.toNat : Int) ≠ 101 := fun e => hx (UInt8.toNat_inj.1 (by have : (101 : UInt8).toNat = 101 := rfl; omega))
          rw [bne_iff_ne.2 this]
          simp [hx]
      have hm : Hid (Bd.sMore (x :: s, false) = !(x == 101)) := by simp [Hid, Bd.sMore]
      go_enter Tryz.func122, Tryz.ntmps122
      go_wp2_with fail
      refine (ready_any _ _ _ H.out).mono ?_
      rintro e w1 ⟨rfl, rfl⟩
      go_wp2
      go_ret
      exact ⟨by rw [hm.out]; rfl, rfl⟩
theorem more_nil (w : World) : Calls Tryz.prog 122 #[.pointer none] w fun e w' => e = .returned (.bool false) ∧ w = w' := by
  go_enter Tryz.func122, Tryz.ntmps122
  go_wp2_with fail
  refine (ready_nil _).mono ?_
  rintro e w1 ⟨rfl, rfl⟩
  go_wp2
  go_ret
  exact ⟨rfl, rfl⟩
theorem sign_nil (c : UInt8) (w : World) : Calls Tryz.prog 91 #[.pointer none, .string ⟨#[c]⟩] w fun e w' => e = .returned (.tuple #[]) ∧ w = w' := by
  go_enter Tryz.func91, Tryz.ntmps91
  go_wp2_with fail
  refine (ready_nil _).mono ?_
  rintro e w1 ⟨rfl, rfl⟩
  go_wp2
  go_end0
  exact ⟨rfl, rfl⟩
theorem open_nil (w : World) : Calls Tryz.prog 58 #[.pointer none] w fun e w' => e = .returned (.tuple #[]) ∧ w = w' := by
  go_enter Tryz.func58, Tryz.ntmps58
  go_wp2_with fail
  refine (sign_nil _ _).mono ?_
  rintro e w1 ⟨rfl, rfl⟩
  go_wp2
  go_end0
  exact ⟨rfl, rfl⟩
theorem close_nil (w : World) : Calls Tryz.prog 60 #[.pointer none] w fun e w' => e = .returned (.tuple #[]) ∧ w = w' := by
  go_enter Tryz.func60, Tryz.ntmps60
  go_wp2_with fail
  refine (sign_nil _ _).mono ?_
  rintro e w1 ⟨rfl, rfl⟩
  go_wp2
  go_end0
  exact ⟨rfl, rfl⟩

end Go.Proofs.YtbljbdjmgogknaaGreatDoor
