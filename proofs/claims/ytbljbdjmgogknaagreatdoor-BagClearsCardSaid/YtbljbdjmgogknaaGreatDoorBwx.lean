/-
  A reader beside a block of cells of the call's own: what calls on the reader and stores into the block leave. Lengths of what is left.
  Conditions: none.
-/
import Derived.Test.YtbljbdjmgogknaaGreatDoorBwe
import Derived.Test.YtbljbdjmgogknaaGreatDoorCl
set_option linter.unusedVariables false
set_option linter.unusedSimpArgs false
namespace Go.Proofs.YtbljbdjmgogknaaGreatDoor
open Go.RowKit

theorem sInt_len (q : Bd.St) : (Bd.sInt q).2.1.length ≤ q.1.length := by
  obtain ⟨s, b⟩ := q
  cases b with
  | true => simp [Bd.sInt]
  | false =>
    cases hr : Bd.rdInt s with
    | none => simp [Bd.sInt, hr]
    | some x =>
      obtain ⟨n, r⟩ := x
      have h := (Bd.rdInt_some hr).2
      have := congrArg List.length h
      simp only [List.length_append] at this
      simp only [Bd.sInt, hr]
      show r.length ≤ s.length
      omega
theorem sText_len (m : Int) (q : Bd.St) : (Bd.sText m q).2.1.length ≤ q.1.length := by
  obtain ⟨s, b⟩ := q
  cases b with
  | true => simp [Bd.sText]
  | false =>
    cases hr : Bd.rdText m s with
    | none => simp [Bd.sText, hr]
    | some x =>
      obtain ⟨n, r⟩ := x
      have h := (Bd.rdText_some hr).2
      have := congrArg List.length h
      simp only [List.length_append] at this
      simp only [Bd.sText, hr]
      show r.length ≤ s.length
      omega
theorem sText_le (m : Int) (q : Bd.St) : (Bd.sText m q).1.length ≤ q.1.length := by
  obtain ⟨s, b⟩ := q
  cases b with
  | true => simp [Bd.sText]
  | false =>
    cases hr : Bd.rdText m s with
    | none => simp [Bd.sText, hr]
    | some x =>
      obtain ⟨n, r⟩ := x
      have h := (Bd.rdText_some hr).2
      have := congrArg List.length h
      simp only [Bd.bText, List.length_append, List.length_cons] at this
      simp only [Bd.sText, hr]
      show n.length ≤ s.length
      omega
theorem sInt_inR (q : Bd.St) : Bd.inR (Bd.sInt q).1 := by
  obtain ⟨s, b⟩ := q
  cases b with
  | true => simp [Bd.sInt, Bd.inR]
  | false =>
    cases hr : Bd.rdInt s with
    | none => simp [Bd.sInt, hr, Bd.inR]
    | some x =>
      obtain ⟨n, r⟩ := x
      simp only [Bd.sInt, hr]
      exact (Bd.rdInt_some hr).1
theorem sSign_len (c : UInt8) (q : Bd.St) : (Bd.sSign c q).1.length ≤ q.1.length := by
  obtain ⟨s, b⟩ := q
  cases b with
  | true => simp [Bd.sSign]
  | false =>
    by_cases h : s.head? = some c
    · cases s with
      | nil => cases h
      | cons x r =>
        simp at h
        subst h
        rw [Bd.sSign_of]
        simp
    · rw [Bd.sSign_no h]
      exact Nat.le_refl _
/-- All but the reader and what is new. -/
def Kp (w : World) (p : Nat) (W : World) : Prop := Keeps (fun k => k = p ∨ w.heap.size ≤ k) w W
/-- A reader p, a block x of the call's own. -/
def Rx (w : World) (p x : Nat) (W : World) (q : Bd.St) (cs : List Value) (t : TypeId) : Prop := Rd W p q ∧ Cl W x cs t ∧ x ≠ p ∧ w.heap.size ≤ x ∧ Kp w p W
theorem Kp.call {w W W' : World} {p : Nat} {q' : Bd.St} (h : Kp w p W) (k : Rds W p q' W') : Kp w p W' := h.trans (k.2.mono (fun j _ e => .inl e))
theorem Kp.below {w W W' : World} {p : Nat} (h : Kp w p W) (k : Below W.heap.size W W') : Kp w p W' := h.trans (Keeps.below _ k)
theorem Kp.store {w W : World} {p : Nat} (h : Kp w p W) (a : Addr) (u : Value) (ha : w.heap.size ≤ a.block) : Kp w p (W.setCell a u) := h.trans (Keeps.setCell _ _ _ _ (.inr ha))
theorem Rx.call {w W W' : World} {p x : Nat} {q q' : Bd.St} {cs : List Value} {t : TypeId} (h : Rx w p x W q cs t) (k : Rds W p q' W') : Rx w p x W' q' cs t :=
  ⟨k.1, h.2.1.keep k.2 h.2.2.1, h.2.2.1, h.2.2.2.1, h.2.2.2.2.call k⟩
theorem Rx.store {w W : World} {p x : Nat} {q : Bd.St} {cs : List Value} {t : TypeId} (h : Rx w p x W q cs t) (k : Nat) (u : Value) : Rx w p x (W.setCell ⟨x, k, none⟩ u) q (cs.set k u) t :=
  ⟨h.1.keep (Keeps.setCell (fun j => j = x) _ _ _ rfl) (fun e => h.2.2.1 e.symm), h.2.1.set k u, h.2.2.1, h.2.2.2.1, h.2.2.2.2.store _ _ h.2.2.2.1⟩
theorem Rx.drew {w W : World} {p x : Nat} {q : Bd.St} {cs : List Value} {t : TypeId} (h : Rx w p x W q cs t) : Rx w p x W.drew q cs t :=
  ⟨h.1, h.2.1, h.2.2.1, h.2.2.2.1, h.2.2.2.2.trans (Keeps.drew _ _)⟩
theorem Rx.done {w W : World} {p x : Nat} {q : Bd.St} {cs : List Value} {t : TypeId} (h : Rx w p x W q cs t) : Rds w p q W := ⟨h.1, h.2.2.2.2.mono (fun k hk e => e.resolve_right (by omega))⟩
theorem Rx.bel {w W : World} {p x : Nat} {q : Bd.St} {cs : List Value} {t : TypeId} (h : Rx w p x W q cs t) (hp : w.heap.size ≤ p) : Below w.heap.size w W := h.2.2.2.2.toBelow (Nat.le_refl _) (fun k hk e => by rcases e with e | e <;> omega)
theorem Rx.alloc {w W : World} {p x : Nat} {q : Bd.St} {cs : List Value} {t : TypeId} (h : Rx w p x W q cs t) (o : Obj) : Rx w p x (W.alloc o) q cs t :=
  ⟨h.1.keep (S := fun _ => False) (Keeps.alloc _ _ _) id, h.2.1.alloc _, h.2.2.1, h.2.2.2.1, h.2.2.2.2.trans (Keeps.alloc _ _ _)⟩
theorem Rx.below {w W W' : World} {p x : Nat} {q : Bd.St} {cs : List Value} {t : TypeId} (h : Rx w p x W q cs t) (k : Below W.heap.size W W') : Rx w p x W' q cs t :=
  ⟨h.1.below k, h.2.1.below k, h.2.2.1, h.2.2.2.1, h.2.2.2.2.below k⟩
theorem Rx.keeps {w W W' : World} {p x B : Nat} {q : Bd.St} {cs : List Value} {t : TypeId} (h : Rx w p x W q cs t) (k : Keeps (fun j => B ≤ j) W W') (hp : p < B) (hx : x < B) : Rx w p x W' q cs t :=
  ⟨h.1.keep k (by omega), h.2.1.keep k (by omega), h.2.2.1, h.2.2.2.1, h.2.2.2.2.trans (k.mono (fun j _ e => .inr (by have := h.2.2.2.1; omega)))⟩
theorem Rx.new {w : World} {p : Nat} {q : Bd.St} (h : Rd w p q) (cs : List Value) (t : TypeId) : Rx w p w.heap.size (w.alloc (.cells cs.toArray t)) q cs t :=
  ⟨h.keep (S := fun _ => False) (Keeps.alloc _ _ _) id, Cl.new _ _ _, fun e => by have := h.lt; omega, Nat.le_refl _, Keeps.alloc _ _ _⟩
theorem Kp.trans {w W W' : World} {p : Nat} (h : Kp w p W) (k : Kp W p W') : Kp w p W' := Keeps.trans h (Keeps.mono k (fun j hj e => e.elim .inl (fun e => .inr (Nat.le_trans h.size e))))
theorem Kp.lw {w W : World} {p : Nat} (h : Kp w p W) (hw : Lw w) (hp : w.heap.size ≤ p) : Lw W := hw.below (h.toBelow (Nat.le_refl _) (fun k hk e => by rcases e with e | e <;> omega))
end Go.Proofs.YtbljbdjmgogknaaGreatDoor
