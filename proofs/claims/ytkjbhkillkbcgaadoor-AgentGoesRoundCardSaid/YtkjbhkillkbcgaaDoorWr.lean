/-
  Records in memory; slices.Clone of records, walked.
  Conditions: the model's bound on memory.
-/
import Derived.Test.YtkjbhkillkbcgaaDoorCwc
import Derived.Test.YtkjbhkillkbcgaaDoorAst
import Derived.Test.YtkjbhkillkbcgaaDoorCl
import Derived.Lib.SlicesMore
set_option linter.unusedVariables false
set_option linter.unusedSimpArgs false
namespace Go.Proofs.YtkjbhkillkbcgaaDoor
open Go.RowKit

theorem recInfo : (Tryd.prog.info? 57).map (fun i => (i.zero, i.size, i.bytes)) = some (some (.agg #[.int .i64 0, .string ⟨#[]⟩, .string ⟨#[]⟩, .bool false]), 4, 48) := by kernel_rfl
/-- Records' cells, one behind the other. -/
def recCells (l : List Cr.Rec) : List Value := l.flatMap fun x => [.int .i64 x.off, .string ⟨x.key.toArray⟩, .string ⟨x.val.toArray⟩, .bool x.gone]
theorem recCells_len (l : List Cr.Rec) : (recCells l).length = l.length * 4 := by
  induction l with
  | nil => rfl
  | cons x l ih => simp only [recCells, List.flatMap_cons, List.length_append, List.length_cons, List.length_nil] at ih ⊢; omega
theorem recCells_one (l : List Cr.Rec) : ∀ u ∈ recCells l, u.oneCell' = true := by
  intro u hu
  obtain ⟨x, _, hx⟩ := List.mem_flatMap.1 hu
  simp only [List.mem_cons, List.not_mem_nil, or_false] at hx
  rcases hx with rfl | rfl | rfl | rfl <;> rfl
theorem recCells_get : ∀ (l : List Cr.Rec) (k : Nat) (x : Cr.Rec), l[k]? = some x → (recCells l)[k * 4]? = some (.int .i64 x.off) ∧ (recCells l)[k * 4 + 1]? = some (.string ⟨x.key.toArray⟩) ∧ (recCells l)[k * 4 + 2]? = some (.string ⟨x.val.toArray⟩) ∧ (recCells l)[k * 4 + 3]? = some (.bool x.gone) := by
  intro l
  induction l with
  | nil => intro k x h; simp at h
  | cons y l ih =>
    intro k x h
    cases k with
    | zero =>
      simp at h
      subst h
      exact ⟨rfl, rfl, rfl, rfl⟩
    | succ k =>
      have e : recCells (y :: l) = [.int .i64 y.off, .string ⟨y.key.toArray⟩, .string ⟨y.val.toArray⟩, .bool y.gone] ++ recCells l := rfl
      have hk := ih k x (by simpa using h)
      rw [e, show (k + 1) * 4 = 4 + k * 4 by omega]
      simp only [List.cons_append, List.nil_append, Nat.add_assoc, Nat.add_comm 4, List.getElem?_cons_succ]
      exact hk
theorem recCells_set : ∀ (l : List Cr.Rec) (k : Nat) (x : Cr.Rec) (o : Int), l[k]? = some x → (recCells l).set (k * 4) (.int .i64 o) = recCells (l.set k { x with off := o }) := by
  intro l
  induction l with
  | nil => intro k x o h; simp at h
  | cons y l ih =>
    intro k x o h
    cases k with
    | zero =>
      simp at h
      subst h
      rfl
    | succ k =>
      have e : recCells (y :: l) = [.int .i64 y.off, .string ⟨y.key.toArray⟩, .string ⟨y.val.toArray⟩, .bool y.gone] ++ recCells l := rfl
      have hk := ih k x o (by simpa using h)
      rw [e, show (k + 1) * 4 = 4 + k * 4 by omega]
      simp only [List.cons_append, List.nil_append, Nat.add_comm 4, List.set_cons_succ]
      rw [hk]
      rfl
/-- A row of records of the call's own is a slice of records. -/
theorem Sl.recs {w : World} {B : Nat} {v : Value} {l : List Cr.Rec} (h : Sl w B 4 v l.length (recCells l)) : Recs w v l := by
  rcases h.2 with ⟨rfl, h0⟩ | ⟨g, off, cap, rfl, hB, hg, hn, hm, hr, ht⟩
  · exact ⟨none, 0, by rw [h0], fun i x hx => by
      have := (List.getElem?_eq_some_iff.1 hx).1
      omega⟩
  · refine ⟨_, cap, rfl, fun i x hx => ⟨g, off, rfl, hg, ?_⟩⟩
    obtain ⟨h0, h1, h2, h3⟩ := recCells_get l i x hx
    exact ⟨hr _ _ h0, by rw [Nat.add_assoc]; exact hr _ _ h1, by rw [Nat.add_assoc]; exact hr _ _ h2, by rw [Nat.add_assoc]; exact hr _ _ h3⟩
theorem Sl.recs' {w : World} {B n : Nat} {v : Value} {l : List Cr.Rec} (h : Sl w B 4 v n (recCells l)) (hn : l.length = n) : Recs w v l := by subst hn; exact h.recs
theorem recs_src {w : World} {l : List Cr.Rec} {g off cap : Nat} (h : Recs w (.slice (some ⟨g, off, none⟩) l.length cap) l) : ∀ j u, (recCells l)[j]? = some u → w.cell? ⟨g, off + j, none⟩ = some u := by
  obtain ⟨a, cap', he, hc⟩ := h
  injection he with e1 e2 e3
  subst e1
  intro j u hu
  have hj := (List.getElem?_eq_some_iff.1 hu).1
  rw [recCells_len] at hj
  obtain ⟨x, hx⟩ : ∃ x, l[j / 4]? = some x := ⟨l[j / 4]'(by omega), by simp⟩
  obtain ⟨g', off', e, hg, h1, h2, h3, h4⟩ := hc _ x hx
  injection e with e
  injection e with e1 e2
  subst e1 e2
  obtain ⟨q0, q1, q2, q3⟩ := recCells_get l _ x hx
  rcases (show j = j / 4 * 4 ∨ j = j / 4 * 4 + 1 ∨ j = j / 4 * 4 + 2 ∨ j = j / 4 * 4 + 3 by omega) with e | e | e | e
  · rw [e] at hu ⊢; rw [q0] at hu; injection hu with hu; subst hu; exact h1
  · rw [e] at hu ⊢; rw [q1] at hu; injection hu with hu; subst hu; rw [← Nat.add_assoc]; exact h2
  · rw [e] at hu ⊢; rw [q2] at hu; injection hu with hu; subst hu; rw [← Nat.add_assoc]; exact h3
  · rw [e] at hu ⊢; rw [q3] at hu; injection hu with hu; subst hu; rw [← Nat.add_assoc]; exact h4
set_option maxRecDepth 20000 in
set_option maxHeartbeats 800000 in
theorem clonerecs_any (l : List Cr.Rec) (hl : l.length ≤ 1000000) (rv : Value) (w : World) (h : Recs w rv l) :
    Calls Tryd.prog 14 #[rv] w fun e w' => ∃ v, e = .returned v ∧ Sl w' w.heap.size 4 v l.length (recCells l) ∧ Below w.heap.size w w' := by
  have heq : ∀ (a : Option Addr) (l c : Nat) (w : World), (binOp .eql 29 (.slice a l c) (.slice none 0 0)).run Tryd.prog w = .ok (.bool a.isNone) w := fun a l c w => Go.Lib.run_eql_slice_nil w 29 57 a l c 0 0 Tryd.underlying29
  obtain ⟨a, cap, rfl⟩ := h.form
  cases a with
  | none =>
    have h0 : l.length = 0 := by
      cases l with
      | nil => rfl
      | cons x l =>
        obtain ⟨a', cap', e, hc⟩ := h
        obtain ⟨g, off, e2, _⟩ := hc 0 x rfl
        injection e with e1
        rw [← e1] at e2
        cases e2
    obtain rfl : l = [] := List.eq_nil_of_length_eq_zero h0
    go_enter Tryd.func14, Tryd.ntmps14
    go_wp2
    go_ret
    exact ⟨_, rfl, Sl.nil _ _ _, Below.refl _ _⟩
  | some ad =>
    obtain ⟨i0, hi, hz0, hz1, hz2⟩ := info_parts recInfo
    have hmade : Hid ((w.alloc (.cells #[] 57)).ownsRow w.heap.size 57 4 (.slice (some ⟨w.heap.size, 0, none⟩) 0 0) 0 []) := World.ownsRow_made w #[] 0 (Nat.le_refl _) (by unfold maxLen; omega) rfl
    have hsrc : Hid (SrcIs (w.alloc (.cells #[] 57)) 4 (.slice (some ad) l.length cap) l.length (recCells l)) := by
      refine .inr ⟨_, _, rfl, recCells_len l, fun j u hu => ?_⟩
      cases l with
      | nil => simp [recCells] at hu
      | cons x l =>
        obtain ⟨a', cap', e, hc⟩ := id h
        obtain ⟨g, off, e2, hg, _⟩ := hc 0 x rfl
        injection e with e1
        rw [← e1] at e2
        injection e2 with e2
        subst e2
        have e3 : (⟨g, off, none⟩ : Addr).add j = ⟨g, off + j, none⟩ := by unfold Addr.add; split <;> simp_all
        rw [e3]
        exact ((Keeps.alloc (fun _ => False) w _).cell (a := ⟨g, off + j, none⟩) hg id).trans (recs_src h j u hu)
    have hone := recCells_one l
    clear h
    go_enter Tryd.func14, Tryd.ntmps14
    go_wp2_with (at_builtin; refine wpList_append_src rfl (.tmp 5) (.tmp 6) 29 rfl w.heap.size 57 i0 _ 4 48 Tryd.underlying29 hi hz0 hz1 hz2 rfl (by decide) _ _ _ rfl hmade.out _ _ _ rfl hsrc.out hone ?_ ?_ ?_ ?_)
    · unfold maxLen; omega
    · omega
    · simp
    intro v' w2 hown hgr
    have HS : Hid (Sl w2 w.heap.size 4 v' l.length (recCells l)) := by
      have := Sl.ofOwn hown
      show Sl _ _ _ _ _ _
      simpa using this
    have HB : Hid (Below w.heap.size w w2) := ((Below.refl _ _).alloc (Nat.le_refl _) _).grown hgr (by simp) (fun k hk => (hmade.out.lt k hk).1)
    clear hown hgr
    go_wp2
    go_ret
    exact ⟨v', rfl, HS.out, HB.out⟩

end Go.Proofs.YtkjbhkillkbcgaaDoor
