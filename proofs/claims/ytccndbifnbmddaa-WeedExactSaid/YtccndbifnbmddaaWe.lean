/-
  Batches thinned: slices.Clone at batches, Thin, walked.
  Conditions: the model's bounds.
-/
import Derived.Test.YtccndbifnbmddaaWd
set_option linter.unusedVariables false
set_option linter.unusedSimpArgs false
namespace Go.Proofs.Ytccndbifnbmddaa
open Go.RowKit

theorem batInfo : (Try.prog.info? 42).map (fun i => (i.zero, i.size, i.bytes)) = some (some (.agg #[.int .i64 0, .int .i64 0, .int .i64 0, .int .i64 0, .int .i64 0, .slice none 0 0]), 6, 64) := by kernel_rfl
/-- Batches' cells, one behind the other; each with the value of its records. -/
abbrev BV := Cr.Batch × Value
def batC (q : BV) : List Value := [.int .i64 q.1.base, .int .i64 q.1.count, .int .i64 q.1.prod, .int .i64 q.1.seq, .int .i64 q.1.time, q.2]
def bvCells (L : List BV) : List Value := L.flatMap batC
theorem bvCells_len (l : List BV) : (bvCells l).length = l.length * 6 := by
  induction l with
  | nil => rfl
  | cons x l ih => simp only [bvCells, batC, List.flatMap_cons, List.length_append, List.length_cons, List.length_nil] at ih ⊢; omega
def RecsB (w : World) (g : Nat) (v : Value) (l : List Cr.Rec) : Prop := Recs w v l ∧ (l ≠ [] → v.ownBlock ≠ some g)
theorem RecsB.keep {w w' : World} {S : Nat → Prop} {g : Nat} {v : Value} {l : List Cr.Rec} (h : RecsB w g v l) (k : Keeps S w w') (hs : ∀ j, j < w.heap.size → S j → j = g) : RecsB w' g v l := by
  obtain ⟨⟨a, cap, rfl, hc⟩, hne⟩ := h
  refine ⟨⟨a, cap, rfl, fun i x hx => ?_⟩, hne⟩
  obtain ⟨g', off, rfl, hg, h0, h1, h2, h3⟩ := hc i x hx
  have hn : ¬ S g' := fun e => hne (by intro e2; subst e2; simp at hx) (by rw [hs g' hg e]; rfl)
  exact ⟨g', off, rfl, Nat.lt_of_lt_of_le hg k.size, (k.cell (a := ⟨g', off + i * 4, none⟩) hg hn).trans h0, (k.cell (a := ⟨g', off + i * 4 + 1, none⟩) hg hn).trans h1, (k.cell (a := ⟨g', off + i * 4 + 2, none⟩) hg hn).trans h2, (k.cell (a := ⟨g', off + i * 4 + 3, none⟩) hg hn).trans h3⟩
theorem Recs.toB {w : World} {g : Nat} {v : Value} {l : List Cr.Rec} (h : Recs w v l) (hg : w.heap.size ≤ g) : RecsB w g v l := by
  refine ⟨h, fun hn => ?_⟩
  obtain ⟨a, cap, rfl, hc⟩ := h
  cases l with
  | nil => exact absurd rfl hn
  | cons x l =>
    obtain ⟨g', off, rfl, hg', _⟩ := hc 0 x rfl
    intro e
    simp [Value.ownBlock] at e
    omega
theorem RecsB.one {w : World} {g : Nat} {v : Value} {l : List Cr.Rec} (h : RecsB w g v l) : v.oneCell' = true := by
  obtain ⟨⟨a, cap, rfl, hc⟩, hne⟩ := h
  rfl
theorem bvCells_one {w : World} {g : Nat} {L : List BV} (h : ∀ q ∈ L, RecsB w g q.2 q.1.recs) : ∀ u ∈ bvCells L, u.oneCell' = true := by
  intro u hu
  obtain ⟨q, hq, hx⟩ := List.mem_flatMap.1 hu
  simp only [batC, List.mem_cons, List.not_mem_nil, or_false] at hx
  rcases hx with rfl | rfl | rfl | rfl | rfl | rfl
  case inr.inr.inr.inr.inr => exact (h q hq).one
  all_goals rfl
theorem bvCells_get : ∀ (l : List BV) (k : Nat) (q : BV), l[k]? = some q → (bvCells l)[k * 6]? = some (.int .i64 q.1.base) ∧ (bvCells l)[k * 6 + 1]? = some (.int .i64 q.1.count) ∧ (bvCells l)[k * 6 + 2]? = some (.int .i64 q.1.prod) ∧ (bvCells l)[k * 6 + 3]? = some (.int .i64 q.1.seq) ∧ (bvCells l)[k * 6 + 4]? = some (.int .i64 q.1.time) ∧ (bvCells l)[k * 6 + 5]? = some q.2 := by
  intro l
  induction l with
  | nil => intro k x h; simp at h
  | cons y l ih =>
    intro k x h
    cases k with
    | zero =>
      simp at h
      subst h
      exact ⟨rfl, rfl, rfl, rfl, rfl, rfl⟩
    | succ k =>
      have e : bvCells (y :: l) = batC y ++ bvCells l := rfl
      have hk := ih k x (by simpa using h)
      rw [e, show (k + 1) * 6 = 6 + k * 6 by omega]
      simp only [batC, List.cons_append, List.nil_append, Nat.add_assoc, Nat.add_comm 6, List.getElem?_cons_succ]
      exact hk
theorem bvCells_set : ∀ (l : List BV) (k : Nat) (q : BV) (r : List Cr.Rec) (v : Value), l[k]? = some q → (bvCells l).set (k * 6 + 5) v = bvCells (l.set k ({ q.1 with recs := r }, v)) := by
  intro l
  induction l with
  | nil => intro k x r v h; simp at h
  | cons y l ih =>
    intro k x r v h
    cases k with
    | zero =>
      simp at h
      subst h
      rfl
    | succ k =>
      have e : bvCells (y :: l) = batC y ++ bvCells l := rfl
      have hk := ih k x r v (by simpa using h)
      rw [e, show (k + 1) * 6 + 5 = 6 + (k * 6 + 5) by omega]
      simp only [batC, List.cons_append, List.nil_append, Nat.add_comm 6, List.set_cons_succ]
      rw [hk]
      rfl
/-- A row of batches of the call's own is a slice of batches. -/
theorem Sl.bats {w : World} {B n : Nat} {v : Value} {L : List BV} {l : List Cr.Batch} (h : Sl w B 6 v n (bvCells L)) (hl : L.map (·.1) = l) (hn : l.length = n) {g : Nat} (hr : ∀ q ∈ L, RecsB w g q.2 q.1.recs) : Bats w v l := by
  subst hl
  subst hn
  simp only [List.length_map] at h
  rcases h.2 with ⟨rfl, h0⟩ | ⟨g, off, cap, rfl, hB, hg, hn, hm, hr2, ht⟩
  · refine ⟨none, 0, by simp [h0], fun i x hx => ?_⟩
    have := (List.getElem?_eq_some_iff.1 hx).1
    simp only [List.length_map] at this
    omega
  · refine ⟨some ⟨g, off, none⟩, cap, by simp, fun i x hx => ?_⟩
    rw [List.getElem?_map] at hx
    cases hq : L[i]? with
    | none => rw [hq] at hx; cases hx
    | some q =>
      rw [hq] at hx
      simp only [Option.map_some, Option.some.injEq] at hx
      subst hx
      obtain ⟨h0, h1, h2, h3, h4, h5⟩ := bvCells_get L i q hq
      exact ⟨g, off, q.2, rfl, hg, hr2 _ _ h0, by rw [Nat.add_assoc]; exact hr2 _ _ h1, by rw [Nat.add_assoc]; exact hr2 _ _ h2, by rw [Nat.add_assoc]; exact hr2 _ _ h3, by rw [Nat.add_assoc]; exact hr2 _ _ h4, by rw [Nat.add_assoc]; exact hr2 _ _ h5, (hr q (List.mem_of_getElem? hq)).1⟩
/-- The cells of a slice of batches. -/
theorem Bats.src {w : World} {l : List Cr.Batch} {g off cap : Nat} (h : Bats w (.slice (some ⟨g, off, none⟩) l.length cap) l) :
    ∃ L : List BV, L.map (·.1) = l ∧ (∀ q ∈ L, Recs w q.2 q.1.recs) ∧ (l ≠ [] → g < w.heap.size) ∧ ∀ j u, (bvCells L)[j]? = some u → w.cell? ⟨g, off + j, none⟩ = some u := by
  obtain ⟨a, cap', he, hc⟩ := h
  injection he with e1 e2 e3
  subst e1
  obtain ⟨L, hL⟩ : ∃ L : List BV, L = l.mapIdx fun i b => (b, (w.cell? ⟨g, off + i * 6 + 5, none⟩).getD undef) := ⟨_, rfl⟩
  have hget : ∀ i q, L[i]? = some q → l[i]? = some q.1 ∧ w.cell? ⟨g, off + i * 6, none⟩ = some (.int .i64 q.1.base) ∧ w.cell? ⟨g, off + i * 6 + 1, none⟩ = some (.int .i64 q.1.count) ∧ w.cell? ⟨g, off + i * 6 + 2, none⟩ = some (.int .i64 q.1.prod) ∧ w.cell? ⟨g, off + i * 6 + 3, none⟩ = some (.int .i64 q.1.seq) ∧ w.cell? ⟨g, off + i * 6 + 4, none⟩ = some (.int .i64 q.1.time) ∧ w.cell? ⟨g, off + i * 6 + 5, none⟩ = some q.2 ∧ Recs w q.2 q.1.recs ∧ g < w.heap.size := by
    intro i q hq
    rw [hL, List.getElem?_mapIdx] at hq
    cases hb : l[i]? with
    | none => rw [hb] at hq; cases hq
    | some b =>
      rw [hb] at hq
      simp only [Option.map_some, Option.some.injEq] at hq
      subst hq
      obtain ⟨g', off', rv, e, hg, h0, h1, h2, h3, h4, h5, hr⟩ := hc i b hb
      cases e
      rw [h5]
      exact ⟨rfl, h0, h1, h2, h3, h4, rfl, hr, hg⟩
  have hmap : L.map (·.1) = l := by
    apply List.ext_getElem?
    intro i
    rw [List.getElem?_map, hL, List.getElem?_mapIdx]
    cases l[i]? <;> rfl
  have hlen : L.length = l.length := by rw [← hmap, List.length_map]
  refine ⟨L, hmap, fun q hq => ?_, fun hne => ?_, fun j u hu => ?_⟩
  · obtain ⟨i, hi⟩ := List.getElem?_of_mem hq
    exact (hget i q hi).2.2.2.2.2.2.2.1
  · cases l with
    | nil => exact absurd rfl hne
    | cons b l =>
      obtain ⟨g', off', rv, e, hg, _⟩ := hc 0 b rfl
      cases e
      exact hg
  · have hj := (List.getElem?_eq_some_iff.1 hu).1
    rw [bvCells_len] at hj
    obtain ⟨q, hq⟩ : ∃ q, L[j / 6]? = some q := ⟨L[j / 6]'(by omega), by simp⟩
    obtain ⟨_, h0, h1, h2, h3, h4, h5, _⟩ := hget _ q hq
    obtain ⟨q0, q1, q2, q3, q4, q5⟩ := bvCells_get L _ q hq
    rcases (show j = j / 6 * 6 ∨ j = j / 6 * 6 + 1 ∨ j = j / 6 * 6 + 2 ∨ j = j / 6 * 6 + 3 ∨ j = j / 6 * 6 + 4 ∨ j = j / 6 * 6 + 5 by omega) with e | e | e | e | e | e
    · rw [e] at hu ⊢; rw [q0] at hu; injection hu with hu; subst hu; exact h0
    · rw [e] at hu ⊢; rw [q1] at hu; injection hu with hu; subst hu; rw [← Nat.add_assoc]; exact h1
    · rw [e] at hu ⊢; rw [q2] at hu; injection hu with hu; subst hu; rw [← Nat.add_assoc]; exact h2
    · rw [e] at hu ⊢; rw [q3] at hu; injection hu with hu; subst hu; rw [← Nat.add_assoc]; exact h3
    · rw [e] at hu ⊢; rw [q4] at hu; injection hu with hu; subst hu; rw [← Nat.add_assoc]; exact h4
    · rw [e] at hu ⊢; rw [q5] at hu; injection hu with hu; subst hu; rw [← Nat.add_assoc]; exact h5
def CloneB (w : World) (l : List Cr.Batch) (e : Ending) (w' : World) : Prop :=
  ∃ v L, e = .returned v ∧ Sl w' w.heap.size 6 v l.length (bvCells L) ∧ L.map (·.1) = l ∧ (∀ q ∈ L, Recs w q.2 q.1.recs) ∧ Below w.heap.size w w'
set_option maxRecDepth 20000 in
set_option maxHeartbeats 800000 in
theorem clonebats_any (l : List Cr.Batch) (hl : l.length ≤ 1000000) (v : Value) (w : World) (h : Bats w v l) :
    Calls Try.prog 25 #[v] w (CloneB w l) := by
  have heq : ∀ (a : Option Addr) (l c : Nat) (w : World), (binOp .eql 22 (.slice a l c) (.slice none 0 0)).run Try.prog w = .ok (.bool a.isNone) w := fun a l c w => Go.Lib.run_eql_slice_nil w 22 42 a l c 0 0 Try.underlying22
  obtain ⟨a, cap, rfl⟩ := h.form
  cases a with
  | none =>
    have h0 : l.length = 0 := by
      cases l with
      | nil => rfl
      | cons x l =>
        obtain ⟨a', cap', e, hc⟩ := h
        obtain ⟨g, off, rv, e2, _⟩ := hc 0 x rfl
        injection e with e1
        rw [← e1] at e2
        cases e2
    obtain rfl : l = [] := List.eq_nil_of_length_eq_zero h0
    go_enter Try.func25, Try.ntmps25
    go_wp2
    go_ret
    exact ⟨_, [], rfl, Sl.nil _ _ _, rfl, fun q hq => (by simp at hq), Below.refl _ _⟩
  | some ad =>
    obtain ⟨i0, hi, hz0, hz1, hz2⟩ := info_parts batInfo
    have hmade : Hid ((w.alloc (.cells #[] 42)).ownsRow w.heap.size 42 6 (.slice (some ⟨w.heap.size, 0, none⟩) 0 0) 0 []) := World.ownsRow_made w #[] 0 (Nat.le_refl _) (by unfold maxLen; omega) rfl
    obtain ⟨L, hLm, hLr, hsrc0⟩ : ∃ L : List BV, L.map (·.1) = l ∧ (∀ q ∈ L, Recs w q.2 q.1.recs) ∧ SrcIs (w.alloc (.cells #[] 42)) 6 (.slice (some ad) l.length cap) l.length (bvCells L) := by
      cases l with
      | nil => exact ⟨[], rfl, fun q hq => (by simp at hq), .inr ⟨_, _, rfl, rfl, fun j u hu => (by simp [bvCells] at hu)⟩⟩
      | cons x l =>
        obtain ⟨a', cap', e, hc⟩ := id h
        obtain ⟨g, off, rv, e2, hg, _⟩ := hc 0 x rfl
        injection e with e1
        rw [← e1] at e2
        injection e2 with e2
        subst e2
        obtain ⟨L, hm, hr, hg2, hs⟩ := h.src
        refine ⟨L, hm, hr, .inr ⟨_, _, rfl, by rw [bvCells_len, ← hm, List.length_map], fun j u hu => ?_⟩⟩
        have e3 : (⟨g, off, none⟩ : Addr).add j = ⟨g, off + j, none⟩ := by unfold Addr.add; split <;> simp_all
        rw [e3]
        exact ((Keeps.alloc (fun _ => False) w _).cell (a := ⟨g, off + j, none⟩) hg id).trans (hs j u hu)
    have hsrc := Lib.hid hsrc0
    have hone : ∀ u ∈ bvCells L, u.oneCell' = true := bvCells_one (g := w.heap.size) (fun q hq => (hLr q hq).toB (Nat.le_refl _))
    have HM := Lib.hid hLm
    have HR := Lib.hid hLr
    clear h hLm hLr hsrc0
    go_enter Try.func25, Try.ntmps25
    go_wp2_with (at_builtin; refine wpList_append_src rfl (.tmp 5) (.tmp 6) 22 rfl w.heap.size 42 i0 _ 6 64 Try.underlying22 hi hz0 hz1 hz2 rfl (by decide) _ _ _ rfl hmade.out _ _ _ rfl hsrc.out hone ?_ ?_ ?_ ?_)
    · unfold maxLen; omega
    · omega
    · simp
    intro v' w2 hown hgr
    have HS : Hid (Sl w2 w.heap.size 6 v' l.length (bvCells L)) := by
      have := Sl.ofOwn hown
      show Sl _ _ _ _ _ _
      simpa using this
    have HB : Hid (Below w.heap.size w w2) := ((Below.refl _ _).alloc (Nat.le_refl _) _).grown hgr (by simp) (fun k hk => (hmade.out.lt k hk).1)
    clear hown hgr
    go_wp2
    go_ret
    exact ⟨v', L, rfl, HS.out, HM.out, HR.out, HB.out⟩

end Go.Proofs.Ytccndbifnbmddaa
