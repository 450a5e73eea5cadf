/-
  slices.Clone at sizes.
  Conditions: none but the model's longest length.
-/
import Derived.Test.YtadioaeeobmdgaaGwe
import Derived.WalkLawsBesides
import Derived.RangeFuncBound
import Derived.RangeFuncOwn
set_option linter.unusedVariables false
set_option linter.unusedSimpArgs false
namespace Go.Proofs.Ytadioaeeobmdgaa
open Go.RowKit Fl

/-- A slice of sizes in memory that was made since the world had B blocks. -/
def Fresh (w : World) (B : Nat) (v : Value) (ns : List (Nat × Nat)) : Prop :=
  ∃ a cap, v = .slice a ns.length cap ∧ ∀ k, k < ns.length → ∃ g off, a = some ⟨g, off, none⟩ ∧ B ≤ g ∧ w.cell? ⟨g, off + k, none⟩ = some (cx (ns.getD k (0, 0)))
theorem clone_any (B : Nat) (v : Value) (ns : List (Nat × Nat)) (w : World) (h : Sl w B 1 v ns.length (ns.map cx)) (hl : ns.length ≤ 4096) :
    Calls Try.prog 31 #[v] w fun e w' => ∃ v', e = .returned v' ∧ Fresh w' w.heap.size v' ns ∧ w.grownBy w' none := by
  have H := Lib.hid h
  obtain ⟨a, cap, rfl, hle, ha⟩ := h.form
  clear h
  have heq : ∀ (a : Option Addr) (l c : Nat) (w : World), (binOp .eql 62 (.slice a l c) (.slice none 0 0)).run Try.prog w = .ok (.bool a.isNone) w := fun a l c w => Go.Lib.run_eql_slice_nil w 62 30 a l c 0 0 Try.underlying62
  rcases H.out.2 with ⟨hv, hn⟩ | ⟨g, off, cap', hv, hB, hg, hn, hm, hr, ht⟩
  · injection hv with e1 e2 e3
    subst e1 e3
    rw [hn]
    go_enter Try.func31, Try.ntmps31
    go_wp2
    go_ret
    refine ⟨_, rfl, ⟨none, 0, by rw [hn]; rfl, fun k hk => by omega⟩, ?_⟩
    exact ⟨rfl, rfl, rfl, Nat.le_refl _, fun _ _ _ => rfl⟩
  · injection hv with e1 e2 e3
    subst e1 e3
    go_enter Try.func31, Try.ntmps31
    obtain ⟨i0, hi, hz0, hz1, hz2⟩ := info_parts infoCx
    have hmade : Hid ((w.alloc (.cells #[] 30)).ownsRow w.heap.size 30 1 (.slice (some ⟨w.heap.size, 0, none⟩) 0 0) 0 []) := World.ownsRow_made w #[] 0 (Nat.le_refl _) (by unfold maxLen; omega) rfl
    have hsrc : Hid (SrcIs (w.alloc (.cells #[] 30)) 1 (.slice (some ⟨g, off, none⟩) ns.length cap) ns.length (ns.map cx)) := by
      refine .inr ⟨_, _, rfl, by simp, fun j u hu => ?_⟩
      have e : (⟨g, off, none⟩ : Addr).add j = ⟨g, off + j, none⟩ := by unfold Addr.add; split <;> simp_all
      rw [e]
      exact ((Keeps.alloc (fun _ => False) w _).cell (a := ⟨g, off + j, none⟩) hg id).trans (hr j u hu)
    have hone : ∀ u ∈ ns.map cx, u.oneCell' = true := by
      intro u hu
      obtain ⟨q, _, rfl⟩ := List.mem_map.1 hu
      rfl
    clear hr ht ha
    go_wp2_with (at_builtin; refine wpList_append_src rfl (.tmp 5) (.tmp 6) 62 rfl w.heap.size 30 i0 (.complex .f64 0 0) 1 16 Try.underlying62 hi hz0 hz1 hz2 rfl (by decide) _ _ _ rfl hmade.out _ _ _ rfl hsrc.out hone ?_ ?_ ?_ ?_)
    · unfold maxLen; omega
    · omega
    intro v' w2 hown hgr
    have hpost : Hid (Fresh w2 w.heap.size v' ns ∧ w.grownBy w2 none) := by
      constructor
      · rcases (Sl.ofOwn hown).2 with ⟨hv, hn⟩ | ⟨g', off', cap', hv, hB', hg', hn', hm', hr', ht'⟩
        · exact ⟨none, 0, by rw [hn]; exact hv, fun k hk => by omega⟩
        · refine ⟨_, cap', hv, fun k hk => ⟨g', off', rfl, hB', hr' k _ (by simp [List.getD, hk])⟩⟩
      · refine ⟨hgr.os, hgr.tape, hgr.output, Nat.le_trans (by simp) hgr.size, fun k hk _ => ?_⟩
        exact (hgr.block k (by simp; omega) (by intro e; simp [Value.ownBlock] at e; omega)).trans (Below.heap_alloc w _ k hk)
    clear hown hgr
    go_wp2
    go_ret
    exact ⟨v', rfl, hpost.out.1, hpost.out.2⟩

end Go.Proofs.Ytadioaeeobmdgaa
