/-
  The laws' own filled: a row of sizes out of pairs of numbers. And awake.
  Conditions: none but the model's longest length.
-/
import Derived.Test.YtadioaeeobmdgaaGwd
import Derived.Deep.RegionWith
set_option linter.unusedVariables false
set_option linter.unusedSimpArgs false
namespace Go.Proofs.Ytadioaeeobmdgaa
open Go.RowKit Fl

/-- A slice of pairs of ints, however it came. -/
def Pairs (w : World) (v : Value) (zs : List (Int × Int)) : Prop :=
  ∃ a cap, v = .slice a zs.length cap ∧ ∀ i, i < zs.length → ∃ b off, a = some ⟨b, off, none⟩ ∧ b < w.heap.size ∧
    w.cell? ⟨b, off + i * 2, none⟩ = some (.int .i64 (zs.getD i (0, 0)).1) ∧ w.cell? ⟨b, off + i * 2 + 1, none⟩ = some (.int .i64 (zs.getD i (0, 0)).2)
theorem Pairs.kept {w w' : World} {v : Value} {zs : List (Int × Int)} (h : Pairs w v zs) (hb : Below w.heap.size w w') : Pairs w' v zs := by
  obtain ⟨a, cap, rfl, hc⟩ := h
  refine ⟨a, cap, rfl, fun i hi => ?_⟩
  obtain ⟨b, off, rfl, hlt, h1, h2⟩ := hc i hi
  exact ⟨b, off, rfl, Nat.lt_of_lt_of_le hlt hb.size, (hb.cell (p := ⟨b, off + i * 2, none⟩) hlt).trans h1, (hb.cell (p := ⟨b, off + i * 2 + 1, none⟩) hlt).trans h2⟩
/-- 'uint(x) % (1<<20)'. -/
def low (x : Int) : Nat := (x % 1048576).toNat
def lows (q : Int × Int) : Nat × Nat := (low q.1, low q.2)
theorem low_eq (x : Int) : (IntKind.u64.wrap x).tmod 1048576 = (low x : Int) := by
  have h0 : 0 ≤ IntKind.u64.wrap x := by rw [IntKind.wrap_u64]; omega
  rw [Int.tmod_eq_emod_of_nonneg h0, IntKind.wrap_u64]
  unfold low
  omega
theorem low_lt (x : Int) : low x < 1048576 := by unfold low; omega
theorem GRow.drewN {w : World} {B p : Nat} {v : Value} {ns : List (Nat × Nat)} (h : GRow w B p v ns) (n : Nat) : GRow (w.drewN n) B p v ns := h.kept (S := fun _ => False) (Keeps.drewN _ w n) id (fun _ _ => id)
def filledOf (zs : List (Int × Int)) : List (Nat × Nat) := (zs.take 60).map lows
def FilledPost (zs : List (Int × Int)) (w : World) (e : Ending) (w' : World) : Prop :=
  ∃ p v, e = .returned (.pointer (some ⟨p, 0, none⟩)) ∧ GRow w' w.heap.size p v (filledOf zs) ∧ Below w.heap.size w w'
theorem Turned.below {w w' : World} {B p : Nat} {v v' : Value} {ns : List (Nat × Nat)} (h : Turned w w' p v v') (hg : GRow w B p v ns) : Below B w w' :=
  h.1.toBelow (by have := hg.2.1; have := hg.lt; omega) (fun k hk hs => by
    rcases hs with rfl | hs
    · have := hg.2.1; omega
    · have := (hg.2.2.1.lt k hs).1; omega)

set_option maxHeartbeats 800000 in
theorem filled_any (v : Value) (zs : List (Int × Int)) (w : World) (h : Pairs w v zs) (hm : zs.length ≤ maxLen) :
    Calls Try.prog 10 #[v] w (FilledPost zs w) := by
  have HP := Lib.hid h
  obtain ⟨a, cap, rfl, hcl⟩ := h
  clear hcl
  unfold maxLen at hm
  have hnew : Hid (GRow (w.alloc (.cells #[.slice none 0 0] 64)) w.heap.size w.heap.size (.slice none 0 0) []) := GRow.new w _ (Nat.le_refl _)
  go_enter Try.func10, Try.ntmps10
  go_wp2_with fail
  refine (new_any _).mono ?_
  rintro e w1 ⟨rfl, rfl⟩
  go_wp2
  go_loopw [4] (fun i wr => ∃ k : Nat, i = .int .i64 k ∧ k ≤ zs.length ∧ k ≤ 60 ∧ (∃ vr, GRow wr w.heap.size w.heap.size vr ((zs.take k).map lows)) ∧ Below w.heap.size w wr) (fun i _ => zs.length - (intOf i).toNat)
  case atStart => exact ⟨0, rfl, by omega, by omega, ⟨_, hnew.out⟩, (Below.refl _ _).alloc (Nat.le_refl _) _⟩
  case round =>
    obtain ⟨k, rfl, hk, hk60, ⟨vr, hg⟩, hbel⟩ := hrel
    have HG := Lib.hid hg
    have HB := Lib.hid hbel
    have HP2 := Lib.hid (HP.out.kept hbel)
    clear hg hbel
    by_cases hlt : k < zs.length
    · by_cases hlt6 : k < 60
      · obtain ⟨a', cap', he, hcells⟩ := HP2.out
        injection he with he1 he2 he3
        subst he1 he3
        obtain ⟨b, off, rfl, hblt, hc1, hc2⟩ := hcells k hlt
        clear hcells
        have hnext : Hid (((zs.take (k + 1)).map lows) = (zs.take k).map lows ++ [lows (zs.getD k (0, 0))]) := by
          rw [Hid, List.take_succ_eq_append_getElem hlt, List.map_append, show zs.getD k (0, 0) = zs[k] by simp [List.getD, hlt]]
          rfl
        generalize zs.getD k (0, 0) = q at hc1 hc2 hnext
        obtain ⟨q1, q2⟩ := q
        have e1 := low_eq q1
        have e2 := low_eq q2
        have f1 := floatOfInt_fl (low q1)
        have f2 := floatOfInt_fl (low q2)
        have p1 := Lib.hid (part_fl (n := low q1) (by have := low_lt q1; rw [most_eq]; omega))
        have p2 := Lib.hid (part_fl (n := low q2) (by have := low_lt q2; rw [most_eq]; omega))
        have hidx : ((zs.take k).map lows).length < 4096 := by rw [List.length_map, List.length_take]; omega
        simp only at hc1 hc2
        go_wp2_with fail
        go_region_with (go_at_call 18; refine (push_any w.heap.size w.heap.size vr ((zs.take k).map lows) (fl (low q1)) (fl (low q2)) (low q1) (low q2) _ (HG.out.drewN 1) hidx p1.out p2.out).mono ?_; rintro e w2 ⟨rfl, v2, hg2, ht2⟩)
        all_goals
          have hN : Hid ((∃ vr, GRow w2 w.heap.size w.heap.size vr ((zs.take (k + 1)).map lows)) ∧ Below w.heap.size w w2) :=
            ⟨⟨v2, by rw [hnext.out]; exact hg2⟩, (below_drewN HB.out 1).trans (ht2.below (HG.out.drewN 1))⟩
          clear hg2 ht2
          go_wp2
          go_roundw
          case rel => exact ⟨k + 1, by go_num, by omega, by omega, hN.out.1, hN.out.2⟩
          case measure => simp [intOf]; omega
      · have hk6 : k = 60 := by omega
        subst hk6
        go_wp2
        go_ret
        exact ⟨_, _, rfl, HG.out, HB.out⟩
    · obtain rfl : k = zs.length := by omega
      go_wp2
      go_ret
      refine ⟨_, vr, rfl, ?_, HB.out⟩
      have e : filledOf zs = (zs.take zs.length).map lows := by rw [filledOf, List.take_length, List.take_of_length_le hk60]
      rw [e]
      exact HG.out

end Go.Proofs.Ytadioaeeobmdgaa
