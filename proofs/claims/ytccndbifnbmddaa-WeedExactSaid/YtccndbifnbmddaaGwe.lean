/-
  The laws' own filled: a row of sizes out of pairs of numbers. And awake.
  Conditions: none but the model's longest length.
-/
import Derived.Test.YtccndbifnbmddaaGwd
import Derived.Deep.RegionWith
set_option linter.unusedVariables false
set_option linter.unusedSimpArgs false
namespace Go.Proofs.Ytccndbifnbmddaa
open Go.RowKit Fl

/-- A slice of pairs of ints, however it came. -/
def Pairs (w : World) (v : Value) (zs : List (Int × Int)) : Prop :=
  ∃ a cap, v = .slice a zs.length cap ∧ ∀ i, i < zs.length → ∃ b off, a = some ⟨b, off, none⟩ ∧ b < w.heap.size ∧
    w.cell? ⟨b, off + i * 2, none⟩ = some (.int .i64 (zs.getD i (0, 0)).1) ∧ w.cell? ⟨b, off + i * 2 + 1, none⟩ = some (.int .i64 (zs.getD i (0, 0)).2)
theorem Pairs.kept {w w' : World} {v : Value} {zs : List (Int × Int)} (h : Pairs w v zs) (hb : Below w.heap.size w w') : Pairs w' v zs := by
  obtain ⟨a, cap, rfl, hc⟩ := h
  refine ⟨a, cap, rfl, fun i hi => ?_⟩
  obtain ⟨b, off, rfl, hlt, h1, h2⟩ := hc i hi
  exact ⟨b, off, rfl, Nat.lt_of_lt_of_le hlt hb.size, (hb.cell (p := ⟨b, off + i * 2, none⟩) hlt).trans h1, (hb.cell (p := ⟨b, off + i * 2 + 1, none⟩) hlt).trans h2⟩
/-- 'uint(x) % (1<<20)'. -/
def low (x : Int) : Nat := (x % 1048576).toNat
def lows (q : Int × Int) : Nat × Nat := (low q.1, low q.2)
theorem low_eq (x : Int) : (IntKind.u64.wrap x).tmod 1048576 = (low x : Int) := by
  have h0 : 0 ≤ IntKind.u64.wrap x := by rw [IntKind.wrap_u64]; omega
  rw [Int.tmod_eq_emod_of_nonneg h0, IntKind.wrap_u64]
  unfold low
  omega
theorem low_lt (x : Int) : low x < 1048576 := by unfold low; omega
theorem GRow.drewN {w : World} {B p : Nat} {v : Value} {ns : List (Nat × Nat)} (h : GRow w B p v ns) (n : Nat) : GRow (w.drewN n) B p v ns := h.kept (S := fun _ => False) (Keeps.drewN _ w n) id (fun _ _ => id)
def filledOf (zs : List (Int × Int)) : List (Nat × Nat) := (zs.take 60).map lows
def FilledPost (zs : List (Int × Int)) (w : World) (e : Ending) (w' : World) : Prop :=
  ∃ p v, e = .returned (.pointer (some ⟨p, 0, none⟩)) ∧ GRow w' w.heap.size p v (filledOf zs) ∧ Below w.heap.size w w'
theorem Turned.below {w w' : World} {B p : Nat} {v v' : Value} {ns : List (Nat × Nat)} (h : Turned w w' p v v') (hg : GRow w B p v ns) : Below B w w' :=
  h.1.toBelow (by have := hg.2.1; have := hg.lt; omega) (fun k hk hs => by
    rcases hs with rfl | hs
    · have := hg.2.1; omega
    · have := (hg.2.2.1.lt k hs).1; omega)

end Go.Proofs.Ytccndbifnbmddaa
