/-
  Share: the laws' great, awake, the document's comparison of numbers, walked.
  Conditions: the model's longest length.
-/
import Derived.Test.YtckhdnldebdeiaaDoorShy
import Derived.Deep.QuietTactic
import Derived.BigQuiet
import Derived.RegionTactic
set_option linter.unusedVariables false
set_option linter.unusedSimpArgs false
namespace Go.Proofs.YtckhdnldebdeiaaDoor
open Go.RowKit

def greatB (ls : List Sh.Nm) : Bool := decide (50 < ls.length) || ls.any (fun l => decide (1000 < l.length))
theorem greatB_no {ls : List Sh.Nm} (h : greatB ls = false) : ls.length ≤ 50 ∧ ∀ l ∈ ls, l.length ≤ 1000 := by
  simp only [greatB, Bool.or_eq_false_iff, decide_eq_false_iff_not, List.any_eq_false, decide_eq_true_eq] at h
  exact ⟨by omega, fun l hl => by have := h.2 l hl; omega⟩
theorem great_any (v : Value) (ms : List Sh.Nm) (w : World) (h : Txts w v ms) (hm : ms.length ≤ maxLen) (hl : ∀ l ∈ ms, l.length ≤ maxLen) :
    Calls Tryd.prog 7 #[v] w fun e w' => e = .returned (.bool (greatB ms)) ∧ w' = w := by
  have HZ := Lib.hid h
  have HL := Lib.hid hl
  obtain ⟨a, cap, rfl, _⟩ := h
  unfold maxLen at hm
  clear hl
  by_cases h50 : ms.length ≤ 50
  · go_enter Tryd.func7, Tryd.ntmps7
    go_wp2
    go_loopw [3] (fun i wr => ∃ k : Nat, i = .int .i64 k ∧ k ≤ ms.length ∧ (∀ j, j < k → (ms.getD j []).length ≤ 1000) ∧ wr = w) (fun i _ => ms.length - (intOf i).toNat)
    case atStart => exact ⟨0, rfl, by omega, by omega, rfl⟩
    case round =>
      obtain ⟨k, rfl, hk, ha, rfl⟩ := hrel
      have HA := Lib.hid ha
      clear ha
      by_cases hlt : k < ms.length
      · obtain ⟨a', cap', he, hcells⟩ := HZ.out
        injection he with he1 he2 he3
        subst he1 he3
        obtain ⟨g, off, rfl, hgg, hc1⟩ := hcells k hlt
        have hxl := HL.out (ms.getD k []) (by simp [List.getD, hlt])
        unfold maxLen at hxl
        have HN : Hid ((ms.getD k []).length ≤ 1000 → ∀ j, j < k + 1 → (ms.getD j []).length ≤ 1000) := fun hx j hj => by
          by_cases e : j = k
          · rw [e]; exact hx
          · exact HA.out j (by omega)
        have HG : Hid (1000 < (ms.getD k []).length → greatB ms = true) := fun hx => by
          have hmem : ms.getD k [] ∈ ms := by simp [List.getD, hlt]
          rw [greatB, List.any_eq_true.2 ⟨_, hmem, decide_eq_true hx⟩, Bool.or_true]
        clear hcells he2 hgg
        generalize ms.getD k [] = x at *
        by_cases hx : x.length ≤ 1000
        · go_wp2
          go_roundw
          case rel => exact ⟨k + 1, by go_num, by omega, HN.out hx, by first | rfl | trivial⟩
          case measure => simp [intOf]; omega
        · have HE := Lib.hid (HG.out (by omega))
          go_wp2
          go_ret
          exact ⟨by rw [HE.out]; rfl, rfl⟩
      · obtain rfl : k = ms.length := by omega
        have HE : Hid (greatB ms = false) := by
          rw [Hid, greatB, decide_eq_false (by omega), Bool.false_or, List.any_eq_false]
          intro l hl
          obtain ⟨i, hi, rfl⟩ := List.getElem_of_mem hl
          have := HA.out i hi
          simp [List.getD, hi] at this
          simp
          omega
        go_wp2
        go_ret
        exact ⟨by rw [HE.out]; rfl, rfl⟩
  · have HE : Hid (greatB ms = true) := by rw [Hid, greatB, decide_eq_true (by omega)]; rfl
    go_enter Tryd.func7, Tryd.ntmps7
    go_wp2
    go_ret
    exact ⟨by rw [HE.out]; rfl, rfl⟩
theorem ints_same (v u : Value) (zs : List Int) (w : World) (h : Ints w v zs) (k : Ints w u zs) (hm : zs.length ≤ maxLen) :
    Calls Tryd.prog 12 #[v, u] w fun e w' => e = .returned (.bool true) ∧ ∃ n, w' = w.drewN n := by
  have HV := Lib.hid h
  have HU := Lib.hid k
  obtain ⟨a, cap, rfl, _⟩ := h
  obtain ⟨b, capb, rfl, _⟩ := k
  unfold maxLen at hm
  go_enter Tryd.func12, Tryd.ntmps12
  go_wp2
  go_loopw [5] (fun i wr => ∃ k n : Nat, i = .int .i64 k ∧ k ≤ zs.length ∧ wr = w.drewN n) (fun i _ => zs.length - (intOf i).toNat)
  case atStart => exact ⟨0, 0, rfl, by omega, rfl⟩
  case round =>
    obtain ⟨k, n, rfl, hk, rfl⟩ := hrel
    by_cases hlt : k < zs.length
    · obtain ⟨a', cap', he, hcells⟩ := HV.out
      injection he with he1 he2 he3
      subst he1 he3
      obtain ⟨g, off, rfl, hgg, hc1⟩ := hcells k hlt
      obtain ⟨b', capb', heb, hcellsb⟩ := HU.out
      injection heb with heb1 heb2 heb3
      subst heb1 heb3
      obtain ⟨gb, offb, rfl, hggb, hcb1⟩ := hcellsb k hlt
      clear hcells hcellsb he2 heb2 hgg hggb
      generalize zs.getD k 0 = z at *
      go_wp2_with fail
      go_quiet (fail)
      go_wp2
      go_roundw
      case rel => exact ⟨k + 1, _, by go_num, by omega, rfl⟩
      case measure => simp [intOf]; omega
    · obtain rfl : k = zs.length := by omega
      go_wp2
      go_ret
      exact ⟨rfl, n, rfl⟩
theorem IntS.ints {w : World} {base : Nat} {v : Value} {ns : List Nat} (h : IntS w base v ns) : Ints w v (ns.map fun n : Nat => (n : Int)) := by
  obtain ⟨a, cap, rfl, _, _, hc⟩ := h.read
  refine ⟨a, cap, by rw [List.length_map], fun i hi => ?_⟩
  rw [List.length_map] at hi
  obtain ⟨g, rfl, hg, _, h1⟩ := hc i hi
  refine ⟨g, 0, rfl, hg, ?_⟩
  rw [Nat.zero_add, h1]
  simp [List.getD, hi]

end Go.Proofs.YtckhdnldebdeiaaDoor
