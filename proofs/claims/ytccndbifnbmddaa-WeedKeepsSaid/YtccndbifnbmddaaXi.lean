/-
  WeedLater: the plain law.
  Conditions: none.
-/
import Derived.Test.YtccndbifnbmddaaXh
set_option linter.unusedVariables false
set_option linter.unusedSimpArgs false
namespace Go.Proofs.Ytccndbifnbmddaa

/-- The i-th record of a rising row. -/
def rxs (recs : List Cr.Rec) (i : Nat) : Cr.Rec := { (recs.getD i ⟨0, [], [], false⟩) with off := (i : Int) }
def risN (recs : List Cr.Rec) : Nat := min recs.length 40
theorem rxs_get {recs : List Cr.Rec} {i : Nat} {r : Cr.Rec} (h : recs[i]? = some r) : rxs recs i = { r with off := (i : Int) } := by
  simp [rxs, List.getD, h]
theorem ris_get {recs : List Cr.Rec} (ts : List Int) {i : Nat} (h : i < risN recs) : (rising recs ts)[i]? = some ⟨i, 1, 0, 0, timeOf ts i, [rxs recs i]⟩ := by
  have h1 : i < recs.length := by unfold risN at h; omega
  rw [rising, risL, List.getElem?_mapIdx, List.getElem?_take, if_pos (by unfold risN at h; omega), List.getElem?_eq_getElem h1]
  simp [risB, rxs, List.getD, h1]
theorem ris_len (recs : List Cr.Rec) (ts : List Int) : (rising recs ts).length = risN recs := by rw [rising, risL_len _ _ _ (Nat.min_le_left _ _)]; rfl
theorem mem_ris {recs : List Cr.Rec} {ts : List Int} {x : Cr.Rec} : x ∈ recsOf (rising recs ts) ↔ ∃ i, i < risN recs ∧ x = rxs recs i := by
  constructor
  · intro h
    obtain ⟨b, hb, hx⟩ := mem_recsOf.1 h
    obtain ⟨i, hi⟩ := List.getElem?_of_mem hb
    have hlt : i < risN recs := by rw [← ris_len recs ts]; exact (List.getElem?_eq_some_iff.1 hi).1
    rw [ris_get ts hlt] at hi
    injection hi with hi
    subst hi
    exact ⟨i, hlt, by simpa using hx⟩
  · rintro ⟨i, hi, rfl⟩
    exact mem_recsOf.2 ⟨_, List.mem_of_getElem? (ris_get ts hi), by simp⟩
open Classical in
/-- How many of the first k. -/
noncomputable def cntL (P : Nat → Prop) : Nat → Nat
  | 0 => 0
  | k + 1 => cntL P k + if P k then 1 else 0
theorem cntL_yes {P : Nat → Prop} {k : Nat} (h : P k) : cntL P (k + 1) = cntL P k + 1 := by simp [cntL, h]
theorem cntL_no {P : Nat → Prop} {k : Nat} (h : ¬ P k) : cntL P (k + 1) = cntL P k := by simp [cntL, h]
open Classical in
theorem cntL_len (P : Nat → Prop) (k : Nat) : cntL P k = ((List.range k).filter (fun i => decide (P i))).length := by
  induction k with
  | zero => rfl
  | succ k ih =>
    rw [cntL, ih, List.range_succ, List.filter_append, List.length_append]
    congr 1
    by_cases h : P k <;> simp [h]
/-- The key of none behind it, up to j. -/
def LastTo (recs : List Cr.Rec) (i j : Nat) : Prop := (rxs recs i).key ≠ [] ∧ ∀ m, i < m → m < j → (rxs recs m).key ≠ (rxs recs i).key
theorem live_last {recs : List Cr.Rec} {ts : List Int} {u : Int} {i j : Nat} (hi : i < risN recs) (hu : (i : Int) < u) (hj : j ≤ risN recs) (hju : (j : Int) ≤ u ∨ j = i + 1) (hend : ¬ (j < risN recs ∧ (j : Int) < u)) : Live u (recsOf (rising recs ts)) (rxs recs i) ↔ LastTo recs i j ∧ (rxs recs i).gone = false := by
  constructor
  · rintro ⟨_, hk, _, hg, hm⟩
    refine ⟨⟨hk, fun m h1 h2 e => ?_⟩, hg⟩
    have h3 : (m : Int) < u := by rcases hju with h | h <;> omega
    have := hm (rxs recs m) (mem_ris.2 ⟨m, by omega, rfl⟩) e h3
    have e1 : (rxs recs m).off = m := rfl
    have e2 : (rxs recs i).off = i := rfl
    omega
  · rintro ⟨⟨hk, hl⟩, hg⟩
    refine ⟨mem_ris.2 ⟨i, hi, rfl⟩, hk, hu, hg, fun z hz hzk hzu => ?_⟩
    obtain ⟨m, hm, rfl⟩ := mem_ris.1 hz
    have e1 : (rxs recs m).off = m := rfl
    have e2 : (rxs recs i).off = i := rfl
    rw [e1] at hzu
    rw [e1, e2]
    apply Classical.byContradiction
    intro hlt
    exact hl m (by omega) (by omega) hzk
theorem later_count {recs : List Cr.Rec} {ts : List Int} {u : Int} {f : List Cr.Rec} (h : FoldRes u (recsOf (rising recs ts)) f) {k : Nat} (hk : k ≤ risN recs) (hend : ¬ (k < risN recs ∧ (k : Int) < u)) (hku : ∀ i, i < k → (i : Int) < u) :
    cntL (fun i => Live u (recsOf (rising recs ts)) (rxs recs i)) k = f.length := by
  classical
  rw [cntL_len, ← List.length_map (f := rxs recs)]
  apply List.Perm.length_eq
  have hnf : f.Pairwise (fun a b => a ≠ b) := h.2.imp (fun {a b} hab (e : a = b) => by rw [e] at hab; exact List.lt_irrefl _ hab)
  have hoff : ∀ a b : Nat, rxs recs a = rxs recs b → a = b := fun a b e => by
    have : (rxs recs a).off = (rxs recs b).off := by rw [e]
    have e1 : (rxs recs a).off = a := rfl
    have e2 : (rxs recs b).off = b := rfl
    omega
  refine (List.perm_ext_iff_of_nodup ?_ hnf).2 (fun x => ?_)
  · refine List.pairwise_map.2 ?_
    exact (List.nodup_range.sublist List.filter_sublist).imp (fun {a b} hab e => hab (hoff a b e))
  · rw [h.1]
    simp only [List.mem_map, List.mem_filter, List.mem_range, decide_eq_true_eq]
    constructor
    · rintro ⟨i, ⟨_, hi⟩, rfl⟩; exact hi
    · intro hx
      obtain ⟨i, hi, rfl⟩ := mem_ris.1 hx.1
      have hlt := hx.2.2.1
      have e1 : (rxs recs i).off = i := rfl
      rw [e1] at hlt
      exact ⟨i, ⟨by omega, hx⟩, rfl⟩

end Go.Proofs.Ytccndbifnbmddaa
