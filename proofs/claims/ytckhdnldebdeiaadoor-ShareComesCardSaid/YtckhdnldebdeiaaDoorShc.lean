/-
  ShareComes: plainly, and the walk.
  Conditions: none.
-/
import Derived.Test.YtckhdnldebdeiaaDoorShf
import Derived.Test.YtckhdnldebdeiaaDoorShn
import Derived.Deep.RegionHeld3
set_option linter.unusedVariables false
set_option linter.unusedSimpArgs false
namespace Go.Proofs.YtckhdnldebdeiaaDoor
open Go.RowKit

theorem parts_at {parts : Int} {ms : List Sh.Nm} (hg : Sh.good ms = true) (hp0 : 0 ≤ parts) (hp1 : parts ≤ 4) {k : Nat} (hk : k < ms.length) : (Sh.partsOf (ms.getD k []) 1 (Sh.ass parts ms)).length = Sh.cnt (parts - 1).toNat ms.length k := by
  rw [(fair_of hg (by omega) hp0 hp1).at_ k hk, range_len]
theorem ass_out {parts : Int} {ms : List Sh.Nm} (h : ¬(0 ≤ parts ∧ parts ≤ 4)) : Sh.ass parts ms = [] := by
  have : Sh.fits parts ms = false := by
    rw [Sh.fits]
    by_cases h0 : 0 ≤ parts
    · rw [decide_eq_false (p := parts ≤ 4) (by omega)]; simp
    · rw [decide_eq_false (p := 0 ≤ parts) h0]; simp
  exact ass_none this
theorem comes_le {parts : Int} {l : List Sh.Nm} {one : Sh.Nm} {j : Nat} (hj : j ≤ l.length) (hg : Sh.good l = true) (hg2 : Sh.good (l.take j ++ one :: l.drop j) = true) {i : Nat} (hi : i < l.length) :
    (Sh.partsOf (l.getD i []) 1 (Sh.ass parts (l.take j ++ one :: l.drop j))).length ≤ (Sh.partsOf (l.getD i []) 1 (Sh.ass parts l)).length := by
  by_cases hp : 0 ≤ parts ∧ parts ≤ 4
  · have hlen : (l.take j ++ one :: l.drop j).length = l.length + 1 := by
      rw [List.length_append, List.length_cons, List.length_take, List.length_drop]
      omega
    have h4 : l.length + 1 ≤ 4 := by
      simp only [Sh.good, Bool.and_eq_true, decide_eq_true_eq] at hg2
      rw [← hlen]
      exact hg2.2
    rw [parts_at hg hp.1 hp.2 hi]
    have t := Sh.tab3 ⟨(parts - 1).toNat, by omega⟩ ⟨l.length, by omega⟩ ⟨i, by omega⟩ (by simp; omega)
    by_cases hij : i < j
    · have e : (l.take j ++ one :: l.drop j).getD i [] = l.getD i [] := by
        rw [List.getD_eq_getElem?_getD, List.getD_eq_getElem?_getD, List.getElem?_append_left (by rw [List.length_take]; omega), List.getElem?_take, if_pos hij]
      rw [← e, parts_at hg2 hp.1 hp.2 (by rw [hlen]; omega), hlen]
      exact t.2
    · have e : (l.take j ++ one :: l.drop j).getD (i + 1) [] = l.getD i [] := by
        have hlt : (l.take j).length = j := by rw [List.length_take]; omega
        rw [List.getD_eq_getElem?_getD, List.getD_eq_getElem?_getD, List.getElem?_append_right (by omega), hlt, show i + 1 - j = (i - j) + 1 by omega, List.getElem?_cons_succ, List.getElem?_drop, show j + (i - j) = i by omega]
      rw [← e, parts_at hg2 hp.1 hp.2 (by rw [hlen]; omega), hlen]
      exact t.1
  · rw [ass_out hp]
    exact Nat.zero_le _
theorem infoStr : (Tryd.prog.info? 9).map (fun i => (i.zero, i.size, i.bytes)) = some (some (.string ⟨#[]⟩), 1, 16) := by kernel_rfl
/-- A slice of the call's own that holds these texts. -/
def StrS (w : World) (base : Nat) (v : Value) (ls : List Sh.Nm) : Prop := w.ownsRow base 9 1 v ls.length (ls.map fun x => Value.string ⟨x.toArray⟩)
theorem StrS.txts {w : World} {base : Nat} {v : Value} {ls : List Sh.Nm} (h : StrS w base v ls) : Txts w v ls := by
  have hh := h
  rcases h.2 with ⟨rfl, h0⟩ | ⟨g, cap, cur, rfl, hB, hg, hn, hm, hs, ht⟩
  · exact ⟨none, 0, by rw [h0], fun i hi => by omega⟩
  · refine ⟨_, cap, rfl, fun i hi => ⟨g, 0, rfl, (Array.getElem?_eq_some_iff.1 hg).1, ?_⟩⟩
    have := hh.cells (g := g) rfl i (.string ⟨(ls.getD i []).toArray⟩) (by simp [List.getD, hi])
    rwa [Addr.add_mid] at this
theorem StrS.form {w : World} {base : Nat} {v : Value} {ls : List Sh.Nm} (h : StrS w base v ls) : ∃ a cap, v = .slice a ls.length cap ∧ ls.length ≤ cap ∧ cap ≤ maxLen := by
  rcases h.2 with ⟨rfl, h0⟩ | ⟨g, cap, cur, rfl, hB, hg, hn, hm, hs, ht⟩
  · exact ⟨none, 0, by rw [h0], by omega, by unfold maxLen; omega⟩
  · exact ⟨_, cap, rfl, hn, hm⟩
theorem str_src (w : World) (x : Sh.Nm) : SrcIs (w.alloc (.cells #[.string ⟨x.toArray⟩] 9)) 1 (.slice (some ⟨w.heap.size, 0, none⟩) 1 1) 1 [.string ⟨x.toArray⟩] := by
  refine .inr ⟨_, 1, rfl, rfl, fun j u hu => ?_⟩
  rw [Addr.add_mid, Nat.zero_add, cell_of_row (w.alloc _) w.heap.size j _ _ (0, 0) (heap_alloc_new w _)]
  simpa using hu
/-- The names with the new one among them, or not yet. -/
def Ins (one : Sh.Nm) (l : List Sh.Nm) (d : Bool) (acc : List Sh.Nm) : Prop := if d then ∃ j, j ≤ l.length ∧ acc = l.take j ++ one :: l.drop j else acc = l
theorem Ins.snoc {one : Sh.Nm} {l acc : List Sh.Nm} {d : Bool} (h : Ins one l d acc) (x : Sh.Nm) : Ins one (l ++ [x]) d (acc ++ [x]) := by
  cases d with
  | false =>
    simp only [Ins, Bool.false_eq_true, if_false] at h ⊢
    rw [h]
  | true =>
    simp only [Ins, if_true] at h ⊢
    obtain ⟨j, hj, rfl⟩ := h
    refine ⟨j, by rw [List.length_append]; omega, ?_⟩
    rw [List.take_append_of_le_length hj, List.drop_append_of_le_length hj]
    simp
theorem Ins.put {one : Sh.Nm} {l acc : List Sh.Nm} (h : Ins one l false acc) : Ins one l true (acc ++ [one]) := by
  simp only [Ins, Bool.false_eq_true, if_false] at h
  subst h
  simp only [Ins, if_true]
  exact ⟨acc.length, Nat.le_refl _, by simp⟩
theorem Ins.len {one : Sh.Nm} {l acc : List Sh.Nm} {d : Bool} (h : Ins one l d acc) : acc.length ≤ l.length + 1 := by
  cases d with
  | false =>
    simp only [Ins, Bool.false_eq_true, if_false] at h
    rw [h]; omega
  | true =>
    simp only [Ins, if_true] at h
    obtain ⟨j, hj, rfl⟩ := h
    rw [List.length_append, List.length_cons, List.length_take, List.length_drop]
    omega
theorem Ins.mem {one : Sh.Nm} {l acc : List Sh.Nm} {d : Bool} (h : Ins one l d acc) : ∀ x ∈ acc, x = one ∨ x ∈ l := by
  cases d with
  | false =>
    simp only [Ins, Bool.false_eq_true, if_false] at h
    rw [h]
    exact fun x hx => .inr hx
  | true =>
    simp only [Ins, if_true] at h
    obtain ⟨j, hj, rfl⟩ := h
    intro x hx
    rcases List.mem_append.1 hx with hx | hx
    · exact .inr (List.mem_of_mem_take hx)
    · rcases List.mem_cons.1 hx with rfl | hx
      · exact .inl rfl
      · exact .inr (List.mem_of_mem_drop hx)

end Go.Proofs.YtckhdnldebdeiaaDoor
