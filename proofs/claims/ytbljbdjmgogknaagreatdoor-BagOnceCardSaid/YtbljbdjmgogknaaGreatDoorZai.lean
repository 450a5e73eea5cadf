/-
  Gi: texts of one proof, one behind the other.
  Conditions: none of its own.
-/
import Derived.Test.YtbljbdjmgogknaaGreatDoorZah
import Derived.RangeFuncNested
import Derived.RangeFuncBound
import Derived.RangeFuncCalls
import Derived.RangeFuncLeaves
import Derived.Shelf.Abstract
import Derived.Shelf.RegionOpen
import Derived.WalkKit
import Derived.OwnWalkIn
import Derived.TacticsInMore
import Derived.LoopNIn
import Derived.LoopIn
/-
  Bag: All: the iterator, over what is under way.
  Conditions: what each of them is decoded to is known.
-/
set_option linter.unusedVariables false
set_option linter.unusedSimpArgs false
namespace Go.Proofs.YtbljbdjmgogknaaGreatDoor
open Go.RowKit Go.Shelf
attribute [local go_sem] Oper.semAt_some

theorem wpListIn_store_row {F : Fence} {n : Nat} {P : Program} {ops : Array Oper} {rest : List Oper} {o : Oper} {a : Act} {w : World} {Q : Exit → Act → World → Prop} (hgd : o.guard = none) (ty : TypeId) (x y : Operand) (ho : o.op = .store ty x y)
    (g : Nat) (cells : Array Value) (hx : a.eval x = .pointer (some ⟨g, 0, none⟩)) (hy : a.eval y = .agg cells)
    (t : TypeId) (old : Array Value) (hg : w.heap[g]? = some (.cells old t (0, 0))) (hi : (P.info? ty).map (·.size) = some cells.size)
    (hold : old.size = cells.size) (h1 : cells.all (·.oneCell') = true)
    (h : wpListIn F n P ops Q rest (a.put o.dst undef) (w.setRow g cells)) : wpListIn F n P ops Q (o :: rest) a w := by
  refine wpListIn_plain hgd fun K hK => ?_
  unfold Oper.wpIn
  refine ⟨?_, ?_⟩
  · simp [Oper.about, ho]
  · rw [Oper.semAt_eq _ _ _ (by simp [ho])]
    simp only [execOp, ho, hx, hy, Instr.storeAt, Instr.sureAddr, Sem.run_bind, Sem.run_pure, Result.andThen_ok, run_storeVar_row w g t ty old cells hg hi hold h1]
    exact hK _ _ h
theorem wpListIn_load_mid {F : Fence} {n : Nat} {P : Program} {ops : Array Oper} {rest : List Oper} {o : Oper} {a : Act} {w : World} {Q : Exit → Act → World → Prop} (hgd : o.guard = none) (ty : TypeId) (x : Operand) (ho : o.op = .load ty x)
    (b off : Nat) (hx : a.eval x = .pointer (some ⟨b, off, none⟩)) (cs : List Value) (d : TypeDesc) (hc : w.rangeAt b off cs)
    (hu : P.underlying ty = some d) (hd : d.isRow = true) (hi : (P.info? ty).map (·.size) = some cs.length)
    (h : wpListIn F n P ops Q rest (a.put o.dst (.agg cs.toArray)) w) : wpListIn F n P ops Q (o :: rest) a w := by
  refine wpListIn_plain hgd fun K hK => ?_
  unfold Oper.wpIn
  refine ⟨?_, ?_⟩
  · simp [Oper.about, ho]
  · rw [Oper.semAt_eq _ _ _ (by simp [ho])]
    simp only [execOp, ho, hx, Instr.loadAt, Instr.sureAddr, Sem.run_bind, Sem.run_pure, Result.andThen_ok, run_loadVar_mid w b off ty cs d hc hu hd hi]
    exact hK _ _ h
theorem bagAll_any (pb : Nat) (w : World) : Calls Tryz.prog 20 #[.pointer (some ⟨pb, 0, none⟩)] w fun e w' =>
    e = .returned (.func (.func 36) #[] #[.pointer (some ⟨w.heap.size, 0, none⟩)]) ∧ w.alloc (.cells #[.pointer (some ⟨pb, 0, none⟩)] 24) = w' := by
  go_enter Tryz.func20, Tryz.ntmps20
  go_wp2
  go_ret
  exact ⟨rfl, rfl⟩
set_option maxRecDepth 20000 in
set_option maxHeartbeats 800000 in
theorem cloneItems_any (B : Nat) (lv : Value) (l : List Item) (w : World) (h : Sl w B 2 lv l.length (itC l)) (hm : l.length ≤ 256) :
    Calls Tryz.prog 37 #[lv] w fun e w' => ∃ v, e = .returned v ∧ Sl w' w.heap.size 2 v l.length (itC l) ∧ Below w.heap.size w w' := by
  have heq : ∀ (a : Option Addr) (l c : Nat) (w : World), (binOp .eql 63 (.slice a l c) (.slice none 0 0)).run Tryz.prog w = .ok (.bool a.isNone) w := fun a l c w => Go.Lib.run_eql_slice_nil w 63 74 a l c 0 0 Tryz.underlying63
  rcases h.2 with ⟨rfl, h0⟩ | ⟨g, off, cap, rfl, hgB, hg, hnc, hmc, hr, ht⟩
  · obtain rfl : l = [] := List.eq_nil_of_length_eq_zero h0
    clear h
    go_enter Tryz.func37, Tryz.ntmps37
    go_wp2
    go_ret
    exact ⟨_, rfl, Sl.nil _ _ _, Below.refl _ _⟩
  · obtain ⟨i0, hi, hz0, hz1, hz2⟩ := info_parts infoItem
    have hmade : Hid (Sl (w.alloc (.cells #[] 74)) w.heap.size 2 (.slice (some ⟨w.heap.size, 0, none⟩) 0 0) 0 []) := Sl.ofOwn (e := 74) (World.ownsRow_made w #[] 0 (Nat.le_refl _) (by unfold maxLen; omega) rfl)
    have hsrc : Hid (SrcIs (w.alloc (.cells #[] 74)) 2 (.slice (some ⟨g, off, none⟩) l.length cap) l.length (itC l)) := by
      refine .inr ⟨_, _, rfl, itC_len l, fun j u hu => ?_⟩
      have e3 : (⟨g, off, none⟩ : Addr).add j = ⟨g, off + j, none⟩ := by unfold Addr.add; split <;> simp_all
      rw [e3]
      exact ((Keeps.alloc (fun _ => False) w _).cell (a := ⟨g, off + j, none⟩) hg id).trans (hr j u hu)
    have hone := itC_one l
    clear h hr ht
    go_enter Tryz.func37, Tryz.ntmps37
    go_wp2_with (at_builtin; refine wpList_append_sl rfl (.tmp 5) (.tmp 6) 63 rfl 74 i0 _ 2 24 Tryz.underlying63 hi hz0 hz1 hz2 rfl (by decide) w.heap.size _ _ _ rfl hmade.out _ _ _ rfl hsrc.out ?_ ?_ ?_ ?_ ?_)
    · exact hone
    · unfold maxLen; omega
    · omega
    · simp
    intro v' w2 hown hgr hnew
    have HO : Hid (Sl w2 w.heap.size 2 v' l.length (itC l)) := by
      show Sl _ _ _ _ _ _
      simpa using hown
    have HB : Hid (Below w.heap.size w w2) := ((Below.refl _ _).alloc (Nat.le_refl _) _).grown hgr (by simp) (fun k hk => by simp [Value.ownBlock] at hk; omega)
    clear hown hgr hnew
    go_wp2
    go_ret
    exact ⟨_, rfl, HO.out, HB.out⟩

/-- What a round keeps: all that stood at the beginning, and all cells made since n₀. -/
structure KpA (n₁ n₀ : Nat) (A B : World) : Prop where
  bel : Below n₁ A B
  size : A.heap.size ≤ B.heap.size
  keep : ∀ g o, n₀ ≤ g → A.heap[g]? = some o → Obj.isCells o = true → B.heap[g]? = some o
theorem KpA.trans {n₁ n₀ : Nat} {A B C : World} (h : KpA n₁ n₀ A B) (k : KpA n₁ n₀ B C) : KpA n₁ n₀ A C :=
  ⟨h.bel.trans k.bel, Nat.le_trans h.size k.size, fun g o hn hg ho => k.keep g o hn (h.keep g o hn hg ho) ho⟩
theorem KpA.book {n₁ n₀ : Nat} {w : World} (h1 : n₁ ≤ w.heap.size) (W : World) (l : Nat) (o o' : Obj) (hl : w.heap.size ≤ l) (h : W.heap[l]? = some o) (ho : Obj.isCells o = false) (_ : o.isWalk = false) : KpA n₁ n₀ W (W.putObj l o') := by
  refine ⟨belowK_b h1 W l o o' hl h ho (by assumption), by simp, fun g o1 _ hg ho1 => ?_⟩
  rw [World.putObj_heap_other (fun e => by subst e; rw [h] at hg; injection hg with hg; subst hg; rw [ho] at ho1; cases ho1)]
  exact hg
theorem cells_of_cell {w : World} {a : Addr} {u : Value} (h : w.cell? a = some u) : ∃ o, w.heap[a.block]? = some o ∧ Obj.isCells o = true := by
  unfold World.cell? at h
  split at h
  · rename_i hb
    exact ⟨_, hb, rfl⟩
  · cases h
/-- The clone, still as it was made. -/
def CloneI (wr : World) (n₀ : Nat) (v : Value) (l : List Item) : Prop :=
  ∀ k x, l[k]? = some x → ∃ g off cap, v = .slice (some ⟨g, off, none⟩) l.length cap ∧ n₀ ≤ g ∧ g < wr.heap.size ∧ wr.cell? ⟨g, off + k * 2, none⟩ = some (.string ⟨x.1.toArray⟩) ∧ wr.cell? ⟨g, off + k * 2 + 1, none⟩ = some (.int .i64 x.2)
theorem CloneI.kept {n₁ n₀ : Nat} {A B : World} {v : Value} {l : List Item} (h : CloneI A n₀ v l) (k : KpA n₁ n₀ A B) : CloneI B n₀ v l := fun j x hj => by
  obtain ⟨g, off, cap, e, hg, hlt, hc, hd⟩ := h j x hj
  obtain ⟨o, ho, hoc⟩ := cells_of_cell hc
  have hb := (k.keep g o hg ho hoc).trans ho.symm
  exact ⟨g, off, cap, e, hg, Nat.lt_of_lt_of_le hlt k.size, (World.cell?_of_block hb).trans hc, (World.cell?_of_block hb).trans hd⟩
theorem CloneI.below {n₀ : Nat} {A B : World} {v : Value} {l : List Item} (h : CloneI A n₀ v l) (hb : Below A.heap.size A B) : CloneI B n₀ v l := fun j x hj => by
  obtain ⟨g, off, cap, e, hg, hlt, hc, hd⟩ := h j x hj
  exact ⟨g, off, cap, e, hg, Nat.lt_of_lt_of_le hlt hb.size, (hb.cell (p := ⟨g, off + j * 2, none⟩) hlt).trans hc, (hb.cell (p := ⟨g, off + j * 2 + 1, none⟩) hlt).trans hd⟩
theorem CloneI.of {w w' : World} {n₀ : Nat} {v : Value} {l : List Item} (h : Sl w' w.heap.size 2 v l.length (itC l)) (hn : n₀ ≤ w.heap.size) : CloneI w' n₀ v l := fun k x hk => by
  rcases h.2 with ⟨_, h0⟩ | ⟨g, off, cap, rfl, hB, hg, hc, hm, hr, ht⟩
  · have := (List.getElem?_eq_some_iff.1 hk).1; omega
  · exact ⟨g, off, cap, rfl, by omega, hg, hr _ _ (itC_at hk).1, by rw [Nat.add_assoc]; exact hr _ _ (itC_at hk).2⟩

end Go.Proofs.YtbljbdjmgogknaaGreatDoor
