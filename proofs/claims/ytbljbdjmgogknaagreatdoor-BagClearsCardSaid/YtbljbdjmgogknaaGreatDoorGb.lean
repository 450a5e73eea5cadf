/-
  Bag: one of the list is taken out (slices.Delete).
  Conditions: it is there.
-/
import Derived.Test.YtbljbdjmgogknaaGreatDoorGa
import Derived.Deep.AppendSrc
import Derived.Lib.JoinLaws
import Derived.Lib.SliceRun
set_option linter.unusedVariables false
set_option linter.unusedSimpArgs false
namespace Go.Proofs.YtbljbdjmgogknaaGreatDoor
open Go.RowKit

theorem itC_take (l : List Item) (k : Nat) : itC (l.take k) = (itC l).take (k * 2) := by
  induction l generalizing k with
  | nil => simp [itC]
  | cons x l ih =>
    cases k with
    | zero => simp [itC]
    | succ k =>
      have := ih k
      simp only [itC, List.take_succ_cons, List.flatMap_cons] at this ⊢
      rw [this, show (k + 1) * 2 = k * 2 + 1 + 1 by omega]
      rfl
theorem itC_drop (l : List Item) (k : Nat) : itC (l.drop k) = (itC l).drop (k * 2) := by
  induction l generalizing k with
  | nil => simp [itC]
  | cons x l ih =>
    cases k with
    | zero => simp [itC]
    | succ k =>
      have := ih k
      simp only [itC, List.drop_succ_cons, List.flatMap_cons] at this ⊢
      rw [this, show (k + 1) * 2 = k * 2 + 1 + 1 by omega]
      rfl
def DelPost (B : Nat) (l : List Item) (k : Nat) (lv : Value) (w : World) (e : Ending) (w' : World) : Prop :=
  ∃ v', e = .returned v' ∧ v'.ownBlock = lv.ownBlock ∧ Sl w' B 2 v' (l.eraseIdx k).length (itC (l.eraseIdx k)) ∧ Keeps (fun j => lv.ownBlock = some j) w w'
theorem run_clear_rows {P : Program} (w : World) (t e ty : TypeId) (z : Value) (ht : P.underlying t = some (.slice e)) (hv : ∀ w, (zeroValue e).run P w = .ok z w) (b o n c : Nat) (hn : 0 < n)
    (h1 : ∀ v ∈ (Builtin.zeroCells z.cells n).toList, v.oneCell' = true)
    (hc : ∀ j, j < (Builtin.zeroCells z.cells n).toList.length → (w.cell? ⟨b, o + j, none⟩).isSome = true) (hf : ∀ j, j < (Builtin.zeroCells z.cells n).toList.length → w.frozen? ⟨b, o + j, none⟩ = false) :
    (Builtin.clear_ #[t] ty #[.slice (some ⟨b, o, none⟩) n c]).run P w = .ok (.tuple #[]) (w.setCells b o (Builtin.zeroCells z.cells n).toList) := by
  have hst := run_storeCells_cells (P := P) b o (Builtin.zeroCells z.cells n).toList 0 w (by simpa using hc) (by simpa using hf) h1
  simp only [Nat.add_zero] at hst
  obtain ⟨m, rfl⟩ : ∃ m, n = m + 1 := ⟨n - 1, by omega⟩
  simp [Builtin.clear_, run_underlying ht, hv, hst]
theorem wpList_clear {P : Program} {w : World} {ops : Array Oper} {rest : List Oper} {o : Oper} {a : Act} {Q : Exit → Act → World → Prop} (hgd : o.guard = none) (x : Operand) (t : TypeId)
    (ho : o.op = .call { callee := .builtin .clear, args := #[x], argTypes := #[t] }) (v : Value) (hx : a.eval x = v) (w' : World) (hr : ∀ ty, (Builtin.clear_ #[t] ty #[v]).run P w = .ok (.tuple #[]) w')
    (h : wpList P ops Q rest (a.put o.dst (.tuple #[])) w') : wpList P ops Q (o :: rest) a w := by
  refine wpList_plain hgd fun K hK => ?_
  unfold Oper.wp execOp
  simp only [ho, resolve, invoke, builtin, Sem.run_bind, Sem.run_pure, Result.andThen_ok, List.map_toArray, List.map_cons, List.map_nil, hx, hr]
  exact hK _ _ h
theorem Keeps.cells {S : Nat → Prop} (w : World) (g o : Nat) (vs : List Value) (h : S g) : Keeps S w (w.setCells g o vs) := by
  induction vs generalizing o w with
  | nil => exact Keeps.refl _ _
  | cons v r ih => exact (Keeps.setCell S w ⟨g, o, none⟩ v h).trans (ih _ _)
set_option maxRecDepth 20000 in
set_option maxHeartbeats 3200000 in
theorem bagDelete (B : Nat) (l : List Item) (k : Nat) (hk : k < l.length) (hl : l.length ≤ 256) (lv : Value) (w : World) (h : Sl w B 2 lv l.length (itC l)) :
    Calls Tryz.prog 27 #[lv, .int .i64 k, .int .i64 (k + 1)] w (DelPost B l k lv w) := by
  obtain ⟨n, hnl⟩ : ∃ n, n = l.length := ⟨_, rfl⟩
  rw [← hnl] at hk hl h
  rcases h.2 with ⟨_, h0⟩ | ⟨g, off, cap, rfl, hB, hg, hn, hm, hr, ht⟩
  · omega
  have hm' : cap ≤ 2 ^ 63 - 1 := hm
  obtain ⟨i0, hi, hz0, hz1, hz2⟩ := info_parts infoItem
  have hlen : (itC l).length = n * 2 := by rw [hnl]; exact itC_len l
  -- what is moved
  have hnews : ((itC l).drop ((k + 1) * 2)).length = (n - (k + 1)) * 2 := by rw [List.length_drop, hlen]; omega
  obtain ⟨A, hA, hcell⟩ : ∃ A : Addr, (if cap = k + 1 then some (⟨g, off, none⟩ : Addr) else some ⟨g, off + (k + 1) * 2, none⟩) = some A ∧ Hid (∀ j u, ((itC l).drop ((k + 1) * 2))[j]? = some u → w.drew.cell? (A.add j) = some u) := by
    by_cases hc : cap = k + 1
    · refine ⟨⟨g, off, none⟩, by simp [hc], fun j u hu => ?_⟩
      have h0 : ((itC l).drop ((k + 1) * 2)).length = 0 := by rw [hnews]; omega
      rw [List.length_eq_zero_iff.1 h0] at hu
      simp at hu
    · refine ⟨⟨g, off + (k + 1) * 2, none⟩, by simp [hc], fun j u hu => ?_⟩
      rw [Addr.add_mid]
      have := hr ((k + 1) * 2 + j) u (by rw [← hu, List.getElem?_drop])
      rw [show off + (k + 1) * 2 + j = off + ((k + 1) * 2 + j) by omega]
      exact this
  have hone : Hid (∀ u ∈ (itC l).drop ((k + 1) * 2), u.oneCell' = true) := fun u hu => itC_one l u (List.mem_of_mem_drop hu)
  have hspare : Hid (∀ j, j < ((itC l).drop ((k + 1) * 2)).length → (w.drew.cell? ⟨g, off + k * 2 + j, none⟩).isSome = true ∧ w.drew.frozen? ⟨g, off + k * 2 + j, none⟩ = false) := fun j hj => by
    rw [hnews] at hj
    have := ht (k * 2 + j) (by omega)
    rw [show off + (k * 2 + j) = off + k * 2 + j by omega] at this
    exact this
  have HN := Lib.hid hnews
  have HE : Hid (itC (l.eraseIdx k) = (itC l).take (k * 2) ++ (itC l).drop ((k + 1) * 2)) := by rw [Hid, List.eraseIdx_eq_take_drop_succ, itC_append, itC_take, itC_drop]
  have HEL : Hid ((l.eraseIdx k).length = n - 1) := by rw [Hid, hnl]; exact List.length_eraseIdx_of_lt (hnl ▸ hk)
  have W1 : ∃ w1, w.drew.setCells g (off + k * 2) ((itC l).drop ((k + 1) * 2)) = w1 ∧ Hid (w1.rangeAt g off (itC (l.eraseIdx k))) ∧ Hid (w1.there g off (cap * 2)) ∧ Hid (Keeps (fun j => j = g) w w1) := by
    refine ⟨_, rfl, ?_, World.there_setCells (w := w.drew) ht _ _ _, (Keeps.drew _ _).trans (Keeps.cells _ _ _ _ rfl)⟩
    rw [Hid, HE.out]
    have hlt : ((itC l).take (k * 2)).length = k * 2 := by rw [List.length_take, hlen]; omega
    refine rangeAt_append ?_ ?_
    · refine World.rangeAt_setCells_apart (w := w.drew) (fun j v hv => ?_) _ _ _ (.inr (.inl (by rw [hlt]; omega)))
      have hj : j < k * 2 := by have := (List.getElem?_eq_some_iff.1 hv).1; rw [hlt] at this; exact this
      rw [List.getElem?_take_of_lt hj] at hv
      exact hr j v hv
    · rw [hlt]
      exact World.rangeAt_setCells_same _ _ _ _ (fun j hj => hspare.out j hj)
  obtain ⟨w1, hw1, R1, T1, K1⟩ := W1
  have HW1 := Lib.hid hw1
  clear hw1
  have hzv := Tryz.zeroValue74
  have HNL := Lib.hid hnl
  clear hnl hlen hr ht h hnews
  generalize hnw : (itC l).drop ((k + 1) * 2) = news at *
  clear hnw
  have hkk : ((k : Int) == (k : Int) + 1) = false := by rw [beq_eq_false_iff_ne]; omega
  have hkn : (k : Int) + 1 ≤ (n : Int) := by omega
  have hk0 : (0 : Int) ≤ (k : Int) + 1 := by omega
  have hki : (k : Int) ≤ (n : Int) := by omega
  have hkc : k ≤ cap := by omega
  have hne : n ≠ k := by omega
  have hne2 : ¬ n = k := by omega
  have hp2 : ((k : Int) + 1).toNat = k + 1 := by omega
  go_enter Tryz.func27, Tryz.ntmps27
  go_upto_region 5 with (fail)
  go_region_law (first
    | (refine step_append_room rfl (.tmp 22) (.tmp 25) 63 rfl 74 i0 2 Tryz.underlying63 hi hz1 g off k cap (by simp [Act.eval, Act.put]) A (n - (k + 1)) (cap - (k + 1)) news (by simp [Act.eval, Act.put]) HN.out hcell.out hone.out (by omega) hspare.out ?_))
  rename_i K hK
  refine hK _ _ ?_
  clear hK K
  simp only [Act.put, List.getElem_toArray, List.getElem_cons_succ, List.getElem_cons_zero]
  rw [HW1.out, show k + (n - (k + 1)) = n - 1 by omega]
  clear HW1 hcell hone hspare HN hA
  have hm1 : ((n - 1 : Nat) : Int) ≤ (n : Int) := by omega
  have hm2 : ((n - 1 : Nat) : Int) ≤ (cap : Int) := by omega
  have hm3 : n - 1 ≤ n := by omega
  have hm4 : n - (n - 1) = 1 := by omega
  have hm5 : cap ≠ n - 1 := by omega
  have hm6 : ¬ cap = n - 1 := by omega
  have hm7 : n ≠ n - 1 := by omega
  have hzl : (Builtin.zeroCells (Value.agg #[Value.string { data := #[] }, Value.int IntKind.i64 0]).cells 1).toList = [Value.string { data := #[] }, Value.int IntKind.i64 0] := by kernel_rfl
  have hcl := run_clear_rows (P := Tryz.prog) w1 63 74 63 (Value.agg #[Value.string { data := #[] }, Value.int IntKind.i64 0]) Tryz.underlying63 hzv g (off + (n - 1) * 2) 1 (cap - (n - 1)) Nat.one_pos (by rw [hzl]; simp [Value.oneCell']) (fun j hj => by
    rw [hzl] at hj
    have := (T1.out ((n - 1) * 2 + j) (by simp at hj; omega)).1
    rw [← Nat.add_assoc] at this
    exact this) (fun j hj => by
    rw [hzl] at hj
    have := (T1.out ((n - 1) * 2 + j) (by simp at hj; omega)).2
    rw [← Nat.add_assoc] at this
    exact this)
  have HCL := Lib.hid hcl
  clear hcl hzv
  go_wp2_with (first
    | (refine wpList_clear rfl _ _ rfl _ rfl _ (fun _ => HCL.out) ?_))
  go_ret
  have hown : (Value.slice (some ⟨g, off, none⟩) n cap).ownBlock = some g := by
    simp only [Value.ownBlock]
  generalize hzz : (Builtin.zeroCells #[Value.string { data := #[] }, Value.int IntKind.i64 0] 1).toList = zz
  have K2 : Keeps (fun j => j = g) w (w1.setCells g (off + (n - 1) * 2) zz) := K1.out.trans (Keeps.cells _ _ _ _ rfl)
  refine ⟨.slice (some ⟨g, off, none⟩) (n - 1) cap, rfl, ?_, ⟨itC_len _, .inr ⟨g, off, cap, by rw [HEL.out], hB, Nat.lt_of_lt_of_le hg K2.size, by rw [HEL.out]; omega, hm, ?_, World.there_setCells (w := w1) T1.out _ _ _⟩⟩, ⟨K2.os, K2.tape, K2.output, K2.size, fun i hi hs => K2.block i hi (fun e => hs (by subst e; exact hown))⟩⟩
  · rfl
  · refine World.rangeAt_setCells_apart (w := w1) R1.out _ _ _ (.inr (.inl ?_))
    rw [itC_len, HEL.out]
    omega
end Go.Proofs.YtbljbdjmgogknaaGreatDoor
