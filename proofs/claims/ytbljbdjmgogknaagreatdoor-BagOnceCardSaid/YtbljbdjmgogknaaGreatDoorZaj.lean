/-
  Gb / Gc / Wg0 / Gf / Gd / Ge: texts of one proof, one behind the other.
  Conditions: none of its own.
-/
import Derived.Test.YtbljbdjmgogknaaGreatDoorZac
import Derived.Test.YtbljbdjmgogknaaGreatDoorZaf
import Derived.Test.YtbljbdjmgogknaaGreatDoorZah
import Derived.Deep.AppendSrc
import Derived.Lib.JoinLaws
import Derived.Lib.SliceRun
/-
  Bag: one of the list is taken out (slices.Delete).
  Conditions: it is there.
-/
set_option linter.unusedVariables false
set_option linter.unusedSimpArgs false
namespace Go.Proofs.YtbljbdjmgogknaaGreatDoor
open Go.RowKit

theorem itC_take (l : List Item) (k : Nat) : itC (l.take k) = (itC l).take (k * 2) := by
  induction l generalizing k with
  | nil => simp [itC]
  | cons x l ih =>
    cases k with
    | zero => simp [itC]
    | succ k =>
      have := ih k
      simp only [itC, List.take_succ_cons, List.flatMap_cons] at this ⊢
      rw [this, show (k + 1) * 2 = k * 2 + 1 + 1 by omega]
      rfl
theorem itC_drop (l : List Item) (k : Nat) : itC (l.drop k) = (itC l).drop (k * 2) := by
  induction l generalizing k with
  | nil => simp [itC]
  | cons x l ih =>
    cases k with
    | zero => simp [itC]
    | succ k =>
      have := ih k
      simp only [itC, List.drop_succ_cons, List.flatMap_cons] at this ⊢
      rw [this, show (k + 1) * 2 = k * 2 + 1 + 1 by omega]
      rfl
def DelPost (B : Nat) (l : List Item) (k : Nat) (lv : Value) (w : World) (e : Ending) (w' : World) : Prop :=
  ∃ v', e = .returned v' ∧ v'.ownBlock = lv.ownBlock ∧ Sl w' B 2 v' (l.eraseIdx k).length (itC (l.eraseIdx k)) ∧ Keeps (fun j => lv.ownBlock = some j) w w'
theorem run_clear_rows {P : Program} (w : World) (t e ty : TypeId) (z : Value) (ht : P.underlying t = some (.slice e)) (hv : ∀ w, (zeroValue e).run P w = .ok z w) (b o n c : Nat) (hn : 0 < n)
    (h1 : ∀ v ∈ (Builtin.zeroCells z.cells n).toList, v.oneCell' = true)
    (hc : ∀ j, j < (Builtin.zeroCells z.cells n).toList.length → (w.cell? ⟨b, o + j, none⟩).isSome = true) (hf : ∀ j, j < (Builtin.zeroCells z.cells n).toList.length → w.frozen? ⟨b, o + j, none⟩ = false) :
    (Builtin.clear_ #[t] ty #[.slice (some ⟨b, o, none⟩) n c]).run P w = .ok (.tuple #[]) (w.setCells b o (Builtin.zeroCells z.cells n).toList) := by
  have hst := run_storeCells_cells (P := P) b o (Builtin.zeroCells z.cells n).toList 0 w (by simpa using hc) (by simpa using hf) h1
  simp only [Nat.add_zero] at hst
  obtain ⟨m, rfl⟩ : ∃ m, n = m + 1 := ⟨n - 1, by omega⟩
  simp [Builtin.clear_, run_underlying ht, hv, hst]
theorem wpList_clear {P : Program} {w : World} {ops : Array Oper} {rest : List Oper} {o : Oper} {a : Act} {Q : Exit → Act → World → Prop} (hgd : o.guard = none) (x : Operand) (t : TypeId)
    (ho : o.op = .call { callee := .builtin .clear, args := #[x], argTypes := #[t] }) (v : Value) (hx : a.eval x = v) (w' : World) (hr : ∀ ty, (Builtin.clear_ #[t] ty #[v]).run P w = .ok (.tuple #[]) w')
    (h : wpList P ops Q rest (a.put o.dst (.tuple #[])) w') : wpList P ops Q (o :: rest) a w := by
  refine wpList_plain hgd fun K hK => ?_
  unfold Oper.wp execOp
  simp only [ho, resolve, invoke, builtin, Sem.run_bind, Sem.run_pure, Result.andThen_ok, List.map_toArray, List.map_cons, List.map_nil, hx, hr]
  exact hK _ _ h
theorem Keeps.cells {S : Nat → Prop} (w : World) (g o : Nat) (vs : List Value) (h : S g) : Keeps S w (w.setCells g o vs) := by
  induction vs generalizing o w with
  | nil => exact Keeps.refl _ _
  | cons v r ih => exact (Keeps.setCell S w ⟨g, o, none⟩ v h).trans (ih _ _)
set_option maxRecDepth 20000 in
set_option maxHeartbeats 3200000 in
theorem bagDelete (B : Nat) (l : List Item) (k : Nat) (hk : k < l.length) (hl : l.length ≤ 256) (lv : Value) (w : World) (h : Sl w B 2 lv l.length (itC l)) :
    Calls Tryz.prog 27 #[lv, .int .i64 k, .int .i64 (k + 1)] w (DelPost B l k lv w) := by
  obtain ⟨n, hnl⟩ : ∃ n, n = l.length := ⟨_, rfl⟩
  rw [← hnl] at hk hl h
  rcases h.2 with ⟨_, h0⟩ | ⟨g, off, cap, rfl, hB, hg, hn, hm, hr, ht⟩
  · omega
  have hm' : cap ≤ 2 ^ 63 - 1 := hm
  obtain ⟨i0, hi, hz0, hz1, hz2⟩ := info_parts infoItem
  have hlen : (itC l).length = n * 2 := by rw [hnl]; exact itC_len l
  -- what is moved
  have hnews : ((itC l).drop ((k + 1) * 2)).length = (n - (k + 1)) * 2 := by rw [List.length_drop, hlen]; omega
  obtain ⟨A, hA, hcell⟩ : ∃ A : Addr, (if cap = k + 1 then some (⟨g, off, none⟩ : Addr) else some ⟨g, off + (k + 1) * 2, none⟩) = some A ∧ Hid (∀ j u, ((itC l).drop ((k + 1) * 2))[j]? = some u → w.drew.cell? (A.add j) = some u) := by
    by_cases hc : cap = k + 1
    · refine ⟨⟨g, off, none⟩, by simp [hc], fun j u hu => ?_⟩
      have h0 : ((itC l).drop ((k + 1) * 2)).length = 0 := by rw [hnews]; omega
      rw [List.length_eq_zero_iff.1 h0] at hu
      simp at hu
    · refine ⟨⟨g, off + (k + 1) * 2, none⟩, by simp [hc], fun j u hu => ?_⟩
      rw [Addr.add_mid]
      have := hr ((k + 1) * 2 + j) u (by rw [← hu, List.getElem?_drop])
      rw [show off + (k + 1) * 2 + j = off + ((k + 1) * 2 + j) by omega]
      exact this
  have hone : Hid (∀ u ∈ (itC l).drop ((k + 1) * 2), u.oneCell' = true) := fun u hu => itC_one l u (List.mem_of_mem_drop hu)
  have hspare : Hid (∀ j, j < ((itC l).drop ((k + 1) * 2)).length → (w.drew.cell? ⟨g, off + k * 2 + j, none⟩).isSome = true ∧ w.drew.frozen? ⟨g, off + k * 2 + j, none⟩ = false) := fun j hj => by
    rw [hnews] at hj
    have := ht (k * 2 + j) (by omega)
    rw [show off + (k * 2 + j) = off + k * 2 + j by omega] at this
    exact this
  have HN := Lib.hid hnews
  have HE : Hid (itC (l.eraseIdx k) = (itC l).take (k * 2) ++ (itC l).drop ((k + 1) * 2)) := by rw [Hid, List.eraseIdx_eq_take_drop_succ, itC_append, itC_take, itC_drop]
  have HEL : Hid ((l.eraseIdx k).length = n - 1) := by rw [Hid, hnl]; exact List.length_eraseIdx_of_lt (hnl ▸ hk)
  have W1 : ∃ w1, w.drew.setCells g (off + k * 2) ((itC l).drop ((k + 1) * 2)) = w1 ∧ Hid (w1.rangeAt g off (itC (l.eraseIdx k))) ∧ Hid (w1.there g off (cap * 2)) ∧ Hid (Keeps (fun j => j = g) w w1) := by
    refine ⟨_, rfl, ?_, World.there_setCells (w := w.drew) ht _ _ _, (Keeps.drew _ _).trans (Keeps.cells _ _ _ _ rfl)⟩
    rw [Hid, HE.out]
    have hlt : ((itC l).take (k * 2)).length = k * 2 := by rw [List.length_take, hlen]; omega
    refine rangeAt_append ?_ ?_
    · refine World.rangeAt_setCells_apart (w := w.drew) (fun j v hv => ?_) _ _ _ (.inr (.inl (by rw [hlt]; omega)))
      have hj : j < k * 2 := by have := (List.getElem?_eq_some_iff.1 hv).1; rw [hlt] at this; exact this
      rw [List.getElem?_take_of_lt hj] at hv
      exact hr j v hv
    · rw [hlt]
      exact World.rangeAt_setCells_same _ _ _ _ (fun j hj => hspare.out j hj)
  obtain ⟨w1, hw1, R1, T1, K1⟩ := W1
  have HW1 := Lib.hid hw1
  clear hw1
  have hzv := Tryz.zeroValue74
  have HNL := Lib.hid hnl
  clear hnl hlen hr ht h hnews
  generalize hnw : (itC l).drop ((k + 1) * 2) = news at *
  clear hnw
  have hkk : ((k : Int) == (k : Int) + 1) = false := by rw [beq_eq_false_iff_ne]; omega
  have hkn : (k : Int) + 1 ≤ (n : Int) := by omega
  have hk0 : (0 : Int) ≤ (k : Int) + 1 := by omega
  have hki : (k : Int) ≤ (n : Int) := by omega
  have hkc : k ≤ cap := by omega
  have hne : n ≠ k := by omega
  have hne2 : ¬ n = k := by omega
  have hp2 : ((k : Int) + 1).toNat = k + 1 := by omega
  go_enter Tryz.func27, Tryz.ntmps27
  go_upto_region 5 with (fail)
  go_region_law (first
    | (refine step_append_room rfl (.tmp 22) (.tmp 25) 63 rfl 74 i0 2 Tryz.underlying63 hi hz1 g off k cap (by simp [Act.eval, Act.put]) A (n - (k + 1)) (cap - (k + 1)) news (by simp [Act.eval, Act.put]) HN.out hcell.out hone.out (by omega) hspare.out ?_))
  rename_i K hK
  refine hK _ _ ?_
  clear hK K
  simp only [Act.put, List.getElem_toArray, List.getElem_cons_succ, List.getElem_cons_zero]
  rw [HW1.out, show k + (n - (k + 1)) = n - 1 by omega]
  clear HW1 hcell hone hspare HN hA
  have hm1 : ((n - 1 : Nat) : Int) ≤ (n : Int) := by omega
  have hm2 : ((n - 1 : Nat) : Int) ≤ (cap : Int) := by omega
  have hm3 : n - 1 ≤ n := by omega
  have hm4 : n - (n - 1) = 1 := by omega
  have hm5 : cap ≠ n - 1 := by omega
  have hm6 : ¬ cap = n - 1 := by omega
  have hm7 : n ≠ n - 1 := by omega
  have hzl : (Builtin.zeroCells (Value.agg #[Value.string { data := #[] }, Value.int IntKind.i64 0]).cells 1).toList = [Value.string { data := #[] }, Value.int IntKind.i64 0] := by kernel_rfl
  have hcl := run_clear_rows (P := Tryz.prog) w1 63 74 63 (Value.agg #[Value.string { data := #[] }, Value.int IntKind.i64 0]) Tryz.underlying63 hzv g (off + (n - 1) * 2) 1 (cap - (n - 1)) Nat.one_pos (by rw [hzl]; simp [Value.oneCell']) (fun j hj => by
    rw [hzl] at hj
    have := (T1.out ((n - 1) * 2 + j) (by simp at hj; omega)).1
    rw [← Nat.add_assoc] at this
    exact this) (fun j hj => by
    rw [hzl] at hj
    have := (T1.out ((n - 1) * 2 + j) (by simp at hj; omega)).2
    rw [← Nat.add_assoc] at this
    exact this)
  have HCL := Lib.hid hcl
  clear hcl hzv
  go_wp2_with (first
    | (refine wpList_clear rfl _ _ rfl _ rfl _ (fun _ => HCL.out) ?_))
  go_ret
  have hown : (Value.slice (some ⟨g, off, none⟩) n cap).ownBlock = some g := by
    simp only [Value.ownBlock]
  generalize hzz : (Builtin.zeroCells #[Value.string { data := #[] }, Value.int IntKind.i64 0] 1).toList = zz
  have K2 : Keeps (fun j => j = g) w (w1.setCells g (off + (n - 1) * 2) zz) := K1.out.trans (Keeps.cells _ _ _ _ rfl)
  refine ⟨.slice (some ⟨g, off, none⟩) (n - 1) cap, rfl, ?_, ⟨itC_len _, .inr ⟨g, off, cap, by rw [HEL.out], hB, Nat.lt_of_lt_of_le hg K2.size, by rw [HEL.out]; omega, hm, ?_, World.there_setCells (w := w1) T1.out _ _ _⟩⟩, ⟨K2.os, K2.tape, K2.output, K2.size, fun i hi hs => K2.block i hi (fun e => hs (by subst e; exact hown))⟩⟩
  · rfl
  · refine World.rangeAt_setCells_apart (w := w1) R1.out _ _ _ (.inr (.inl ?_))
    rw [itC_len, HEL.out]
    omega
end Go.Proofs.YtbljbdjmgogknaaGreatDoor
/-
  Bag: Take (printed by wip/gen/mkbag2.py).
  Conditions: what is decoded is known.
-/
set_option linter.unusedVariables false
set_option linter.unusedSimpArgs false
namespace Go.Proofs.YtbljbdjmgogknaaGreatDoor
open Go.RowKit

def DecPost (D : List Value → World → Prop) (W : World) (e : Ending) (w' : World) : Prop :=
  ∃ cs, e = .returned (.tuple #[.agg cs.toArray, .int .i64 0]) ∧ cs.length = 38 ∧ cs.all (·.oneCell') = true ∧ Below W.heap.size W w' ∧ (∀ S b, Keeps S w' b → (∀ j, W.heap.size ≤ j → j < w'.heap.size → ¬ S j) → D cs b)
def TakePost (B pb : Nat) (lv : Value) (l : List Item) (D : List Value → World → Prop) (w : World) (e : Ending) (w' : World) : Prop :=
  ∃ cs lv', e = .returned (.tuple #[.agg cs.toArray, .bool true]) ∧ D cs w' ∧ BagW w' B pb lv' l ∧ BagK pb lv lv' w w'
def NoPost (B pb : Nat) (lv : Value) (l : List Item) (w : World) (e : Ending) (w' : World) : Prop :=
  e = .returned (.tuple #[.agg (.int .i64 0 :: .int .i64 0 :: .int .i64 0 :: .int .i64 0 :: .int .i64 0 :: .int .i64 0 :: .int .i64 0 :: .int .i64 0 :: .int .i64 0 :: .slice none 0 0 :: .int .i64 0 :: .slice none 0 0 :: .int .i64 0 :: .int .i64 0 :: .int .i64 0 :: .int .i64 0 :: .int .i64 0 :: .slice none 0 0 :: .slice none 0 0 :: .int .i64 0 :: .int .i64 0 :: .int .i64 0 :: .int .i64 0 :: .int .i64 0 :: .int .i64 0 :: .int .i64 0 :: .int .i64 0 :: .string ⟨#[]⟩ :: .string ⟨#[]⟩ :: .slice none 0 0 :: .int .i64 0 :: .int .i64 0 :: .int .i64 0 :: .int .i64 0 :: .int .i64 0 :: .int .i64 0 :: .slice none 0 0 :: .slice none 0 0 :: []).toArray, .bool false]) ∧ BagW w' B pb lv l ∧ Below w.heap.size w w'
set_option maxRecDepth 20000 in
set_option maxHeartbeats 3200000 in
theorem bagTake_no (B pb : Nat) (lv : Value) (l : List Item) (n : Int) (hn : ¬ (0 ≤ n ∧ n < l.length)) (w : World) (h : BagW w B pb lv l) :
    Calls Tryz.prog 12 #[.pointer (some ⟨pb, 0, none⟩), .int .i64 n] w (NoPost B pb lv l w) := by
  have H0 := Lib.hid h
  clear h
  have HI38 := Lib.hid (show (Tryz.prog.info? 44).map (·.size) = some ((.int .i64 0 :: .int .i64 0 :: .int .i64 0 :: .int .i64 0 :: .int .i64 0 :: .int .i64 0 :: .int .i64 0 :: .int .i64 0 :: .int .i64 0 :: .slice none 0 0 :: .int .i64 0 :: .slice none 0 0 :: .int .i64 0 :: .int .i64 0 :: .int .i64 0 :: .int .i64 0 :: .int .i64 0 :: .slice none 0 0 :: .slice none 0 0 :: .int .i64 0 :: .int .i64 0 :: .int .i64 0 :: .int .i64 0 :: .int .i64 0 :: .int .i64 0 :: .int .i64 0 :: .int .i64 0 :: .string ⟨#[]⟩ :: .string ⟨#[]⟩ :: .slice none 0 0 :: .int .i64 0 :: .int .i64 0 :: .int .i64 0 :: .int .i64 0 :: .int .i64 0 :: .int .i64 0 :: .slice none 0 0 :: .slice none 0 0 :: []) : List Value).length by kernel_rfl)
  have HI39 := Lib.hid (show (Tryz.prog.info? 44).map (·.size) = some ((.int .i64 0 :: .int .i64 0 :: .int .i64 0 :: .int .i64 0 :: .int .i64 0 :: .int .i64 0 :: .int .i64 0 :: .int .i64 0 :: .int .i64 0 :: .slice none 0 0 :: .int .i64 0 :: .slice none 0 0 :: .int .i64 0 :: .int .i64 0 :: .int .i64 0 :: .int .i64 0 :: .int .i64 0 :: .slice none 0 0 :: .slice none 0 0 :: .int .i64 0 :: .int .i64 0 :: .int .i64 0 :: .int .i64 0 :: .int .i64 0 :: .int .i64 0 :: .int .i64 0 :: .int .i64 0 :: .string ⟨#[]⟩ :: .string ⟨#[]⟩ :: .slice none 0 0 :: .int .i64 0 :: .int .i64 0 :: .int .i64 0 :: .int .i64 0 :: .int .i64 0 :: .int .i64 0 :: .slice none 0 0 :: .slice none 0 0 :: []).toArray : Array Value).size by kernel_rfl)
  have HONE : Hid (((.int .i64 0 :: .int .i64 0 :: .int .i64 0 :: .int .i64 0 :: .int .i64 0 :: .int .i64 0 :: .int .i64 0 :: .int .i64 0 :: .int .i64 0 :: .slice none 0 0 :: .int .i64 0 :: .slice none 0 0 :: .int .i64 0 :: .int .i64 0 :: .int .i64 0 :: .int .i64 0 :: .int .i64 0 :: .slice none 0 0 :: .slice none 0 0 :: .int .i64 0 :: .int .i64 0 :: .int .i64 0 :: .int .i64 0 :: .int .i64 0 :: .int .i64 0 :: .int .i64 0 :: .int .i64 0 :: .string ⟨#[]⟩ :: .string ⟨#[]⟩ :: .slice none 0 0 :: .int .i64 0 :: .int .i64 0 :: .int .i64 0 :: .int .i64 0 :: .int .i64 0 :: .int .i64 0 :: .slice none 0 0 :: .slice none 0 0 :: []).toArray : Array Value).all (·.oneCell') = true) := by simp [Hid, Value.oneCell']
  go_enter Tryz.func12, Tryz.ntmps12
  obtain ⟨w1, hw1, CR, B1⟩ := oneBox (w := w) (.int .i64 0 :: .int .i64 0 :: .int .i64 0 :: .int .i64 0 :: .int .i64 0 :: .int .i64 0 :: .int .i64 0 :: .int .i64 0 :: .int .i64 0 :: .slice none 0 0 :: .int .i64 0 :: .slice none 0 0 :: .int .i64 0 :: .int .i64 0 :: .int .i64 0 :: .int .i64 0 :: .int .i64 0 :: .slice none 0 0 :: .slice none 0 0 :: .int .i64 0 :: .int .i64 0 :: .int .i64 0 :: .int .i64 0 :: .int .i64 0 :: .int .i64 0 :: .int .i64 0 :: .int .i64 0 :: .string ⟨#[]⟩ :: .string ⟨#[]⟩ :: .slice none 0 0 :: .int .i64 0 :: .int .i64 0 :: .int .i64 0 :: .int .i64 0 :: .int .i64 0 :: .int .i64 0 :: .slice none 0 0 :: .slice none 0 0 :: []) 44
  have HW1 := Lib.hid hw1
  clear hw1
  go_upto_region 1 with (fail)
  first | rw [HW1.out] | skip
  clear HW1
  have H1 := Lib.hid (H0.out.below B1.out)
  have HH := bagHas_any B pb lv l n w1 H1.out
  rw [show decide (0 ≤ n ∧ n < (l.length : Int)) = false from decide_eq_false hn] at HH
  have HHA := Lib.hid HH
  clear HH hn
  obtain ⟨pr, hpr⟩ : ∃ pr, pr = w.heap.size := ⟨_, rfl⟩
  rw [← hpr] at CR
  first | rw [← hpr] | skip
  have HPR := Lib.hid hpr
  clear hpr
  go_wp2_with fail
  refine HHA.out.mono ?_
  rintro e w2 ⟨rfl, rfl⟩
  have CQ : Hid (w2.heap[pr]? = some (.cells (.int .i64 0 :: .int .i64 0 :: .int .i64 0 :: .int .i64 0 :: .int .i64 0 :: .int .i64 0 :: .int .i64 0 :: .int .i64 0 :: .int .i64 0 :: .slice none 0 0 :: .int .i64 0 :: .slice none 0 0 :: .int .i64 0 :: .int .i64 0 :: .int .i64 0 :: .int .i64 0 :: .int .i64 0 :: .slice none 0 0 :: .slice none 0 0 :: .int .i64 0 :: .int .i64 0 :: .int .i64 0 :: .int .i64 0 :: .int .i64 0 :: .int .i64 0 :: .int .i64 0 :: .int .i64 0 :: .string ⟨#[]⟩ :: .string ⟨#[]⟩ :: .slice none 0 0 :: .int .i64 0 :: .int .i64 0 :: .int .i64 0 :: .int .i64 0 :: .int .i64 0 :: .int .i64 0 :: .slice none 0 0 :: .slice none 0 0 :: []).toArray 44 (0, 0))) := CR.out
  have CF : Hid (Cl (w2.setRow pr (.int .i64 0 :: .int .i64 0 :: .int .i64 0 :: .int .i64 0 :: .int .i64 0 :: .int .i64 0 :: .int .i64 0 :: .int .i64 0 :: .int .i64 0 :: .slice none 0 0 :: .int .i64 0 :: .slice none 0 0 :: .int .i64 0 :: .int .i64 0 :: .int .i64 0 :: .int .i64 0 :: .int .i64 0 :: .slice none 0 0 :: .slice none 0 0 :: .int .i64 0 :: .int .i64 0 :: .int .i64 0 :: .int .i64 0 :: .int .i64 0 :: .int .i64 0 :: .int .i64 0 :: .int .i64 0 :: .string ⟨#[]⟩ :: .string ⟨#[]⟩ :: .slice none 0 0 :: .int .i64 0 :: .int .i64 0 :: .int .i64 0 :: .int .i64 0 :: .int .i64 0 :: .int .i64 0 :: .slice none 0 0 :: .slice none 0 0 :: []).toArray) pr (.int .i64 0 :: .int .i64 0 :: .int .i64 0 :: .int .i64 0 :: .int .i64 0 :: .int .i64 0 :: .int .i64 0 :: .int .i64 0 :: .int .i64 0 :: .slice none 0 0 :: .int .i64 0 :: .slice none 0 0 :: .int .i64 0 :: .int .i64 0 :: .int .i64 0 :: .int .i64 0 :: .int .i64 0 :: .slice none 0 0 :: .slice none 0 0 :: .int .i64 0 :: .int .i64 0 :: .int .i64 0 :: .int .i64 0 :: .int .i64 0 :: .int .i64 0 :: .int .i64 0 :: .int .i64 0 :: .string ⟨#[]⟩ :: .string ⟨#[]⟩ :: .slice none 0 0 :: .int .i64 0 :: .int .i64 0 :: .int .i64 0 :: .int .i64 0 :: .int .i64 0 :: .int .i64 0 :: .slice none 0 0 :: .slice none 0 0 :: []) 44) := CR.out.row _
  have KF : Hid (Keeps (fun j => j = pr) w2 (w2.setRow pr (.int .i64 0 :: .int .i64 0 :: .int .i64 0 :: .int .i64 0 :: .int .i64 0 :: .int .i64 0 :: .int .i64 0 :: .int .i64 0 :: .int .i64 0 :: .slice none 0 0 :: .int .i64 0 :: .slice none 0 0 :: .int .i64 0 :: .int .i64 0 :: .int .i64 0 :: .int .i64 0 :: .int .i64 0 :: .slice none 0 0 :: .slice none 0 0 :: .int .i64 0 :: .int .i64 0 :: .int .i64 0 :: .int .i64 0 :: .int .i64 0 :: .int .i64 0 :: .int .i64 0 :: .int .i64 0 :: .string ⟨#[]⟩ :: .string ⟨#[]⟩ :: .slice none 0 0 :: .int .i64 0 :: .int .i64 0 :: .int .i64 0 :: .int .i64 0 :: .int .i64 0 :: .int .i64 0 :: .slice none 0 0 :: .slice none 0 0 :: []).toArray)) := Keeps.row _ _ _ rfl
  go_wp2_with (refine wpList_store_row (by rfl) _ _ _ (by rfl) pr (.int .i64 0 :: .int .i64 0 :: .int .i64 0 :: .int .i64 0 :: .int .i64 0 :: .int .i64 0 :: .int .i64 0 :: .int .i64 0 :: .int .i64 0 :: .slice none 0 0 :: .int .i64 0 :: .slice none 0 0 :: .int .i64 0 :: .int .i64 0 :: .int .i64 0 :: .int .i64 0 :: .int .i64 0 :: .slice none 0 0 :: .slice none 0 0 :: .int .i64 0 :: .int .i64 0 :: .int .i64 0 :: .int .i64 0 :: .int .i64 0 :: .int .i64 0 :: .int .i64 0 :: .int .i64 0 :: .string ⟨#[]⟩ :: .string ⟨#[]⟩ :: .slice none 0 0 :: .int .i64 0 :: .int .i64 0 :: .int .i64 0 :: .int .i64 0 :: .int .i64 0 :: .int .i64 0 :: .slice none 0 0 :: .slice none 0 0 :: []).toArray (by rfl) (by rfl) 44 _ CQ.out HI39.out rfl HONE.out ?_)
  refine bodyPost_ret (results_cl_tmp rfl _ _ _ _ _ _ rfl CF.out Tryz.underlying44 rfl HI38.out) rfl ?_
  have hlt := H0.out.c.lt
  have hp := HPR.out
  refine ⟨rfl, H1.out.keep KF.out (by omega) (fun j hj e => by have := (H0.out.s.lt j hj).2; omega), B1.out.trans (KF.out.toBelow B1.out.size (fun j hj e => by omega))⟩
set_option maxRecDepth 20000 in
set_option maxHeartbeats 3200000 in
theorem bagTake_any (B pb : Nat) (lv : Value) (l : List Item) (k : Nat) (x : Item) (hx : l[k]? = some x) (D : List Value → World → Prop) (w : World) (h : BagW w B pb lv l) (hB : B ≤ w.heap.size)
    (HD : ∀ W, Below w.heap.size w W → Calls Tryz.prog 26 #[.string ⟨x.1.toArray⟩] W (DecPost D W)) :
    Calls Tryz.prog 12 #[.pointer (some ⟨pb, 0, none⟩), .int .i64 k] w (TakePost B pb lv (l.eraseIdx k) D w) := by
  have H0 := Lib.hid h
  have HDD := Lib.hid HD
  have hk : k < l.length := (List.getElem?_eq_some_iff.1 hx).1
  have hm := h.m
  have HX := Lib.hid hx
  clear h HD hx
  have HI38 := Lib.hid (show (Tryz.prog.info? 44).map (·.size) = some 38 by kernel_rfl)
  go_enter Tryz.func12, Tryz.ntmps12
  obtain ⟨w1, hw1, CR, B1⟩ := oneBox (w := w) (.int .i64 0 :: .int .i64 0 :: .int .i64 0 :: .int .i64 0 :: .int .i64 0 :: .int .i64 0 :: .int .i64 0 :: .int .i64 0 :: .int .i64 0 :: .slice none 0 0 :: .int .i64 0 :: .slice none 0 0 :: .int .i64 0 :: .int .i64 0 :: .int .i64 0 :: .int .i64 0 :: .int .i64 0 :: .slice none 0 0 :: .slice none 0 0 :: .int .i64 0 :: .int .i64 0 :: .int .i64 0 :: .int .i64 0 :: .int .i64 0 :: .int .i64 0 :: .int .i64 0 :: .int .i64 0 :: .string ⟨#[]⟩ :: .string ⟨#[]⟩ :: .slice none 0 0 :: .int .i64 0 :: .int .i64 0 :: .int .i64 0 :: .int .i64 0 :: .int .i64 0 :: .int .i64 0 :: .slice none 0 0 :: .slice none 0 0 :: []) 44
  have HW1 := Lib.hid hw1
  clear hw1
  go_upto_region 1 with (fail)
  first | rw [HW1.out] | skip
  clear HW1
  have H1 := Lib.hid (H0.out.below B1.out)
  have HH := bagHas_any B pb lv l k w1 H1.out
  rw [show decide (0 ≤ (k : Int) ∧ (k : Int) < (l.length : Int)) = true from decide_eq_true (by omega)] at HH
  have HHA := Lib.hid HH
  clear HH
  obtain ⟨pr, hpr⟩ : ∃ pr, pr = w.heap.size := ⟨_, rfl⟩
  rw [← hpr] at CR
  first | rw [← hpr] | skip
  have HPR := Lib.hid hpr
  clear hpr
  have HD1 := Lib.hid (HDD.out _ B1.out)
  have HDEL := Lib.hid (fun (W : World) => bagDelete B l k hk hm lv W)
  have hpl := H0.out.c.lt
  have hol : Hid (∀ j, lv.ownBlock = some j → j < w.heap.size) := fun j hj => (H0.out.s.lt j hj).2
  have hnb : Hid (∀ j, lv.ownBlock = some j → j ≠ pb) := H0.out.n
  have hbb : B ≤ pb := H0.out.b
  have hbo : Hid (∀ j, lv.ownBlock = some j → B ≤ j) := fun j hj => (H0.out.s.lt j hj).1
  have hpc := HPR.out
  have hpne : pr ≠ pb := by omega
  clear hpc
  have s1 : Sl w1 B 2 lv l.length (itC l) := H1.out.s
  rcases s1.2 with ⟨_, h0⟩ | ⟨g, off, cap, hlv, hgB, hg, hnc, hmc, hr, ht⟩
  · omega
  subst hlv
  have c1 : w1.cell? ⟨pb, 0, none⟩ = some (.slice (some ⟨g, off, none⟩) l.length cap) := H1.out.c.cell 0
  have cx : w1.cell? ⟨g, off + k * 2, none⟩ = some (.string ⟨x.1.toArray⟩) := hr _ _ (itC_at HX.out).1
  have hki : (k : Int) < (l.length : Int) := by omega
  clear s1 hr ht HDD
  go_upto_region 3 with (first
    | (refine HHA.out.mono ?_; rintro e w2 ⟨rfl, rfl⟩))
  clear HHA
  go_wp2_with fail
  refine HD1.out.mono ?_
  rintro e w3 ⟨cs, rfl, hlen, hone, hb3, hD3⟩
  have B3 := Lib.hid hb3
  have HD3 := Lib.hid hD3
  have H3 := Lib.hid (H1.out.below hb3)
  have C3 := Lib.hid (CR.out.below hb3)
  have HLEN := Lib.hid hlen
  have HON := Lib.hid hone
  clear hb3 hD3 c1 cx HD1 hlen hone
  have HOA : Hid ((cs.toArray : Array Value).all (·.oneCell') = true) := by rw [Hid, List.all_toArray]; exact HON.out
  have HIA : Hid ((Tryz.prog.info? 44).map (·.size) = some (cs.toArray : Array Value).size) := by rw [Hid, HI38.out, List.size_toArray, HLEN.out]
  have HIL : Hid ((Tryz.prog.info? 44).map (·.size) = some cs.length) := by rw [Hid, HI38.out, HLEN.out]
  have HSZ : Hid (((.int .i64 0 :: .int .i64 0 :: .int .i64 0 :: .int .i64 0 :: .int .i64 0 :: .int .i64 0 :: .int .i64 0 :: .int .i64 0 :: .int .i64 0 :: .slice none 0 0 :: .int .i64 0 :: .slice none 0 0 :: .int .i64 0 :: .int .i64 0 :: .int .i64 0 :: .int .i64 0 :: .int .i64 0 :: .slice none 0 0 :: .slice none 0 0 :: .int .i64 0 :: .int .i64 0 :: .int .i64 0 :: .int .i64 0 :: .int .i64 0 :: .int .i64 0 :: .int .i64 0 :: .int .i64 0 :: .string ⟨#[]⟩ :: .string ⟨#[]⟩ :: .slice none 0 0 :: .int .i64 0 :: .int .i64 0 :: .int .i64 0 :: .int .i64 0 :: .int .i64 0 :: .int .i64 0 :: .slice none 0 0 :: .slice none 0 0 :: []).toArray : Array Value).size = (cs.toArray : Array Value).size) := by rw [Hid]; show _ = cs.length; rw [HLEN.out]; rfl
  have CM : Hid ((w3.alloc (.cells (.int .i64 0 :: .int .i64 0 :: .int .i64 0 :: .int .i64 0 :: .int .i64 0 :: .int .i64 0 :: .int .i64 0 :: .int .i64 0 :: .int .i64 0 :: .slice none 0 0 :: .int .i64 0 :: .slice none 0 0 :: .int .i64 0 :: .int .i64 0 :: .int .i64 0 :: .int .i64 0 :: .int .i64 0 :: .slice none 0 0 :: .slice none 0 0 :: .int .i64 0 :: .int .i64 0 :: .int .i64 0 :: .int .i64 0 :: .int .i64 0 :: .int .i64 0 :: .int .i64 0 :: .int .i64 0 :: .string ⟨#[]⟩ :: .string ⟨#[]⟩ :: .slice none 0 0 :: .int .i64 0 :: .int .i64 0 :: .int .i64 0 :: .int .i64 0 :: .int .i64 0 :: .int .i64 0 :: .slice none 0 0 :: .slice none 0 0 :: []).toArray 44)).heap[w3.heap.size]? = some (.cells (.int .i64 0 :: .int .i64 0 :: .int .i64 0 :: .int .i64 0 :: .int .i64 0 :: .int .i64 0 :: .int .i64 0 :: .int .i64 0 :: .int .i64 0 :: .slice none 0 0 :: .int .i64 0 :: .slice none 0 0 :: .int .i64 0 :: .int .i64 0 :: .int .i64 0 :: .int .i64 0 :: .int .i64 0 :: .slice none 0 0 :: .slice none 0 0 :: .int .i64 0 :: .int .i64 0 :: .int .i64 0 :: .int .i64 0 :: .int .i64 0 :: .int .i64 0 :: .int .i64 0 :: .int .i64 0 :: .string ⟨#[]⟩ :: .string ⟨#[]⟩ :: .slice none 0 0 :: .int .i64 0 :: .int .i64 0 :: .int .i64 0 :: .int .i64 0 :: .int .i64 0 :: .int .i64 0 :: .slice none 0 0 :: .slice none 0 0 :: []).toArray 44 (0, 0))) := Cl.new w3 (.int .i64 0 :: .int .i64 0 :: .int .i64 0 :: .int .i64 0 :: .int .i64 0 :: .int .i64 0 :: .int .i64 0 :: .int .i64 0 :: .int .i64 0 :: .slice none 0 0 :: .int .i64 0 :: .slice none 0 0 :: .int .i64 0 :: .int .i64 0 :: .int .i64 0 :: .int .i64 0 :: .int .i64 0 :: .slice none 0 0 :: .slice none 0 0 :: .int .i64 0 :: .int .i64 0 :: .int .i64 0 :: .int .i64 0 :: .int .i64 0 :: .int .i64 0 :: .int .i64 0 :: .int .i64 0 :: .string ⟨#[]⟩ :: .string ⟨#[]⟩ :: .slice none 0 0 :: .int .i64 0 :: .int .i64 0 :: .int .i64 0 :: .int .i64 0 :: .int .i64 0 :: .int .i64 0 :: .slice none 0 0 :: .slice none 0 0 :: []) _
  have C5 : Hid (Cl ((w3.alloc (.cells (.int .i64 0 :: .int .i64 0 :: .int .i64 0 :: .int .i64 0 :: .int .i64 0 :: .int .i64 0 :: .int .i64 0 :: .int .i64 0 :: .int .i64 0 :: .slice none 0 0 :: .int .i64 0 :: .slice none 0 0 :: .int .i64 0 :: .int .i64 0 :: .int .i64 0 :: .int .i64 0 :: .int .i64 0 :: .slice none 0 0 :: .slice none 0 0 :: .int .i64 0 :: .int .i64 0 :: .int .i64 0 :: .int .i64 0 :: .int .i64 0 :: .int .i64 0 :: .int .i64 0 :: .int .i64 0 :: .string ⟨#[]⟩ :: .string ⟨#[]⟩ :: .slice none 0 0 :: .int .i64 0 :: .int .i64 0 :: .int .i64 0 :: .int .i64 0 :: .int .i64 0 :: .int .i64 0 :: .slice none 0 0 :: .slice none 0 0 :: []).toArray 44)).setRow w3.heap.size cs.toArray) w3.heap.size cs 44) := by
    have := Cl.row (Cl.new w3 (.int .i64 0 :: .int .i64 0 :: .int .i64 0 :: .int .i64 0 :: .int .i64 0 :: .int .i64 0 :: .int .i64 0 :: .int .i64 0 :: .int .i64 0 :: .slice none 0 0 :: .int .i64 0 :: .slice none 0 0 :: .int .i64 0 :: .int .i64 0 :: .int .i64 0 :: .int .i64 0 :: .int .i64 0 :: .slice none 0 0 :: .slice none 0 0 :: .int .i64 0 :: .int .i64 0 :: .int .i64 0 :: .int .i64 0 :: .int .i64 0 :: .int .i64 0 :: .int .i64 0 :: .int .i64 0 :: .string ⟨#[]⟩ :: .string ⟨#[]⟩ :: .slice none 0 0 :: .int .i64 0 :: .int .i64 0 :: .int .i64 0 :: .int .i64 0 :: .int .i64 0 :: .int .i64 0 :: .slice none 0 0 :: .slice none 0 0 :: []) 44) cs.toArray
    rwa [List.toList_toArray] at this
  have K5 : Hid (Keeps (fun j => j = w3.heap.size) w3 ((w3.alloc (.cells (.int .i64 0 :: .int .i64 0 :: .int .i64 0 :: .int .i64 0 :: .int .i64 0 :: .int .i64 0 :: .int .i64 0 :: .int .i64 0 :: .int .i64 0 :: .slice none 0 0 :: .int .i64 0 :: .slice none 0 0 :: .int .i64 0 :: .int .i64 0 :: .int .i64 0 :: .int .i64 0 :: .int .i64 0 :: .slice none 0 0 :: .slice none 0 0 :: .int .i64 0 :: .int .i64 0 :: .int .i64 0 :: .int .i64 0 :: .int .i64 0 :: .int .i64 0 :: .int .i64 0 :: .int .i64 0 :: .string ⟨#[]⟩ :: .string ⟨#[]⟩ :: .slice none 0 0 :: .int .i64 0 :: .int .i64 0 :: .int .i64 0 :: .int .i64 0 :: .int .i64 0 :: .int .i64 0 :: .slice none 0 0 :: .slice none 0 0 :: []).toArray 44)).setRow w3.heap.size cs.toArray)) := (Keeps.alloc _ _ _).trans (Keeps.row _ _ _ rfl)
  go_upto_region 4 with (refine wpList_store_row (by rfl) _ _ _ (by rfl) w3.heap.size cs.toArray (by rfl) (by rfl) 44 _ CM.out HIA.out HSZ.out HOA.out ?_)
  generalize (w3.alloc (.cells (.int .i64 0 :: .int .i64 0 :: .int .i64 0 :: .int .i64 0 :: .int .i64 0 :: .int .i64 0 :: .int .i64 0 :: .int .i64 0 :: .int .i64 0 :: .slice none 0 0 :: .int .i64 0 :: .slice none 0 0 :: .int .i64 0 :: .int .i64 0 :: .int .i64 0 :: .int .i64 0 :: .int .i64 0 :: .slice none 0 0 :: .slice none 0 0 :: .int .i64 0 :: .int .i64 0 :: .int .i64 0 :: .int .i64 0 :: .int .i64 0 :: .int .i64 0 :: .int .i64 0 :: .int .i64 0 :: .string ⟨#[]⟩ :: .string ⟨#[]⟩ :: .slice none 0 0 :: .int .i64 0 :: .int .i64 0 :: .int .i64 0 :: .int .i64 0 :: .int .i64 0 :: .int .i64 0 :: .slice none 0 0 :: .slice none 0 0 :: []).toArray 44)).setRow w3.heap.size cs.toArray = w5 at *
  clear CM
  obtain ⟨pm, hpm⟩ : ∃ pm, pm = w3.heap.size := ⟨_, rfl⟩
  rw [← hpm] at C5 K5 ⊢
  have hs1 := B1.out.size
  have hs3 := B3.out.size
  have hl1 := CR.out.lt
  have hl3 := H3.out.c.lt
  have H5 := Lib.hid (H3.out.keep K5.out (by omega) (fun j hj e => by have := (H3.out.s.lt j hj).2; omega))
  have CR5 := Lib.hid (C3.out.keep K5.out (by have := C3.out.lt; omega))
  have hpm1 : pm ≠ pr := by omega
  have hpm2 : pm ≠ pb := by omega
  have c5 : w5.cell? ⟨pb, 0, none⟩ = some (.slice (some ⟨g, off, none⟩) l.length cap) := H5.out.c.cell 0
  have hwk : IntKind.i64.wrap ((k : Int) + 1) = (k : Int) + 1 := by rw [IntKind.wrap_i64]; omega
  have HDE := Lib.hid (HDEL.out w5 H5.out.s)
  clear HDEL
  have HPM := Lib.hid hpm
  clear hpm
  go_wp2_with fail
  refine HDE.out.mono ?_
  rintro e w6 ⟨v', rfl, hown, hs6, hk6⟩
  have HOWN := Lib.hid hown
  have S6 := Lib.hid hs6
  have K6 := Lib.hid hk6
  clear hown hs6 hk6 c5 HDE
  have P6 := Lib.hid (Cl.keep H5.out.c K6.out (fun e => hnb.out _ e rfl))
  obtain ⟨a', cap', hv', _⟩ := S6.out.form
  subst hv'
  have c6 : w6.cell? ⟨pb, 0, none⟩ = some (.slice (some ⟨g, off, none⟩) l.length cap) := P6.out.cell 0
  have f6 : w6.frozen? ⟨pb, 0, none⟩ = false := P6.out.free 0
  have CR6 := Lib.hid (Cl.keep CR5.out K6.out (fun e => by have := hol.out _ e; have := HPR.out; omega))
  have CM6 := Lib.hid (Cl.keep C5.out K6.out (fun e => by have := hol.out _ e; have := HPM.out; omega))
  have K7 : Hid (Keeps (fun j => j = pb) w6 (w6.setCell ⟨pb, 0, none⟩ (.slice a' (l.eraseIdx k).length cap'))) := Keeps.setCell _ _ _ _ rfl
  have P7 : Hid (Cl (w6.setCell ⟨pb, 0, none⟩ (.slice a' (l.eraseIdx k).length cap')) pb [.slice a' (l.eraseIdx k).length cap'] 65) := Cl.set P6.out 0 _
  have CR7 := Lib.hid (Cl.keep CR6.out K7.out hpne)
  have CM7 := Lib.hid (Cl.keep CM6.out K7.out hpm2)
  go_upto_region 5 with (fail)
  generalize w6.setCell ⟨pb, 0, none⟩ (.slice a' (l.eraseIdx k).length cap') = w7 at *
  clear c6 f6
  have R7 := Lib.hid CM7.out.range
  have CQ : Hid (w7.heap[pr]? = some (.cells (.int .i64 0 :: .int .i64 0 :: .int .i64 0 :: .int .i64 0 :: .int .i64 0 :: .int .i64 0 :: .int .i64 0 :: .int .i64 0 :: .int .i64 0 :: .slice none 0 0 :: .int .i64 0 :: .slice none 0 0 :: .int .i64 0 :: .int .i64 0 :: .int .i64 0 :: .int .i64 0 :: .int .i64 0 :: .slice none 0 0 :: .slice none 0 0 :: .int .i64 0 :: .int .i64 0 :: .int .i64 0 :: .int .i64 0 :: .int .i64 0 :: .int .i64 0 :: .int .i64 0 :: .int .i64 0 :: .string ⟨#[]⟩ :: .string ⟨#[]⟩ :: .slice none 0 0 :: .int .i64 0 :: .int .i64 0 :: .int .i64 0 :: .int .i64 0 :: .int .i64 0 :: .int .i64 0 :: .slice none 0 0 :: .slice none 0 0 :: []).toArray 44 (0, 0))) := CR7.out
  have CF : Hid (Cl (w7.setRow pr cs.toArray) pr cs 44) := by
    have := Cl.row CR7.out cs.toArray
    rwa [List.toList_toArray] at this
  have KF : Hid (Keeps (fun j => j = pr) w7 (w7.setRow pr cs.toArray)) := Keeps.row _ _ _ rfl
  go_wp2_with (first
    | (refine wpList_load_mid (by rfl) _ _ (by rfl) pm 0 (by rfl) cs _ R7.out Tryz.underlying44 (by rfl) HIL.out ?_)
    | (refine wpList_store_row (by rfl) _ _ _ (by rfl) pr cs.toArray (by rfl) (by rfl) 44 _ CQ.out HIA.out HSZ.out HOA.out ?_))
  refine bodyPost_ret (results_cl_tmp rfl _ _ _ _ _ _ rfl CF.out Tryz.underlying44 rfl HIL.out) rfl ?_
  have hpr := HPR.out
  have hpm := HPM.out
  have hle : (l.eraseIdx k).length ≤ 256 := by rw [List.length_eraseIdx_of_lt hk]; omega
  have hn7 : ∀ j, (Value.slice a' (l.eraseIdx k).length cap').ownBlock = some j → j ≠ pb ∧ j < w.heap.size := fun j hj => by rw [HOWN.out] at hj; exact ⟨hnb.out j hj, hol.out j hj⟩
  have S8 : Sl (w7.setRow pr cs.toArray) B 2 (.slice a' (l.eraseIdx k).length cap') (l.eraseIdx k).length (itC (l.eraseIdx k)) := (S6.out.kept K7.out (fun j hj e => (hn7 j hj).1 e)).kept KF.out (fun j hj e => by have := (hn7 j hj).2; omega)
  have Kall : ∀ S : Nat → Prop, S pm → (∀ j, (Value.slice (some ⟨g, off, none⟩) l.length cap).ownBlock = some j → S j) → S pb → S pr → Keeps S w3 (w7.setRow pr cs.toArray) := fun S h1 h2 h3 h4 => by
    have a1 : Keeps S w3 w5 := ⟨K5.out.os, K5.out.tape, K5.out.output, K5.out.size, fun i hi hs => K5.out.block i hi (fun e => hs (e ▸ h1))⟩
    have a2 : Keeps S w5 w6 := ⟨K6.out.os, K6.out.tape, K6.out.output, K6.out.size, fun i hi hs => K6.out.block i hi (fun e => hs (h2 _ e))⟩
    have a3 : Keeps S w6 w7 := ⟨K7.out.os, K7.out.tape, K7.out.output, K7.out.size, fun i hi hs => K7.out.block i hi (fun e => hs (e ▸ h3))⟩
    have a4 : Keeps S w7 (w7.setRow pr cs.toArray) := ⟨KF.out.os, KF.out.tape, KF.out.output, KF.out.size, fun i hi hs => KF.out.block i hi (fun e => hs (e ▸ h4))⟩
    exact ((a1.trans a2).trans a3).trans a4
  have hw1 : w.heap.size < w2.heap.size := by omega
  refine ⟨cs, _, rfl, HD3.out (fun j => ¬ (w2.heap.size ≤ j ∧ j < w3.heap.size)) _ (Kall _ (by omega) (fun j hj e => by have := hol.out j hj; omega) (by omega) (by omega)) (fun j h1 h2 h3 => h3 ⟨h1, h2⟩), ⟨Cl.keep P7.out KF.out hpne.symm, S8, fun j hj => (hn7 j hj).1, hbb, hle⟩, ?_⟩
  have hk := Kall (fun j => j = pm ∨ j = pr ∨ j = pb ∨ (Value.slice (some ⟨g, off, none⟩) l.length cap).ownBlock = some j) (.inl rfl) (fun j hj => .inr (.inr (.inr hj))) (.inr (.inr (.inl rfl))) (.inr (.inl rfl))
  refine ⟨(Keeps.below (fun j => j = pb ∨ (Value.slice (some ⟨g, off, none⟩) l.length cap).ownBlock = some j) (bt B1.out B3.out)).fresh hk (fun j hj e => ?_), fun j hj => .inl (by rw [HOWN.out] at hj; exact hj)⟩
  rcases e with e | e | e | e
  · omega
  · omega
  · exact .inl e
  · exact .inr e
end Go.Proofs.YtbljbdjmgogknaaGreatDoor
/-
  Wire: Good, where the kind is none; Encode, where Good says no (printed by wip/gen/mkwzero.py).
  Conditions: none.
-/
set_option linter.unusedVariables false
set_option linter.unusedSimpArgs false
namespace Go.Proofs.YtbljbdjmgogknaaGreatDoor
open Go.RowKit

set_option maxRecDepth 20000 in
set_option maxHeartbeats 12800000 in
theorem good_none (cs : List Value) (x : Int) (hx : cs[0]? = some (.int .i64 x)) (hk : Wi.inB x 1 9 = false) (w : World) :
    Calls Tryz.prog 44 #[.agg cs.toArray] w fun e w' => e = .returned (.bool false) ∧ Below w.heap.size w w' := by
  have HK := Lib.hid hk
  have HX := Lib.hid hx
  clear hk hx
  go_enter Tryz.func44, Tryz.ntmps44
  obtain ⟨w1, hw1, CA, B1⟩ := oneBox (w := w) cs 44
  have HW1 := Lib.hid hw1
  clear hw1
  go_upto_region 1 with (fail)
  first | rw [HW1.out] | skip
  clear HW1
  generalize w.heap.size = pa at CA ⊢
  go_cut [51] (fun t51 wz => t51 = .bool true ∧ wz = w1.drew)
  case first =>
    have m0 : ∀ y : AnyOf (fun (L : Array Bool) (W : World) => W = w1.drew), y.1.cell? ⟨pa, 0, none⟩ = some (.int .i64 x) := fun y => by
      obtain ⟨L, hL⟩ := y.2
      rw [show y.1 = w1.drew from hL]
      exact (CA.out.cell 0).trans HX.out
    have hne : Nonempty (AnyOf (fun (L : Array Bool) (W : World) => W = w1.drew)) := ⟨⟨_, Array.replicate 47 false, rfl⟩⟩
    go_wp2
    refine wp_region_ranks (fun (L : Array Bool) (W : World) => W = w1.drew) _ (by kernel_rfl) (by kernel_rfl) rfl rfl ?_
    refine rQuiet_head 2 (by decide) (by kernel_rfl) (fun i L W h1 h2 hc => hc) ?_
    simp only [List.take_succ_cons, List.take_zero, List.drop_succ_cons, List.drop_zero]
    repeat (go_big_quiet_step (fail))
    refine wpQuiet_nil ?_
    refine rQuiet_call (f := 68) (args := #[.int .i64 x, .int .i64 1, .int .i64 9]) (.bool false) rfl (fun w => by go_simp) (fun L w hD hi hc => (wwithin_any x 1 9 w).mono fun e w' ⟨he, hw⟩ => ⟨by rw [he, HK.out], by rw [hw]; exact hc⟩) ?_
    simp only [Act.put, List.setIfInBounds_toArray, List.set_cons_zero, List.set_cons_succ]
    refine rQuiet_head 4 (by decide) (by kernel_rfl) (fun i L W h1 h2 hc => hc) ?_
    simp only [List.take_succ_cons, List.take_zero, List.drop_succ_cons, List.drop_zero]
    repeat (go_big_quiet_step (fail))
    refine wpQuiet_nil ?_
    refine rQuiet_none (by go_simp) (fun L w hD hi hc => hc) ?_
    simp only [Act.put, List.setIfInBounds_toArray, List.set_cons_zero, List.set_cons_succ]
    refine rQuiet_head 5 (by decide) (by kernel_rfl) (fun i L W h1 h2 hc => hc) ?_
    simp only [List.take_succ_cons, List.take_zero, List.drop_succ_cons, List.drop_zero]
    repeat (go_big_quiet_step (fail))
    refine wpQuiet_nil ?_
    refine rQuiet_none (by go_simp) (fun L w hD hi hc => hc) ?_
    simp only [Act.put, List.setIfInBounds_toArray, List.set_cons_zero, List.set_cons_succ]
    refine rQuiet_head 5 (by decide) (by kernel_rfl) (fun i L W h1 h2 hc => hc) ?_
    simp only [List.take_succ_cons, List.take_zero, List.drop_succ_cons, List.drop_zero]
    repeat (go_big_quiet_step (fail))
    refine wpQuiet_nil ?_
    refine rQuiet_none (by go_simp) (fun L w hD hi hc => hc) ?_
    simp only [Act.put, List.setIfInBounds_toArray, List.set_cons_zero, List.set_cons_succ]
    refine rQuiet_head 7 (by decide) (by kernel_rfl) (fun i L W h1 h2 hc => hc) ?_
    simp only [List.take_succ_cons, List.take_zero, List.drop_succ_cons, List.drop_zero]
    repeat (go_big_quiet_step (fail))
    refine wpQuiet_nil ?_
    refine rQuiet_none (by go_simp) (fun L w hD hi hc => hc) ?_
    simp only [Act.put, List.setIfInBounds_toArray, List.set_cons_zero, List.set_cons_succ]
    refine rQuiet_none (by go_simp) (fun L w hD hi hc => hc) ?_
    simp only [Act.put, List.setIfInBounds_toArray, List.set_cons_zero, List.set_cons_succ]
    refine rQuiet_head 7 (by decide) (by kernel_rfl) (fun i L W h1 h2 hc => hc) ?_
    simp only [List.take_succ_cons, List.take_zero, List.drop_succ_cons, List.drop_zero]
    repeat (go_big_quiet_step (fail))
    refine wpQuiet_nil ?_
    refine rQuiet_none (by go_simp) (fun L w hD hi hc => hc) ?_
    simp only [Act.put, List.setIfInBounds_toArray, List.set_cons_zero, List.set_cons_succ]
    refine rQuiet_none (by go_simp) (fun L w hD hi hc => hc) ?_
    simp only [Act.put, List.setIfInBounds_toArray, List.set_cons_zero, List.set_cons_succ]
    refine rQuiet_head 3 (by decide) (by kernel_rfl) (fun i L W h1 h2 hc => hc) ?_
    simp only [List.take_succ_cons, List.take_zero, List.drop_succ_cons, List.drop_zero]
    repeat (go_big_quiet_step (fail))
    refine wpQuiet_nil ?_
    refine rQuiet_none (by go_simp) (fun L w hD hi hc => hc) ?_
    simp only [Act.put, List.setIfInBounds_toArray, List.set_cons_zero, List.set_cons_succ]
    refine rQuiet_none (by go_simp) (fun L w hD hi hc => hc) ?_
    simp only [Act.put, List.setIfInBounds_toArray, List.set_cons_zero, List.set_cons_succ]
    refine rQuiet_none (by go_simp) (fun L w hD hi hc => hc) ?_
    simp only [Act.put, List.setIfInBounds_toArray, List.set_cons_zero, List.set_cons_succ]
    refine rQuiet_none (by go_simp) (fun L w hD hi hc => hc) ?_
    simp only [Act.put, List.setIfInBounds_toArray, List.set_cons_zero, List.set_cons_succ]
    refine rQuiet_head 2 (by decide) (by kernel_rfl) (fun i L W h1 h2 hc => hc) ?_
    simp only [List.take_succ_cons, List.take_zero, List.drop_succ_cons, List.drop_zero]
    repeat (go_big_quiet_step (fail))
    refine wpQuiet_nil ?_
    intro w9 hw9
    have T4 := Lib.hid hw9
    go_wp2
    go_meet
    case rel => exact ⟨rfl, T4.out⟩
  case rest =>
    obtain ⟨rfl, hwz⟩ := hcut
    have BZ : Hid (Below w.heap.size w wc) := by rw [hwz]; exact B1.out.drew
    clear hwz CA
    go_wp2
    go_ret
    exact ⟨rfl, BZ.out⟩
set_option maxRecDepth 20000 in
set_option maxHeartbeats 3200000 in
theorem encode_no (cs : List Value) (hlen : cs.length = 38) (w : World) (hg : ∀ W, Below w.heap.size w W → Calls Tryz.prog 44 #[.agg cs.toArray] W fun e w' => e = .returned (.bool false) ∧ Below W.heap.size W w') :
    Calls Tryz.prog 23 #[.agg cs.toArray] w fun e w' => e = .returned (.tuple #[.string ⟨#[]⟩, .int .i64 1]) ∧ Below w.heap.size w w' := by
  have HG := Lib.hid hg
  have HIL : Hid ((Tryz.prog.info? 44).map (·.size) = some cs.length) := by rw [Hid, hlen]; kernel_rfl
  clear hg hlen
  go_enter Tryz.func23, Tryz.ntmps23
  obtain ⟨w1, hw1, CA, B1⟩ := oneBox (w := w) cs 44
  have HW1 := Lib.hid hw1
  clear hw1
  go_upto_region 1 with (fail)
  first | rw [HW1.out] | skip
  clear HW1
  have R1 := Lib.hid CA.out.range
  have HG1 := Lib.hid (HG.out _ B1.out)
  obtain ⟨pa, hpa⟩ : ∃ pa, pa = w.heap.size := ⟨_, rfl⟩
  rw [← hpa] at R1
  first | rw [← hpa] | skip
  have HPA := Lib.hid hpa
  clear hpa CA
  go_wp2_with (refine wpList_load_mid (by rfl) _ _ (by rfl) pa 0 (by rfl) cs _ R1.out Tryz.underlying44 (by rfl) HIL.out ?_)
  refine HG1.out.mono ?_
  rintro e w2 ⟨rfl, hb2⟩
  have B2 := Lib.hid (bt B1.out hb2)
  clear hb2
  go_wp2
  go_ret2
  exact ⟨rfl, B2.out⟩

end Go.Proofs.YtbljbdjmgogknaaGreatDoor
/-
  Bag: beats; Put and Take at them; the statement's beat; Put of what is no message (printed by wip/gen/mkbag3.py).
  Conditions: to whom, and which: small.
-/
set_option linter.unusedVariables false
set_option linter.unusedSimpArgs false
namespace Go.Proofs.YtbljbdjmgogknaaGreatDoor
open Go.RowKit

/-- A beat's bytes, to whom. -/
def bItem (t n : Int) : Item := (Frm.put (beatB (beatM 1 t n)), t)
theorem beat_first {t n : Int} (h0 : 0 ≤ t) (h5 : t ≤ 5) (n0 : 0 ≤ n) (n1 : n ≤ 1073741824) : Wi.first (beatM 1 t n) = true := by
  have ho : Wi.only (beatM 1 t n) = beatM 1 t n := by simp [Wi.only, beatM]
  unfold Wi.first
  rw [ho, Wi.same_refl]
  simp [beatM, Wi.inB, Wi.unitB, Wi.areB]
  exact ⟨.inl ⟨decide_eq_true h0, decide_eq_true h5⟩, n0, n1⟩
theorem beat_ok {t n : Int} (h0 : 0 ≤ t) (h5 : t ≤ 5) (n0 : 0 ≤ n) (n1 : n ≤ 1073741824) : MsgOk (beatM 1 t n) := by
  have z : Bd.inR 0 := ⟨by decide, by decide⟩
  constructor
  · intro x hx
    simp only [beatM, Wi.zReq, Wi.zResp, List.mem_cons, List.not_mem_nil, or_false] at hx
    unfold Bd.inR
    omega
  · exact ⟨by simp [beatM], by simp [beatM]⟩
  · exact ⟨by simp [beatM], by simp [beatM]⟩
  · exact ⟨z, z, z, z, z, by simp [beatM, Wi.zBatch], by simp [beatM, Wi.zBatch]⟩
  · exact ⟨by simp [beatM], by simp [beatM]⟩
  · exact ⟨by simp [beatM, Wi.zReq], by simp [beatM, Wi.zReq], by simp [beatM, Wi.zReq], by simp [beatM, Wi.zReq]⟩
  · exact ⟨by simp [beatM, Wi.zResp], by simp [beatM, Wi.zResp]⟩
  · exact ⟨by simp [beatM, Wi.zResp], by simp [beatM, Wi.zResp]⟩
theorem beat_len {t n : Int} (h0 : 0 ≤ t) (h5 : t ≤ 5) (n0 : 0 ≤ n) (n1 : n ≤ 1073741824) : (beatB (beatM 1 t n)).length ≤ 16384 := by
  have a := (Cr.bInt_len (n := 3) (by omega) (by omega)).2
  have b := (Cr.bInt_len (n := 1) (by omega) (by omega)).2
  have c := (Cr.bInt_len (n := t) (by omega) (by omega)).2
  have d := (Cr.bInt_len (n := n) (by omega) (by omega)).2
  rw [beatB_eq]
  simp only [List.length_cons, List.length_append, List.length_nil]
  omega
theorem bagPut_b (B pb : Nat) (lv : Value) (l : List Item) (t n : Int) (h0 : 0 ≤ t) (h5 : t ≤ 5) (n0 : 0 ≤ n) (n1 : n ≤ 1073741824) (w : World) (h : BagW w B pb lv l) (hB : B ≤ w.heap.size) (hw : Lw w) :
    Calls Tryz.prog 10 #[.pointer (some ⟨pb, 0, none⟩), msgV (beatM 1 t n) zeroV] w (PutPost B pb lv l (bItem t n) w) :=
  bagPut_beat B pb lv l 1 t n _ w h hB (fun W hW => encode_k3 _ _ W (beat_at 1 t n W) (beat_ok h0 h5 n0 n1) rfl (beat_first h0 h5 n0 n1) (beat_len h0 h5 n0 n1) (hw.below hW))
def TakeB (B pb : Nat) (lv : Value) (l : List Item) (t n : Int) (w : World) (e : Ending) (w' : World) : Prop :=
  e = .returned (.tuple #[msgV (beatM 1 t n) zeroV, .bool true]) ∧ ∃ lv', BagW w' B pb lv' l ∧ BagK pb lv lv' w w'
theorem bagTake_b (B pb : Nat) (lv : Value) (l : List Item) (k : Nat) (t n : Int) (hx : l[k]? = some (bItem t n)) (h0 : 0 ≤ t) (h5 : t ≤ 5) (n0 : 0 ≤ n) (n1 : n ≤ 1073741824) (w : World) (h : BagW w B pb lv l) (hB : B ≤ w.heap.size) (hw : Lw w) :
    Calls Tryz.prog 12 #[.pointer (some ⟨pb, 0, none⟩), .int .i64 k] w (TakeB B pb lv (l.eraseIdx k) t n w) := by
  refine (bagTake_any B pb lv l k _ hx (fun cs _ => cs = msgC (beatM 1 t n) zeroV) w h hB (fun W hW => ?_)).mono ?_
  · refine (decode_beat 1 t n W ⟨by decide, by decide⟩ ⟨by omega, by omega⟩ ⟨by omega, by omega⟩ (beat_first h0 h5 n0 n1) (beat_ok h0 h5 n0 n1) (beat_len h0 h5 n0 n1) (hw.below hW)).mono ?_
    rintro e w' ⟨rfl, hb⟩
    exact ⟨msgC (beatM 1 t n) zeroV, rfl, rfl, by simp [msgC, zeroV, Value.oneCell'], hb, fun _ _ _ _ => rfl⟩
  · rintro e w' ⟨cs, lv', rfl, rfl, h1, h2⟩
    exact ⟨rfl, lv', h1, h2⟩
set_option maxRecDepth 20000 in
set_option maxHeartbeats 3200000 in
theorem bagPut_no (cs : List Value) (hlen : cs.length = 38) (B pb : Nat) (lv : Value) (l : List Item) (w : World) (h : BagW w B pb lv l) (hB : B ≤ w.heap.size)
    (HE : ∀ W, Below w.heap.size w W → Calls Tryz.prog 23 #[.agg cs.toArray] W fun e w' => e = .returned (.tuple #[.string ⟨#[]⟩, .int .i64 1]) ∧ Below W.heap.size W w') :
    Calls Tryz.prog 10 #[.pointer (some ⟨pb, 0, none⟩), .agg cs.toArray] w fun e w' => e = .returned (.int .i64 1) ∧ BagW w' B pb lv l ∧ Below w.heap.size w w' := by
  have H0 := Lib.hid h
  have HEE := Lib.hid HE
  have HIL : Hid ((Tryz.prog.info? 44).map (·.size) = some cs.length) := by rw [Hid, hlen]; kernel_rfl
  clear h HE hlen
  go_enter Tryz.func10, Tryz.ntmps10
  obtain ⟨w1, hw1, CA, B1⟩ := oneBox (w := w) cs 44
  have HW1 := Lib.hid hw1
  clear hw1
  go_upto_region 3 with (fail)
  first | rw [HW1.out] | skip
  clear HW1
  have H1 := Lib.hid (H0.out.below B1.out)
  have HE1 := Lib.hid (HEE.out _ B1.out)
  have R1 := Lib.hid CA.out.range
  obtain ⟨pa, hpa⟩ : ∃ pa, pa = w.heap.size := ⟨_, rfl⟩
  rw [← hpa] at R1
  first | rw [← hpa] | skip
  have HPA := Lib.hid hpa
  clear hpa CA
  go_wp2_with (refine wpList_load_mid (by rfl) _ _ (by rfl) pa 0 (by rfl) cs _ R1.out Tryz.underlying44 (by rfl) HIL.out ?_)
  refine HE1.out.mono ?_
  rintro e w2 ⟨rfl, hb2⟩
  have H2 := Lib.hid (H1.out.below hb2)
  have B2 := Lib.hid (bt B1.out hb2)
  clear hb2
  go_wp2
  go_ret
  exact ⟨rfl, H2.out, B2.out⟩
theorem bagPut_zero (B pb : Nat) (lv : Value) (l : List Item) (w : World) (h : BagW w B pb lv l) (hB : B ≤ w.heap.size) :
    Calls Tryz.prog 10 #[.pointer (some ⟨pb, 0, none⟩), .agg (.int .i64 0 :: .int .i64 0 :: .int .i64 0 :: .int .i64 0 :: .int .i64 0 :: .int .i64 0 :: .int .i64 0 :: .int .i64 0 :: .int .i64 0 :: .slice none 0 0 :: .int .i64 0 :: .slice none 0 0 :: .int .i64 0 :: .int .i64 0 :: .int .i64 0 :: .int .i64 0 :: .int .i64 0 :: .slice none 0 0 :: .slice none 0 0 :: .int .i64 0 :: .int .i64 0 :: .int .i64 0 :: .int .i64 0 :: .int .i64 0 :: .int .i64 0 :: .int .i64 0 :: .int .i64 0 :: .string ⟨#[]⟩ :: .string ⟨#[]⟩ :: .slice none 0 0 :: .int .i64 0 :: .int .i64 0 :: .int .i64 0 :: .int .i64 0 :: .int .i64 0 :: .int .i64 0 :: .slice none 0 0 :: .slice none 0 0 :: []).toArray] w fun e w' => e = .returned (.int .i64 1) ∧ BagW w' B pb lv l ∧ Below w.heap.size w w' :=
  bagPut_no _ rfl B pb lv l w h hB (fun W hW => encode_no _ rfl W (fun W2 hW2 => good_none _ 0 rfl (by decide) W2))
set_option maxRecDepth 20000 in
set_option maxHeartbeats 3200000 in
theorem beat_any (n : Int) (w : World) : Calls Tryz.prog 21 #[.int .i64 n] w fun e w' => e = .returned (msgV (beatM 1 0 n) zeroV) ∧ Below w.heap.size w w' := by
  have HRV : Hid (msgV (beatM 1 0 n) zeroV = .agg (.int .i64 3 :: .int .i64 1 :: .int .i64 0 :: .int .i64 0 :: .int .i64 0 :: .int .i64 0 :: .int .i64 0 :: .int .i64 n :: .int .i64 0 :: .slice none 0 0 :: .int .i64 0 :: .slice none 0 0 :: .int .i64 0 :: .int .i64 0 :: .int .i64 0 :: .int .i64 0 :: .int .i64 0 :: .slice none 0 0 :: .slice none 0 0 :: .int .i64 0 :: .int .i64 0 :: .int .i64 0 :: .int .i64 0 :: .int .i64 0 :: .int .i64 0 :: .int .i64 0 :: .int .i64 0 :: .string ⟨#[]⟩ :: .string ⟨#[]⟩ :: .slice none 0 0 :: .int .i64 0 :: .int .i64 0 :: .int .i64 0 :: .int .i64 0 :: .int .i64 0 :: .int .i64 0 :: .slice none 0 0 :: .slice none 0 0 :: []).toArray) := rfl
  rw [HRV.out]
  clear HRV
  have HI38 := Lib.hid (show (Tryz.prog.info? 44).map (·.size) = some ((.int .i64 3 :: .int .i64 1 :: .int .i64 0 :: .int .i64 0 :: .int .i64 0 :: .int .i64 0 :: .int .i64 0 :: .int .i64 n :: .int .i64 0 :: .slice none 0 0 :: .int .i64 0 :: .slice none 0 0 :: .int .i64 0 :: .int .i64 0 :: .int .i64 0 :: .int .i64 0 :: .int .i64 0 :: .slice none 0 0 :: .slice none 0 0 :: .int .i64 0 :: .int .i64 0 :: .int .i64 0 :: .int .i64 0 :: .int .i64 0 :: .int .i64 0 :: .int .i64 0 :: .int .i64 0 :: .string ⟨#[]⟩ :: .string ⟨#[]⟩ :: .slice none 0 0 :: .int .i64 0 :: .int .i64 0 :: .int .i64 0 :: .int .i64 0 :: .int .i64 0 :: .int .i64 0 :: .slice none 0 0 :: .slice none 0 0 :: []) : List Value).length by kernel_rfl)
  have HI39 := Lib.hid (show (Tryz.prog.info? 44).map (·.size) = some ((.int .i64 3 :: .int .i64 1 :: .int .i64 0 :: .int .i64 0 :: .int .i64 0 :: .int .i64 0 :: .int .i64 0 :: .int .i64 n :: .int .i64 0 :: .slice none 0 0 :: .int .i64 0 :: .slice none 0 0 :: .int .i64 0 :: .int .i64 0 :: .int .i64 0 :: .int .i64 0 :: .int .i64 0 :: .slice none 0 0 :: .slice none 0 0 :: .int .i64 0 :: .int .i64 0 :: .int .i64 0 :: .int .i64 0 :: .int .i64 0 :: .int .i64 0 :: .int .i64 0 :: .int .i64 0 :: .string ⟨#[]⟩ :: .string ⟨#[]⟩ :: .slice none 0 0 :: .int .i64 0 :: .int .i64 0 :: .int .i64 0 :: .int .i64 0 :: .int .i64 0 :: .int .i64 0 :: .slice none 0 0 :: .slice none 0 0 :: []).toArray : Array Value).size by kernel_rfl)
  have HONE : Hid (((.int .i64 3 :: .int .i64 1 :: .int .i64 0 :: .int .i64 0 :: .int .i64 0 :: .int .i64 0 :: .int .i64 0 :: .int .i64 n :: .int .i64 0 :: .slice none 0 0 :: .int .i64 0 :: .slice none 0 0 :: .int .i64 0 :: .int .i64 0 :: .int .i64 0 :: .int .i64 0 :: .int .i64 0 :: .slice none 0 0 :: .slice none 0 0 :: .int .i64 0 :: .int .i64 0 :: .int .i64 0 :: .int .i64 0 :: .int .i64 0 :: .int .i64 0 :: .int .i64 0 :: .int .i64 0 :: .string ⟨#[]⟩ :: .string ⟨#[]⟩ :: .slice none 0 0 :: .int .i64 0 :: .int .i64 0 :: .int .i64 0 :: .int .i64 0 :: .int .i64 0 :: .int .i64 0 :: .slice none 0 0 :: .slice none 0 0 :: []).toArray : Array Value).all (·.oneCell') = true) := by simp [Hid, Value.oneCell']
  have HSZ : Hid (((.int .i64 0 :: .int .i64 0 :: .int .i64 0 :: .int .i64 0 :: .int .i64 0 :: .int .i64 0 :: .int .i64 0 :: .int .i64 0 :: .int .i64 0 :: .slice none 0 0 :: .int .i64 0 :: .slice none 0 0 :: .int .i64 0 :: .int .i64 0 :: .int .i64 0 :: .int .i64 0 :: .int .i64 0 :: .slice none 0 0 :: .slice none 0 0 :: .int .i64 0 :: .int .i64 0 :: .int .i64 0 :: .int .i64 0 :: .int .i64 0 :: .int .i64 0 :: .int .i64 0 :: .int .i64 0 :: .string ⟨#[]⟩ :: .string ⟨#[]⟩ :: .slice none 0 0 :: .int .i64 0 :: .int .i64 0 :: .int .i64 0 :: .int .i64 0 :: .int .i64 0 :: .int .i64 0 :: .slice none 0 0 :: .slice none 0 0 :: []).toArray : Array Value).size = ((.int .i64 3 :: .int .i64 1 :: .int .i64 0 :: .int .i64 0 :: .int .i64 0 :: .int .i64 0 :: .int .i64 0 :: .int .i64 n :: .int .i64 0 :: .slice none 0 0 :: .int .i64 0 :: .slice none 0 0 :: .int .i64 0 :: .int .i64 0 :: .int .i64 0 :: .int .i64 0 :: .int .i64 0 :: .slice none 0 0 :: .slice none 0 0 :: .int .i64 0 :: .int .i64 0 :: .int .i64 0 :: .int .i64 0 :: .int .i64 0 :: .int .i64 0 :: .int .i64 0 :: .int .i64 0 :: .string ⟨#[]⟩ :: .string ⟨#[]⟩ :: .slice none 0 0 :: .int .i64 0 :: .int .i64 0 :: .int .i64 0 :: .int .i64 0 :: .int .i64 0 :: .int .i64 0 :: .slice none 0 0 :: .slice none 0 0 :: []).toArray : Array Value).size) := rfl
  go_enter Tryz.func21, Tryz.ntmps21
  obtain ⟨w1, hw1, CR, B1⟩ := oneBox (w := w) (.int .i64 0 :: .int .i64 0 :: .int .i64 0 :: .int .i64 0 :: .int .i64 0 :: .int .i64 0 :: .int .i64 0 :: .int .i64 0 :: .int .i64 0 :: .slice none 0 0 :: .int .i64 0 :: .slice none 0 0 :: .int .i64 0 :: .int .i64 0 :: .int .i64 0 :: .int .i64 0 :: .int .i64 0 :: .slice none 0 0 :: .slice none 0 0 :: .int .i64 0 :: .int .i64 0 :: .int .i64 0 :: .int .i64 0 :: .int .i64 0 :: .int .i64 0 :: .int .i64 0 :: .int .i64 0 :: .string ⟨#[]⟩ :: .string ⟨#[]⟩ :: .slice none 0 0 :: .int .i64 0 :: .int .i64 0 :: .int .i64 0 :: .int .i64 0 :: .int .i64 0 :: .int .i64 0 :: .slice none 0 0 :: .slice none 0 0 :: []) 44
  have HW1 := Lib.hid hw1
  clear hw1
  go_upto_region 1 with (fail)
  first | rw [HW1.out] | skip
  clear HW1
  have CQ : Hid (w1.heap[w.heap.size]? = some (.cells (.int .i64 0 :: .int .i64 0 :: .int .i64 0 :: .int .i64 0 :: .int .i64 0 :: .int .i64 0 :: .int .i64 0 :: .int .i64 0 :: .int .i64 0 :: .slice none 0 0 :: .int .i64 0 :: .slice none 0 0 :: .int .i64 0 :: .int .i64 0 :: .int .i64 0 :: .int .i64 0 :: .int .i64 0 :: .slice none 0 0 :: .slice none 0 0 :: .int .i64 0 :: .int .i64 0 :: .int .i64 0 :: .int .i64 0 :: .int .i64 0 :: .int .i64 0 :: .int .i64 0 :: .int .i64 0 :: .string ⟨#[]⟩ :: .string ⟨#[]⟩ :: .slice none 0 0 :: .int .i64 0 :: .int .i64 0 :: .int .i64 0 :: .int .i64 0 :: .int .i64 0 :: .int .i64 0 :: .slice none 0 0 :: .slice none 0 0 :: []).toArray 44 (0, 0))) := CR.out
  have CF : Hid (Cl (w1.setRow w.heap.size (.int .i64 3 :: .int .i64 1 :: .int .i64 0 :: .int .i64 0 :: .int .i64 0 :: .int .i64 0 :: .int .i64 0 :: .int .i64 n :: .int .i64 0 :: .slice none 0 0 :: .int .i64 0 :: .slice none 0 0 :: .int .i64 0 :: .int .i64 0 :: .int .i64 0 :: .int .i64 0 :: .int .i64 0 :: .slice none 0 0 :: .slice none 0 0 :: .int .i64 0 :: .int .i64 0 :: .int .i64 0 :: .int .i64 0 :: .int .i64 0 :: .int .i64 0 :: .int .i64 0 :: .int .i64 0 :: .string ⟨#[]⟩ :: .string ⟨#[]⟩ :: .slice none 0 0 :: .int .i64 0 :: .int .i64 0 :: .int .i64 0 :: .int .i64 0 :: .int .i64 0 :: .int .i64 0 :: .slice none 0 0 :: .slice none 0 0 :: []).toArray) w.heap.size (.int .i64 3 :: .int .i64 1 :: .int .i64 0 :: .int .i64 0 :: .int .i64 0 :: .int .i64 0 :: .int .i64 0 :: .int .i64 n :: .int .i64 0 :: .slice none 0 0 :: .int .i64 0 :: .slice none 0 0 :: .int .i64 0 :: .int .i64 0 :: .int .i64 0 :: .int .i64 0 :: .int .i64 0 :: .slice none 0 0 :: .slice none 0 0 :: .int .i64 0 :: .int .i64 0 :: .int .i64 0 :: .int .i64 0 :: .int .i64 0 :: .int .i64 0 :: .int .i64 0 :: .int .i64 0 :: .string ⟨#[]⟩ :: .string ⟨#[]⟩ :: .slice none 0 0 :: .int .i64 0 :: .int .i64 0 :: .int .i64 0 :: .int .i64 0 :: .int .i64 0 :: .int .i64 0 :: .slice none 0 0 :: .slice none 0 0 :: []) 44) := CR.out.row _
  have KF : Hid (Keeps (fun j => j = w.heap.size) w1 (w1.setRow w.heap.size (.int .i64 3 :: .int .i64 1 :: .int .i64 0 :: .int .i64 0 :: .int .i64 0 :: .int .i64 0 :: .int .i64 0 :: .int .i64 n :: .int .i64 0 :: .slice none 0 0 :: .int .i64 0 :: .slice none 0 0 :: .int .i64 0 :: .int .i64 0 :: .int .i64 0 :: .int .i64 0 :: .int .i64 0 :: .slice none 0 0 :: .slice none 0 0 :: .int .i64 0 :: .int .i64 0 :: .int .i64 0 :: .int .i64 0 :: .int .i64 0 :: .int .i64 0 :: .int .i64 0 :: .int .i64 0 :: .string ⟨#[]⟩ :: .string ⟨#[]⟩ :: .slice none 0 0 :: .int .i64 0 :: .int .i64 0 :: .int .i64 0 :: .int .i64 0 :: .int .i64 0 :: .int .i64 0 :: .slice none 0 0 :: .slice none 0 0 :: []).toArray)) := Keeps.row _ _ _ rfl
  have BF : Hid (Below w.heap.size w (w1.setRow w.heap.size (.int .i64 3 :: .int .i64 1 :: .int .i64 0 :: .int .i64 0 :: .int .i64 0 :: .int .i64 0 :: .int .i64 0 :: .int .i64 n :: .int .i64 0 :: .slice none 0 0 :: .int .i64 0 :: .slice none 0 0 :: .int .i64 0 :: .int .i64 0 :: .int .i64 0 :: .int .i64 0 :: .int .i64 0 :: .slice none 0 0 :: .slice none 0 0 :: .int .i64 0 :: .int .i64 0 :: .int .i64 0 :: .int .i64 0 :: .int .i64 0 :: .int .i64 0 :: .int .i64 0 :: .int .i64 0 :: .string ⟨#[]⟩ :: .string ⟨#[]⟩ :: .slice none 0 0 :: .int .i64 0 :: .int .i64 0 :: .int .i64 0 :: .int .i64 0 :: .int .i64 0 :: .int .i64 0 :: .slice none 0 0 :: .slice none 0 0 :: []).toArray)) := B1.out.trans (KF.out.toBelow B1.out.size (fun j hj e => by omega))
  go_wp2_with (refine wpList_store_row (by rfl) _ _ _ (by rfl) w.heap.size (.int .i64 3 :: .int .i64 1 :: .int .i64 0 :: .int .i64 0 :: .int .i64 0 :: .int .i64 0 :: .int .i64 0 :: .int .i64 n :: .int .i64 0 :: .slice none 0 0 :: .int .i64 0 :: .slice none 0 0 :: .int .i64 0 :: .int .i64 0 :: .int .i64 0 :: .int .i64 0 :: .int .i64 0 :: .slice none 0 0 :: .slice none 0 0 :: .int .i64 0 :: .int .i64 0 :: .int .i64 0 :: .int .i64 0 :: .int .i64 0 :: .int .i64 0 :: .int .i64 0 :: .int .i64 0 :: .string ⟨#[]⟩ :: .string ⟨#[]⟩ :: .slice none 0 0 :: .int .i64 0 :: .int .i64 0 :: .int .i64 0 :: .int .i64 0 :: .int .i64 0 :: .int .i64 0 :: .slice none 0 0 :: .slice none 0 0 :: []).toArray (by rfl) (by rfl) 44 _ CQ.out HI39.out HSZ.out HONE.out ?_)
  refine bodyPost_ret (results_cl rfl _ _ _ _ _ _ rfl CF.out Tryz.underlying44 rfl HI38.out) rfl ?_
  exact ⟨rfl, BF.out⟩

end Go.Proofs.YtbljbdjmgogknaaGreatDoor
/-
  Bag: Copy.
  Conditions: none.
-/
set_option linter.unusedVariables false
set_option linter.unusedSimpArgs false
namespace Go.Proofs.YtbljbdjmgogknaaGreatDoor
open Go.RowKit

def CopyPost (B pb : Nat) (lv : Value) (l : List Item) (w : World) (e : Ending) (w' : World) : Prop :=
  e = .returned (.bool true) ∧ ∃ lv', BagW w' B pb lv' l ∧ BagK pb lv lv' w w'
set_option maxHeartbeats 1600000 in
theorem bagCopy_no (B pb : Nat) (lv : Value) (l : List Item) (n : Int) (hn : ¬ (0 ≤ n ∧ n < l.length)) (w : World) (h : BagW w B pb lv l) :
    Calls Tryz.prog 15 #[.pointer (some ⟨pb, 0, none⟩), .int .i64 n] w fun e w' => e = .returned (.bool false) ∧ w' = w := by
  have HH := bagHas_any B pb lv l n w h
  rw [show decide (0 ≤ n ∧ n < (l.length : Int)) = false from decide_eq_false hn] at HH
  have HHA := Lib.hid HH
  clear HH hn h
  go_enter Tryz.func15, Tryz.ntmps15
  go_wp2_with fail
  refine HHA.out.mono ?_
  rintro e w2 ⟨rfl, rfl⟩
  go_wp2
  go_ret
  exact ⟨rfl, rfl⟩
set_option maxHeartbeats 1600000 in
theorem bagCopy_full (B pb : Nat) (lv : Value) (l : List Item) (n : Int) (hf : l.length = 256) (w : World) (h : BagW w B pb lv l) :
    Calls Tryz.prog 15 #[.pointer (some ⟨pb, 0, none⟩), .int .i64 n] w fun e w' => e = .returned (.bool false) ∧ w' = w := by
  by_cases hn : 0 ≤ n ∧ n < l.length
  · have HH := bagHas_any B pb lv l n w h
    rw [show decide (0 ≤ n ∧ n < (l.length : Int)) = true from decide_eq_true hn] at HH
    have HHA := Lib.hid HH
    have c0 := h.c.cell 0
    obtain ⟨a, cap, rfl, _⟩ := h.s.form
    simp only [List.getElem?_cons_zero] at c0
    clear HH hn h
    go_enter Tryz.func15, Tryz.ntmps15
    go_wp2_with fail
    refine HHA.out.mono ?_
    rintro e w2 ⟨rfl, rfl⟩
    go_wp2
    go_ret
    exact ⟨rfl, rfl⟩
  · exact bagCopy_no B pb lv l n hn w h
set_option maxRecDepth 20000 in
set_option maxHeartbeats 3200000 in
theorem bagCopy_any (B pb : Nat) (lv : Value) (l : List Item) (k : Nat) (x : Item) (hx : l[k]? = some x) (hlt : l.length < 256) (w : World) (h : BagW w B pb lv l) (hB : B ≤ w.heap.size) :
    Calls Tryz.prog 15 #[.pointer (some ⟨pb, 0, none⟩), .int .i64 k] w (CopyPost B pb lv (l ++ [x]) w) := by
  have H2 := Lib.hid h
  have hk : k < l.length := (List.getElem?_eq_some_iff.1 hx).1
  have hki : (k : Int) < (l.length : Int) := by omega
  have HX := Lib.hid hx
  have HH := bagHas_any B pb lv l k w h
  rw [show decide (0 ≤ (k : Int) ∧ (k : Int) < (l.length : Int)) = true from decide_eq_true (by omega)] at HH
  have HHA := Lib.hid HH
  obtain ⟨i0, hi, hz0, hz1, hz2⟩ := info_parts infoItem
  clear h HH hx
  have s1 := H2.out.s
  rcases s1.2 with ⟨_, h0⟩ | ⟨g, off, cap, hlv, hgB, hg, hnc, hmc, hr, ht⟩
  · omega
  subst hlv
  have c1 : w.cell? ⟨pb, 0, none⟩ = some (.slice (some ⟨g, off, none⟩) l.length cap) := H2.out.c.cell 0
  have cx : w.cell? ⟨g, off + k * 2, none⟩ = some (.string ⟨x.1.toArray⟩) := hr _ _ (itC_at HX.out).1
  have cy : w.cell? ⟨g, off + k * 2 + 1, none⟩ = some (.int .i64 x.2) := by rw [Nat.add_assoc]; exact hr _ _ (itC_at HX.out).2
  clear s1 hr ht
  have ITM : Hid (Cl (w.alloc (.cells #[.string ⟨x.1.toArray⟩, .int .i64 x.2] 74)) w.heap.size [.string ⟨x.1.toArray⟩, .int .i64 x.2] 74) := Cl.new w _ _
  have hsl : Hid (Sl (w.alloc (.cells #[.string ⟨x.1.toArray⟩, .int .i64 x.2] 74)).drew B 2 (.slice (some ⟨g, off, none⟩) l.length cap) l.length (itC l)) := H2.out.s.kept (S := fun _ => False) ((Keeps.alloc _ _ _).trans (Keeps.drew _ _)) (fun _ _ => id)
  have hsrc : Hid (SrcIs (w.alloc (.cells #[.string ⟨x.1.toArray⟩, .int .i64 x.2] 74)).drew 2 (.slice (some ⟨w.heap.size, 0, none⟩) 1 1) 1 [.string ⟨x.1.toArray⟩, .int .i64 x.2]) := ITM.out.src 2 1 1 rfl
  have hone : ∀ u ∈ [Value.string ⟨x.1.toArray⟩, .int .i64 x.2], u.oneCell' = true := by simp [Value.oneCell']
  have h63 : l.length + 1 ≤ maxLen := by unfold maxLen; omega
  have hby : (l.length + 1) * 24 ≤ 140737488355328 := by omega
  have hba : B ≤ ((w.alloc (.cells #[.string ⟨x.1.toArray⟩, .int .i64 x.2] 74)).drew).heap.size := by have h2 := World.size_alloc w (.cells #[.string ⟨x.1.toArray⟩, .int .i64 x.2] 74); show B ≤ (w.alloc (.cells #[.string ⟨x.1.toArray⟩, .int .i64 x.2] 74)).heap.size; omega
  have HPO := Lib.hid (fun (w4 : World) (v' : Value) h1 h2 h3 => bag_put_post (x := x) (w4 := w4) (v' := v') H2.out hlt h1 h2 h3)
  have gA : (w.alloc (.cells #[.string ⟨x.1.toArray⟩, .int .i64 x.2] 74)).cell? ⟨pb, 0, none⟩ = some (.slice (some ⟨g, off, none⟩) l.length cap) := (H2.out.c.alloc _).cell 0
  go_enter Tryz.func15, Tryz.ntmps15
  go_wp2_with fail
  refine HHA.out.mono ?_
  rintro e w2 ⟨rfl, rfl⟩
  clear HHA
  go_upto_region 3 with (fail)
  go_region_law (first
    | (refine step_append_sl _ (by rfl) _ _ _ (by rfl) B 74 i0 _ 2 24 Tryz.underlying63 hi hz0 hz1 hz2 rfl (by decide) (.slice (some ⟨g, off, none⟩) l.length cap) l.length (itC l) (by rfl) hsl.out (.slice (some ⟨w2.heap.size, 0, none⟩) 1 1) 1 [.string ⟨x.1.toArray⟩, .int .i64 x.2] (by rfl) hsrc.out hone h63 hby hba Nat.one_pos ?_; intro g4 off4 cap4 w4 hown4 hg4 hnew4; obtain ⟨hpost, hcell4, hfree4⟩ := HPO.out _ _ hown4 hg4 (hnew4.imp (fun e => e.symm) (fun e k hk => (Option.some.inj hk) ▸ e)); have HP := Lib.hid hpost; clear hpost hown4 hg4 hnew4))
  all_goals
    go_wp2
    go_ret
    exact ⟨rfl, _, HP.out.1, HP.out.2⟩
end Go.Proofs.YtbljbdjmgogknaaGreatDoor
/-
  Bag: Clear (slices.IndexFunc, slices.DeleteFunc at items, walked).
  Conditions: none.
-/
set_option linter.unusedVariables false
set_option linter.unusedSimpArgs false
namespace Go.Proofs.YtbljbdjmgogknaaGreatDoor
open Go.RowKit

/-- Is it to that unit? -/
def toU (u : Int) (x : Item) : Bool := x.2 == u
/-- The place of the first element that p names. -/
def idxI (p : Item → Bool) : Nat → List Item → Int
  | _, [] => -1
  | k, x :: r => if p x then k else idxI p (k + 1) r
theorem idxI_step (p : Item → Bool) (l : List Item) (k : Nat) (x : Item) (h : l[k]? = some x) : idxI p k (l.drop k) = if p x then (k : Int) else idxI p (k + 1) (l.drop (k + 1)) := by
  obtain ⟨hk, rfl⟩ := List.getElem?_eq_some_iff.1 h
  rw [List.drop_eq_getElem_cons hk]
  rfl
theorem idxI_spec (p : Item → Bool) (l : List Item) : ∀ k, (idxI p k l = -1 ∧ ∀ x ∈ l, p x = false) ∨ ∃ j, j < l.length ∧ idxI p k l = ((k + j : Nat) : Int) ∧ (∀ x ∈ l.take j, p x = false) ∧ ∃ x, l[j]? = some x ∧ p x = true := by
  induction l with
  | nil => intro k; exact .inl ⟨rfl, fun x hx => (by simp at hx)⟩
  | cons y r ih =>
    intro k
    cases hy : p y with
    | true => exact .inr ⟨0, by simp, by simp [idxI, hy], fun x hx => (by simp at hx), y, rfl, hy⟩
    | false =>
      rcases ih (k + 1) with ⟨h1, h2⟩ | ⟨j, h1, h2, h3, x, h4, h5⟩
      · exact .inl ⟨by simp [idxI, hy, h1], fun x hx => by
          rcases List.mem_cons.1 hx with rfl | hx
          · exact hy
          · exact h2 x hx⟩
      · refine .inr ⟨j + 1, by simp; omega, by simp only [idxI, hy]; rw [if_neg (by simp), h2]; congr 1; omega, fun z hz => ?_, x, by simpa using h4, h5⟩
        rw [List.take_succ_cons] at hz
        rcases List.mem_cons.1 hz with rfl | hz
        · exact hy
        · exact h3 z hz
def clF (pu : Nat) : Value := .func (.func 35) #[] #[.pointer (some ⟨pu, 0, none⟩)]
set_option maxHeartbeats 800000 in
theorem isto_any (u : Int) (x : Item) (pu : Nat) (w : World) (h : Cl w pu [.int .i64 u] 3) :
    Calls Tryz.prog 35 #[.agg #[.string ⟨x.1.toArray⟩, .int .i64 x.2], .pointer (some ⟨pu, 0, none⟩)] w fun e w' => e = .returned (.bool (toU u x)) ∧ Below w.heap.size w w' := by
  have BA : Hid (Below w.heap.size w (w.alloc (.cells #[.string ⟨x.1.toArray⟩, .int .i64 x.2] 74))) := (Below.refl _ _).alloc (Nat.le_refl _) _
  have CX : Hid (Cl (w.alloc (.cells #[.string ⟨x.1.toArray⟩, .int .i64 x.2] 74)) w.heap.size [.string ⟨x.1.toArray⟩, .int .i64 x.2] 74) := Cl.new w _ _
  have HU := Lib.hid (h.below BA.out)
  have HV : Hid ((x.2 == u) = toU u x) := rfl
  clear h
  go_enter Tryz.func35, Tryz.ntmps35
  go_upto_region 1 with (fail)
  generalize w.alloc (.cells #[.string ⟨x.1.toArray⟩, .int .i64 x.2] 74) = w1 at *
  generalize w.heap.size = px at CX ⊢
  have x1 := CX.out.cell 1
  have u0 := HU.out.cell 0
  simp only [List.getElem?_cons_zero, List.getElem?_cons_succ] at x1 u0
  go_wp2
  go_ret
  exact ⟨by rw [← HV.out]; rfl, BA.out⟩
theorem Sl.get2 {w w' : World} {B : Nat} {v : Value} {n : Nat} {l : List Item} (h : Sl w B 2 v n (itC l)) (k : Nat) (x : Item) (hx : l[k]? = some x) (hk : k < n) :
    ∃ g off cap, v = .slice (some ⟨g, off, none⟩) n cap ∧ B ≤ g ∧ g < w.heap.size ∧ w.cell? ⟨g, off + k * 2, none⟩ = some (.string ⟨x.1.toArray⟩) ∧ w.cell? ⟨g, off + k * 2 + 1, none⟩ = some (.int .i64 x.2) := by
  rcases h.2 with ⟨_, h0⟩ | ⟨g, off, cap, rfl, hB, hg, hn, hm, hr, ht⟩
  · omega
  · exact ⟨g, off, cap, rfl, hB, hg, hr _ _ (itC_at hx).1, by rw [Nat.add_assoc]; exact hr _ _ (itC_at hx).2⟩
set_option maxHeartbeats 800000 in
theorem idxto_any (u : Int) (l : List Item) (hl : l.length ≤ 256) (pu B : Nat) (rv : Value) (w : World) (h : Sl w B 2 rv l.length (itC l)) (hu : Cl w pu [.int .i64 u] 3) :
    Calls Tryz.prog 63 #[rv, clF pu] w fun e w' => e = .returned (.int .i64 (idxI (toU u) 0 l)) ∧ Below w.heap.size w w' := by
  have HZ := Lib.hid h
  have HU := Lib.hid hu
  obtain ⟨a, cap, rfl, _⟩ := h.form
  clear h hu
  unfold clF
  go_enter Tryz.func63, Tryz.ntmps63
  go_wp2
  go_loopw [8] (fun i wr => ∃ k : Nat, i = .int .i64 k ∧ k ≤ l.length ∧ idxI (toU u) 0 l = idxI (toU u) k (l.drop k) ∧ Below w.heap.size w wr) (fun i _ => l.length - (intOf i).toNat)
  case atStart => exact ⟨0, rfl, by omega, rfl, Below.refl _ _⟩
  case round =>
    obtain ⟨k, rfl, hk, hr, hb⟩ := hrel
    have HR2 := Lib.hid hr
    have HB := Lib.hid hb
    clear hr hb
    by_cases hlt : k < l.length
    · obtain ⟨x, hx⟩ : ∃ x, l[k]? = some x := ⟨l[k], by simp [hlt]⟩
      have HN := Lib.hid (isto_any u x pu wr (HU.out.below HB.out))
      have HS := Lib.hid (idxI_step (toU u) l k x hx)
      obtain ⟨g, off, cap', he, hgB, hg, p0, p1⟩ := Sl.get2 (w' := wr) (HZ.out.kept (Keeps.below (fun _ => False) HB.out) (fun _ _ => id)) k x hx hlt
      injection he with he1 he2 he3
      subst he1 he3
      have hki : (k : Int) < (l.length : Int) := by omega
      clear he2 hx
      cases hb : toU u x with
      | false =>
        have HX : Hid (idxI (toU u) 0 l = idxI (toU u) (k + 1) (l.drop (k + 1))) := by rw [Hid, HR2.out, HS.out, hb]; rfl
        rw [hb] at HN
        clear HS hb
        go_wp2_with fail
        refine HN.out.mono ?_
        rintro e w5 ⟨rfl, hb5⟩
        have B5 := Lib.hid (bt HB.out hb5)
        clear hb5
        go_wp2
        go_roundw
        case rel => exact ⟨k + 1, by go_num, by omega, HX.out, B5.out⟩
        case measure => simp [intOf]; omega
      | true =>
        have HX : Hid (idxI (toU u) 0 l = k) := by rw [Hid, HR2.out, HS.out, hb]; rfl
        rw [hb] at HN
        clear HS hb
        go_wp2_with fail
        refine HN.out.mono ?_
        rintro e w5 ⟨rfl, hb5⟩
        have B5 := Lib.hid (bt HB.out hb5)
        clear hb5
        go_wp2
        go_ret
        exact ⟨by rw [HX.out]; rfl, B5.out⟩
    · obtain rfl : k = l.length := by omega
      have HX : Hid (idxI (toU u) 0 l = -1) := by rw [Hid, HR2.out, List.drop_length]; rfl
      go_wp2
      go_ret
      exact ⟨by rw [HX.out]; rfl, HB.out⟩

theorem itC_put : ∀ (l : List Item) (k : Nat) (x : Item), k < l.length → ((itC l).set (k * 2) (.string ⟨x.1.toArray⟩)).set (k * 2 + 1) (.int .i64 x.2) = itC (l.set k x) := by
  intro l
  induction l with
  | nil => intro k x h; simp at h
  | cons y l ih =>
    intro k x h
    cases k with
    | zero => rfl
    | succ k =>
      have e : itC (y :: l) = [.string ⟨y.1.toArray⟩, .int .i64 y.2] ++ itC l := rfl
      have hk := ih k x (by simpa using h)
      rw [e, show (k + 1) * 2 = 2 + k * 2 by omega]
      simp only [List.cons_append, List.nil_append, Nat.add_assoc, Nat.add_comm 2, List.set_cons_succ]
      rw [hk]
      rfl
/-- An item stored at a place of a row. -/
theorem Sl.set2 {w : World} {B : Nat} {v : Value} {l : List Item} {n : Nat} (h : Sl w B 2 v n (itC l)) (hn : l.length = n) (k : Nat) (hk : k < n) (x : Item) :
    ∃ g off cap u0 u1, v = .slice (some ⟨g, off, none⟩) n cap ∧ B ≤ g ∧ w.cell? ⟨g, off + k * 2, none⟩ = some u0 ∧ w.cell? ⟨g, off + k * 2 + 1, none⟩ = some u1 ∧
      w.frozen? ⟨g, off + k * 2, none⟩ = false ∧ w.frozen? ⟨g, off + k * 2 + 1, none⟩ = false ∧
      Sl ((w.setCell ⟨g, off + k * 2, none⟩ (.string ⟨x.1.toArray⟩)).setCell ⟨g, off + k * 2 + 1, none⟩ (.int .i64 x.2)) B 2 v n (itC (l.set k x)) := by
  subst hn
  obtain ⟨g, off, cap, u0, hv, hB, c0, f0, h0⟩ := h.setc (k * 2) (by omega) (.string ⟨x.1.toArray⟩)
  obtain ⟨g1, off1, cap1, u1, hv1, hB1, c1, f1, _⟩ := h.setc (k * 2 + 1) (by omega) (.int .i64 x.2)
  obtain ⟨g4, off4, cap4, u4, hv4, hB4, c4, f4, h1⟩ := h0.setc (k * 2 + 1) (by omega) (.int .i64 x.2)
  rw [hv] at hv1 hv4
  cases hv1; cases hv4
  rw [itC_put l k x hk] at h1
  exact ⟨g, off, cap, u0, u1, hv, hB, c0, c1, f0, f1, h1⟩
/-- The slice cut to its first k items. -/
theorem Sl.cut2 {w : World} {B g off cap n : Nat} {l : List Item} (h : Sl w B 2 (.slice (some ⟨g, off, none⟩) n cap) n (itC l)) (hn : l.length = n) (k : Nat) (hk : k ≤ n) :
    Sl w B 2 (.slice (some ⟨g, off, none⟩) k cap) k (itC (l.take k)) := by
  subst hn
  obtain ⟨hlen, h2⟩ := h
  rcases h2 with ⟨h2, _⟩ | ⟨g', off', cap', he, hB, hg, hc, hm, hr, ht⟩
  · cases h2
  · cases he
    refine ⟨by rw [itC_len, List.length_take]; omega, .inr ⟨g, off, cap, rfl, hB, hg, by omega, hm, ?_, ht⟩⟩
    intro j u hu
    rw [itC_take, List.getElem?_take] at hu
    split at hu
    · exact hr j u hu
    · cases hu
def zeroIts (n : Nat) : List Value := (Builtin.zeroCells (Value.agg #[.string ⟨#[]⟩, .int .i64 0]).cells n).toList
theorem zeroIts_len (n : Nat) : (zeroIts n).length = n * 2 := by simp [zeroIts, Builtin.zeroCells, Value.cells]
theorem zeroIts_one (n : Nat) : ∀ u ∈ zeroIts n, u.oneCell' = true := by
  intro u hu
  simp only [zeroIts, Builtin.zeroCells, Array.toList_map, List.mem_map, Value.cells] at hu
  obtain ⟨i, _, rfl⟩ := hu
  have : i % 2 = 0 ∨ i % 2 = 1 := by omega
  show (Value.oneCell' #[Value.string ⟨#[]⟩, .int .i64 0][i % 2]!) = true
  rcases this with e | e <;> rw [e] <;> rfl
theorem Sl.cleared2 {w : World} {B g off cap n : Nat} {l : List Item} (h : Sl w B 2 (.slice (some ⟨g, off, none⟩) n cap) n (itC l)) (hn : l.length = n) (k : Nat) (hk : k < n) :
    (∀ ty, (Builtin.clear_ #[63] ty #[.slice (some ⟨g, off + k * 2, none⟩) (n - k) (cap - k)]).run Tryz.prog w = .ok (.tuple #[]) (w.setCells g (off + k * 2) (zeroIts (n - k)))) ∧
    Sl (w.setCells g (off + k * 2) (zeroIts (n - k))) B 2 (.slice (some ⟨g, off, none⟩) k cap) k (itC (l.take k)) ∧ Keeps (fun j => j = g) w (w.setCells g (off + k * 2) (zeroIts (n - k))) := by
  have hc := h.cut2 hn k (by omega)
  obtain ⟨hlen, h2⟩ := h
  rcases h2 with ⟨h2, _⟩ | ⟨g', off', cap', he, hB, hg, hcp, hm, hr, ht⟩
  · cases h2
  · cases he
    have K := Keeps.cells (S := fun j => j = g) w g (off + k * 2) (zeroIts (n - k)) rfl
    refine ⟨fun ty => run_clear_rows w 63 74 ty _ Tryz.underlying63 Tryz.zeroValue74 g _ _ _ (by omega) (zeroIts_one _) (fun j hj => ?_) (fun j hj => ?_), ⟨hc.1, .inr ⟨g, off, cap, rfl, hB, Nat.lt_of_lt_of_le hg K.size, by omega, hm, ?_, World.there_setCells ht _ _ _⟩⟩, K⟩
    · have hj2 : j < (n - k) * 2 := by rw [← zeroIts_len]; exact hj
      have := (ht (k * 2 + j) (by omega)).1
      rwa [← Nat.add_assoc] at this
    · have hj2 : j < (n - k) * 2 := by rw [← zeroIts_len]; exact hj
      have := (ht (k * 2 + j) (by omega)).2
      rwa [← Nat.add_assoc] at this
    · obtain ⟨hl3, h3⟩ := hc
      rcases h3 with ⟨h3, _⟩ | ⟨g', off', cap', he, hB', hg', hcp', hm', hr', ht'⟩
      · cases h3
      · cases he
        exact World.rangeAt_setCells_apart hr' _ _ _ (.inr (.inl (by rw [hl3]; exact Nat.le_refl _)))
/-- Where a step of the way stands: i kept among the first j. -/
structure Dl (p : Item → Bool) (l L : List Item) (i j : Nat) : Prop where
  len : L.length = l.length
  lt : i < j
  le : j ≤ l.length
  low : L.take i = (l.take j).filter (fun x => !p x)
  high : L.drop j = l.drop j
theorem filter_take (p : Item → Bool) (l : List Item) (j : Nat) (x : Item) (h : l[j]? = some x) : (l.take (j + 1)).filter p = (l.take j).filter p ++ [x].filter p := by
  obtain ⟨hj, rfl⟩ := List.getElem?_eq_some_iff.1 h
  rw [List.take_succ_eq_append_getElem hj, List.filter_append]
theorem filter_all (p : Item → Bool) (l : List Item) (h : ∀ x ∈ l, p x = false) : l.filter (fun x => !p x) = l := List.filter_eq_self.2 (fun x hx => by rw [h x hx]; rfl)
theorem Dl.start {p : Item → Bool} {l : List Item} {k : Nat} {x : Item} (h1 : ∀ x ∈ l.take k, p x = false) (h2 : l[k]? = some x) (h3 : p x = true) : Dl p l l k (k + 1) :=
  ⟨rfl, by omega, (List.getElem?_eq_some_iff.1 h2).1, by rw [filter_take _ l k x h2, filter_all p _ h1]; simp [h3], rfl⟩
theorem Dl.get {p : Item → Bool} {l L : List Item} {i j : Nat} (h : Dl p l L i j) : L[j]? = l[j]? := by
  have := congrArg (fun m => m[0]?) h.high
  simpa [List.getElem?_drop] using this
theorem Dl.skip {p : Item → Bool} {l L : List Item} {i j : Nat} {x : Item} (h : Dl p l L i j) (hx : l[j]? = some x) (hp : p x = true) : Dl p l L i (j + 1) :=
  ⟨h.len, by have := h.lt; omega, (List.getElem?_eq_some_iff.1 hx).1, by rw [h.low, filter_take _ l j x hx]; simp [hp], by rw [← List.drop_drop, ← List.drop_drop, h.high]⟩
theorem Dl.keep {p : Item → Bool} {l L : List Item} {i j : Nat} {x : Item} (h : Dl p l L i j) (hx : l[j]? = some x) (hp : p x = false) : Dl p l (L.set i x) (i + 1) (j + 1) := by
  have hj := (List.getElem?_eq_some_iff.1 hx).1
  have hlt := h.lt
  have hlen := h.len
  refine ⟨by rw [List.length_set, h.len], by omega, hj, ?_, ?_⟩
  · have hi : i < (L.set i x).length := by rw [List.length_set]; omega
    rw [List.take_succ_eq_append_getElem hi, List.getElem_set_self, List.take_set_of_le (Nat.le_refl _), h.low, filter_take _ l j x hx]
    simp [hp]
  · rw [List.drop_set_of_lt (by omega), ← List.drop_drop, ← List.drop_drop, h.high]
def DlPost (w : World) (B : Nat) (v : Value) (l : List Item) (e : Ending) (w' : World) : Prop :=
  ∃ v', e = .returned v' ∧ v'.ownBlock = v.ownBlock ∧ Sl w' B 2 v' l.length (itC l) ∧ Keeps (fun k => v.ownBlock = some k) w w'
set_option maxRecDepth 20000 in
set_option maxHeartbeats 3200000 in
theorem delto_any (u : Int) (l : List Item) (hl : l.length ≤ 256) (pu B : Nat) (v : Value) (w : World) (h : Sl w B 2 v l.length (itC l)) (hu : Cl w pu [.int .i64 u] 3)
    (hap : ∀ k, v.ownBlock = some k → k ≠ pu) :
    Calls Tryz.prog 34 #[v, clF pu] w (DlPost w B v (l.filter (fun x => !toU u x))) := by
  have HI := Lib.hid (idxto_any u l hl pu B v w h hu)
  have HS := Lib.hid h
  have HU := Lib.hid hu
  have HA := Lib.hid hap
  obtain ⟨av, cap, rfl, hcap, hav⟩ := h.form
  clear h hu hap
  unfold clF at *
  rcases idxI_spec (toU u) l 0 with ⟨h1, h2⟩ | ⟨k0, h1, h2, h3, x0, h4, h5⟩
  · have HF : Hid (l.filter (fun x => !toU u x) = l) := filter_all _ _ h2
    rw [h1] at HI
    clear h1 h2
    go_enter Tryz.func34, Tryz.ntmps34
    go_wp2_with fail
    refine HI.out.mono ?_
    rintro e w1 ⟨rfl, hb⟩
    have HB := Lib.hid hb
    clear hb
    go_wp2
    go_ret
    exact ⟨_, rfl, rfl, by rw [HF.out]; exact HS.out.kept (Keeps.below (fun _ => False) HB.out) (fun _ _ => id), Keeps.below _ HB.out⟩
  · rw [h2] at HI
    simp only [Nat.zero_add] at HI
    have D0 := Lib.hid (Dl.start h3 h4 h5)
    clear h2 h3 h4 h5
    rcases hav with rfl | ⟨g, off, rfl⟩
    · exfalso
      rcases HS.out.2 with ⟨he, h0⟩ | ⟨g, off, cap', he, _⟩
      · omega
      · cases he
    have HA2 : Hid (g ≠ pu) := HA.out g rfl
    have hne1 : ((k0 : Int) == -1) = false := beq_eq_false_iff_ne.2 (by omega)
    clear HA
    go_enter Tryz.func34, Tryz.ntmps34
    go_wp2_with fail
    refine HI.out.mono ?_
    rintro e w1 ⟨rfl, hb⟩
    have S1 : Hid (Sl w1 B 2 (.slice (some ⟨g, off, none⟩) l.length cap) l.length (itC l)) := HS.out.kept (Keeps.below (fun _ => False) hb) (fun _ _ => id)
    have K1 : Hid (Keeps (fun j => j = g) w w1) := Keeps.below _ hb
    clear hb HI HS
    go_wp2
    go_loopw [5, 6] (fun ti tj wr => ∃ (i j : Nat) (L : List Item), ti = .int .i64 i ∧ tj = .int .i64 j ∧ j ≤ l.length ∧ i < j ∧ Dl (toU u) l L i j ∧ Sl wr B 2 (.slice (some ⟨g, off, none⟩) l.length cap) l.length (itC L) ∧ Keeps (fun j => j = g) w wr) (fun _ tj _ => l.length - (intOf tj).toNat)
    case atStart => exact ⟨k0, k0 + 1, l, rfl, by go_num, by omega, by omega, D0.out, S1.out, K1.out⟩
    case round =>
      obtain ⟨i, j, L, rfl, rfl, hj, hij, hD, hS, hK⟩ := hrel
      have DL := Lib.hid hD
      have SL := Lib.hid hS
      have KL := Lib.hid hK
      have hlen := hD.len
      clear hD hS hK S1 K1 D0
      by_cases hlt : j < l.length
      · obtain ⟨x, hx⟩ : ∃ x, l[j]? = some x := ⟨l[j], by simp [hlt]⟩
        have hxL : L[j]? = some x := DL.out.get.trans hx
        obtain ⟨g', off', cap', he, hgB, hgw, p0, p1⟩ := Sl.get2 (w' := wr) SL.out j x hxL hlt
        cases he
        have HU1 : Hid (Cl wr pu [.int .i64 u] 3) := Cl.keep HU.out KL.out (fun e => HA2.out e.symm)
        have B1 : Hid (Below wr.heap.size wr (wr.alloc (.cells #[.string ⟨x.1.toArray⟩, .int .i64 x.2] 74))) := (Below.refl _ _).alloc (Nat.le_refl _) _
        have C1 : Hid (Cl (wr.alloc (.cells #[.string ⟨x.1.toArray⟩, .int .i64 x.2] 74)) wr.heap.size [.string ⟨x.1.toArray⟩, .int .i64 x.2] 74) := Cl.new wr _ _
        have SL1 : Hid (Sl (wr.alloc (.cells #[.string ⟨x.1.toArray⟩, .int .i64 x.2] 74)) B 2 (.slice (some ⟨g, off, none⟩) l.length cap) l.length (itC L)) := SL.out.kept (Keeps.below (fun _ => False) B1.out) (fun _ _ => id)
        have KL1 : Hid (Keeps (fun j => j = g) w (wr.alloc (.cells #[.string ⟨x.1.toArray⟩, .int .i64 x.2] 74))) := KL.out.trans (Keeps.below _ B1.out)
        have HU2 := Lib.hid (HU1.out.below B1.out)
        have HN := Lib.hid (isto_any u x pu _ HU2.out)
        have HX := Lib.hid hx
        have hq : wr.heap.size ≠ g := by omega
        have hji : (j : Int) < (l.length : Int) := by omega
        clear hx hxL
        go_upto_region 8 with (fail)
        generalize wr.alloc (.cells #[.string ⟨x.1.toArray⟩, .int .i64 x.2] 74) = w2 at *
        clear p0 p1 HU1 B1 hgw
        generalize wr.heap.size = q at *
        have d0 := C1.out.cell 0
        have d1 := C1.out.cell 1
        simp only [List.getElem?_cons_zero, List.getElem?_cons_succ] at d0 d1
        cases hb : toU u x with
        | true =>
          rw [hb] at HN
          have DL2 := Lib.hid (DL.out.skip HX.out hb)
          clear hb
          go_wp2_with fail
          refine HN.out.mono ?_
          rintro e w3 ⟨rfl, hb3⟩
          have SL3 : Hid (Sl w3 B 2 (.slice (some ⟨g, off, none⟩) l.length cap) l.length (itC L)) := SL1.out.kept (Keeps.below (fun _ => False) hb3) (fun _ _ => id)
          have KL3 : Hid (Keeps (fun j => j = g) w w3) := KL1.out.trans (Keeps.below _ hb3)
          clear hb3
          go_wp2
          go_roundw
          case rel => exact ⟨i, j + 1, L, rfl, by go_num, by omega, by omega, DL2.out, SL3.out, KL3.out⟩
          case measure => simp [intOf]; omega
        | false =>
          rw [hb] at HN
          have DL2 := Lib.hid (DL.out.keep HX.out hb)
          clear hb
          go_wp2_with fail
          refine HN.out.mono ?_
          rintro e w3 ⟨rfl, hb3⟩
          have C3 := Lib.hid (C1.out.below hb3)
          have SL3 : Hid (Sl w3 B 2 (.slice (some ⟨g, off, none⟩) l.length cap) l.length (itC L)) := SL1.out.kept (Keeps.below (fun _ => False) hb3) (fun _ _ => id)
          have KL3 : Hid (Keeps (fun j => j = g) w w3) := KL1.out.trans (Keeps.below _ hb3)
          clear hb3 d0 d1
          have d0 := C3.out.cell 0
          have d1 := C3.out.cell 1
          simp only [List.getElem?_cons_zero, List.getElem?_cons_succ] at d0 d1
          obtain ⟨g1, off1, cap1, u0, u1, hv1, hB1, e0, e1, f0, f1, hset⟩ := SL3.out.set2 hlen i (by omega) x
          cases hv1
          have SL4 := Lib.hid hset
          have KL4 : Hid (Keeps (fun j => j = g) w ((w3.setCell ⟨g, off + i * 2, none⟩ (.string ⟨x.1.toArray⟩)).setCell ⟨g, off + i * 2 + 1, none⟩ (.int .i64 x.2))) := (KL3.out.trans (Keeps.setCell _ _ _ _ rfl)).trans (Keeps.setCell _ _ _ _ rfl)
          have hii : (i : Int) < (l.length : Int) := by omega
          clear hset
          go_wp2
          go_roundw
          case rel => exact ⟨i + 1, j + 1, L.set i x, by go_num, by go_num, by omega, by omega, DL2.out, SL4.out, KL4.out⟩
          case measure => simp [intOf]; omega
      · obtain rfl : j = l.length := by omega
        obtain ⟨i0, hi, hz0, hz1, hz2⟩ := info_parts infoItem
        have he : Tryz.prog.elem 63 = 74 := by simp [Program.elem, Tryz.underlying63]
        have hs1 : ∀ w, (Instr.slice 63 (.slice (some ⟨g, off, none⟩) l.length cap) (some (.int .i64 i)) none none).run Tryz.prog w = .ok (.slice (some ⟨g, off + i * 2, none⟩) (l.length - i) (cap - i)) w := by
          intro w
          rw [run_slice_l (P := Tryz.prog) w 63 _ _ cap (by rw [he]; exact Tryz.underlying63) .i64 i (by omega) (by omega), he]
          have hcc : ¬ (cap = Int.toNat i) := by omega
          have hcc2 : ¬ (cap = i) := by omega
          simp [sizeOf, typeInfo, hi, hz1, sliced, Addr.add, hcc, hcc2]
        have hs2 : ∀ w, (Instr.slice 63 (.slice (some ⟨g, off, none⟩) l.length cap) none (some (.int .i64 i)) none).run Tryz.prog w = .ok (.slice (some ⟨g, off, none⟩) i cap) w := by
          intro w
          rw [run_slice_h (P := Tryz.prog) w 63 _ _ cap (by rw [he]; exact Tryz.underlying63) .i64 i (by omega) (by omega), he]
          have hcc : ¬ (cap = 0) := by omega
          simp [sizeOf, typeInfo, hi, hz1, sliced, Addr.add, hcc]
        obtain ⟨hcl, hS9, hK9⟩ := SL.out.cleared2 hlen i hij
        have HCL := Lib.hid hcl
        have HL : Hid (L.take i = l.filter (fun x => !toU u x)) := by rw [Hid, DL.out.low, List.take_length]
        have HLn : Hid (i = (l.filter (fun x => !toU u x)).length) := by rw [Hid, ← HL.out, List.length_take]; omega
        rw [HL.out] at hS9
        have S9 := Lib.hid hS9
        have K9 := Lib.hid hK9
        clear hcl hS9 hK9 he hi hz0 hz1 hz2
        go_wp2_with (first
          | (refine wpList_clear rfl _ _ rfl _ rfl _ HCL.out ?_))
        go_ret
        refine ⟨_, rfl, rfl, by rw [← HLn.out]; exact S9.out, (KL.out.trans K9.out).mono (fun k _ e => by rw [e]; rfl)⟩
def ClearPost (B pb : Nat) (lv : Value) (n : Nat) (l : List Item) (w : World) (e : Ending) (w' : World) : Prop :=
  e = .returned (.int .i64 ((n : Int) - l.length)) ∧ ∃ lv', BagW w' B pb lv' l ∧ BagK pb lv lv' w w'
set_option maxRecDepth 20000 in
set_option maxHeartbeats 3200000 in
theorem bagClear_any (B pb : Nat) (lv : Value) (l : List Item) (u : Int) (w : World) (h : BagW w B pb lv l) (hB : B ≤ w.heap.size) :
    Calls Tryz.prog 17 #[.pointer (some ⟨pb, 0, none⟩), .int .i64 u] w (ClearPost B pb lv l.length (l.filter (fun x => !toU u x)) w) := by
  have H0 := Lib.hid h
  have hm := h.m
  clear h
  have BA : Hid (Below w.heap.size w (w.alloc (.cells #[.int .i64 u] 3))) := (Below.refl _ _).alloc (Nat.le_refl _) _
  have CU : Hid (Cl (w.alloc (.cells #[.int .i64 u] 3)) w.heap.size [.int .i64 u] 3) := Cl.new w _ _
  have H1 := Lib.hid (H0.out.below BA.out)
  have HLE : Hid ((l.filter (fun x => !toU u x)).length ≤ l.length) := List.length_filter_le _ _
  go_enter Tryz.func17, Tryz.ntmps17
  go_upto_region 1 with (fail)
  have hlt := H0.out.c.lt
  have hol : Hid (∀ j, lv.ownBlock = some j → j < w.heap.size) := fun j hj => (H0.out.s.lt j hj).2
  have hpu : Hid (∀ j, lv.ownBlock = some j → j ≠ w.heap.size) := fun j hj e => by have := hol.out j hj; omega
  generalize w.alloc (.cells #[.int .i64 u] 3) = w1 at *
  have HL1 := Lib.hid (bagLen_any B pb lv l w1 H1.out)
  have HPU : Hid (pb ≠ w.heap.size) := by rw [Hid]; omega
  have b1 := BA.out.size
  have c1 := H1.out.c.cell 0
  simp only [List.getElem?_cons_zero] at c1
  have HD := Lib.hid (delto_any u l hm w.heap.size B lv w1 H1.out.s CU.out hpu.out)
  unfold clF at HD
  have f1 := H1.out.c.free 0
  generalize w.heap.size = pu at CU HD ⊢
  go_wp2_with fail
  refine HL1.out.mono ?_
  rintro e w2 ⟨rfl, rfl⟩
  by_cases hz : 0 < l.length
  · have hzi : (0 : Int) < (l.length : Int) := by omega
    go_wp2_with fail
    refine HD.out.mono ?_
    rintro e w3 ⟨v', rfl, hown, hs3, hk3⟩
    obtain ⟨a', cap', hv', _⟩ := hs3.form
    subst hv'
    have S3 := Lib.hid hs3
    have K3 := Lib.hid hk3
    have HOWN := Lib.hid hown
    have P3 := Lib.hid (Cl.keep H1.out.c K3.out (fun e => H1.out.n _ e rfl))
    clear hown hs3 hk3 HD c1
    have c3 := P3.out.cell 0
    have f3 := P3.out.free 0
    simp only [List.getElem?_cons_zero] at c3
    have K4 : Hid (Keeps (fun j => j = pb) w3 (w3.setCell ⟨pb, 0, none⟩ (.slice a' (l.filter (fun x => !toU u x)).length cap'))) := Keeps.setCell _ _ _ _ rfl
    have P4 : Hid (Cl (w3.setCell ⟨pb, 0, none⟩ (.slice a' (l.filter (fun x => !toU u x)).length cap')) pb [.slice a' (l.filter (fun x => !toU u x)).length cap'] 65) := Cl.set P3.out 0 _
    have hn4 : Hid (∀ j, (Value.slice a' (l.filter (fun x => !toU u x)).length cap').ownBlock = some j → j ≠ pb) := fun j hj => by rw [HOWN.out] at hj; exact H1.out.n j hj
    have H4 : Hid (BagW (w3.setCell ⟨pb, 0, none⟩ (.slice a' (l.filter (fun x => !toU u x)).length cap')) B pb (.slice a' (l.filter (fun x => !toU u x)).length cap') (l.filter (fun x => !toU u x))) :=
      ⟨P4.out, S3.out.kept K4.out (fun j hj e => hn4.out j hj e), hn4.out, H1.out.b, Nat.le_trans HLE.out hm⟩
    have B4 : Hid (BagK pb lv (.slice a' (l.filter (fun x => !toU u x)).length cap') w (w3.setCell ⟨pb, 0, none⟩ (.slice a' (l.filter (fun x => !toU u x)).length cap'))) := by
      refine (BagK.of BA.out).trans ⟨(K3.out.mono (fun j _ e => .inr e)).trans (K4.out.mono (fun j _ e => .inl e)), fun j hj => .inl (by rw [HOWN.out] at hj; exact hj)⟩
    go_upto_region 4 with (fail)
    generalize w3.setCell ⟨pb, 0, none⟩ (.slice a' (l.filter (fun x => !toU u x)).length cap') = w4 at *
    have HL4 := Lib.hid (bagLen_any B pb _ _ w4 H4.out)
    clear c3 f3
    have hle := HLE.out
    generalize hfl : l.filter (fun x => !toU u x) = fl at *
    have hw4 : IntKind.i64.wrap ((l.length : Int) - (fl.length : Int)) = (l.length : Int) - (fl.length : Int) := by rw [IntKind.wrap_i64]; omega
    go_wp2_with fail
    refine HL4.out.mono ?_
    rintro e w5 ⟨rfl, rfl⟩
    go_wp2
    go_ret
    subst hfl
    exact ⟨rfl, _, H4.out, B4.out⟩
  · have hnil : l = [] := List.length_eq_zero_iff.1 (by omega)
    subst hnil
    go_upto_region 4 with (fail)
    go_wp2_with fail
    refine HL1.out.mono ?_
    rintro e w5 ⟨rfl, rfl⟩
    go_wp2
    go_ret
    exact ⟨rfl, _, H1.out, BagK.of BA.out⟩

end Go.Proofs.YtbljbdjmgogknaaGreatDoor
