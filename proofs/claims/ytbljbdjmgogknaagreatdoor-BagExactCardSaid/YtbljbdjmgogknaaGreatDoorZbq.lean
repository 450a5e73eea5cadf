/-
  Qd: texts of one proof, one behind the other.
  Conditions: none of its own.
-/
import Derived.Test.YtbljbdjmgogknaaGreatDoorZag
import Derived.Great.BuildSlice
set_option linter.unusedVariables false
set_option linter.unusedSimpArgs false
namespace Go.Proofs.YtbljbdjmgogknaaGreatDoor
open Go Go.RowKit
def lwD (i1 i2 i3 : Nat) (w1 w2 w3 w5 : World) (L : Array Bool) (W : World) : Prop := W = if L.getD i3 false then w5 else if L.getD i2 false then w3 else if L.getD i1 false then w2 else w1
section
variable {i1 i2 i3 : Nat} {w1 w2 w3 w5 W : World} {L : Array Bool}
theorem lwD.set {i : Nat} (h : lwD i1 i2 i3 w1 w2 w3 w5 L W) (h1 : i ≠ i1) (h2 : i ≠ i2) (h3 : i ≠ i3) : lwD i1 i2 i3 w1 w2 w3 w5 (L.setIfInBounds i true) W := by
 unfold lwD at *
 rw [getD_set_ne false h1,getD_set_ne false h2,getD_set_ne false h3]
 exact h
theorem lwD.low (h : lwD i1 i2 i3 w1 w2 w3 w5 L W) (e2 : L.getD i2 false = false) (e3 : L.getD i3 false = false) : W = w1 ∨ W = w2 := by
 unfold lwD at h
 rw [e2,e3] at h
 simp only [Bool.false_eq_true,if_false] at h
 split at h
 ·exact .inr h
 ·exact .inl h
theorem lwD.one (h : lwD i1 i2 i3 w1 w2 w3 w5 L W) (e1 : L.getD i1 false = false) (e2 : L.getD i2 false = false) (e3 : L.getD i3 false = false) : W = w1 := by
 unfold lwD at h
 rw [e1,e2,e3] at h
 exact h
theorem lwD.two (h : lwD i1 i2 i3 w1 w2 w3 w5 L W) (e1 : L.getD i1 false = true) (e2 : L.getD i2 false = false) (e3 : L.getD i3 false = false) : W = w2 := by
 unfold lwD at h
 rw [e1,e2,e3] at h
 exact h
theorem lwD.three (h : lwD i1 i2 i3 w1 w2 w3 w5 L W) (e2 : L.getD i2 false = true) (e3 : L.getD i3 false = false) : W = w3 := by
 unfold lwD at h
 rw [e2,e3] at h
 exact h
theorem lwD.at1 (hs : i1 < L.size) (n2 : i1 ≠ i2) (n3 : i1 ≠ i3) (e2 : L.getD i2 false = false) (e3 : L.getD i3 false = false) : lwD i1 i2 i3 w1 w2 w3 w5 (L.setIfInBounds i1 true) w2 := by
 unfold lwD
 rw [getD_set_ne false n2,getD_set_ne false n3,e2,e3]
 simp [hs]
theorem lwD.at2 (hs : i2 < L.size) (n3 : i2 ≠ i3) (e3 : L.getD i3 false = false) : lwD i1 i2 i3 w1 w2 w3 w5 (L.setIfInBounds i2 true) w3 := by
 unfold lwD
 rw [getD_set_ne false n3,e3]
 simp [hs]
theorem lwD.at3 (hs : i3 < L.size) : lwD i1 i2 i3 w1 w2 w3 w5 (L.setIfInBounds i3 true) w5 := by
 unfold lwD
 simp [hs]
theorem DCl.no {md : Region.Mode} {ops : Array Oper} {i j : Nat} (hD : DCl md ops L) (hw : Region.waitsFor md ops j i = true) (hi : L.getD i false = false) : L.getD j false = false := by
 cases h : L.getD j false with
 | false => rfl
 | true => rw [hD.wait hw h] at hi; cases hi
end
section
variable {P : Program}
theorem rQuiet_put {ops : Array Oper} {md : Region.Mode} {C : Array Bool → World → Prop} {Q : Act → Prop} {o : Oper} {r : List Oper} {k : Nat} {a : Act} (W : World → World) (hw : Region.wanted o (yielded ops a.tmps) = true)
  (hc : ∀ L w,DCl md ops L → k ∈ Region.ready md ops L → C L w → (execOp a.eval o).run P w = .ok .skip (W w) ∧ C (L.setIfInBounds k true) (W w)) (h : rQuiet P md ops C Q (k + 1) r (a.put o.dst undef)) : rQuiet P md ops C Q k (o::r) a :=
 ⟨undef,.inl ⟨hw,fun L w hD hi hC => by rw [(hc L w hD hi hC).1]; exact ⟨(hc L w hD hi hC).2,rfl⟩⟩,h⟩
theorem exec_nil (a : Act) (w : World) (o : Oper) (x : Operand) (p : Addr) (ho : o.op = .nilCheck x) (h0 : a.eval x = .pointer (some p)) : (execOp a.eval o).run P w = .ok (.value (.pointer (some p))) w := by
 unfold execOp
 rw [ho]
 simp only [h0]
 go_simp
theorem exec_app {P : Program} (a : Act) (w w' : World) (o : Oper) (s x : Operand) (t : TypeId) (v' : Value) (hop : o.op = Op.call { callee := Callee.builtin Builtin.append,args := #[s,x],argTypes := #[t,t] }) (hrun : (Builtin.append_ #[t,t] o.type #[a.eval s,a.eval x]).run P w = .ok v' w') :
  (execOp a.eval o).run P w = .ok (.value v') w' := by
 simp [execOp,hop,resolve,invoke,builtin,hrun,Result.andThen]
theorem exec_bw (a : Act) (w : World) (o : Oper) (t e : TypeId) (x : Operand) (ho : o.op = .buildSlice t 1 #[(0,x)]) (cs : List Value) (hx : a.eval x = .agg cs.toArray) (ie : TypeInfo) (z : Value) (hu : P.underlying t = some (.slice e)) (hie : P.info? e = some ie) (hz : ie.zero = some z) (hsz : ie.size = cs.length) (h0 : 0 < cs.length) (h1 : cs.length ≤ 1000)
  (hf : Instr.fill (fun i => some (i * cs.length,cs.length)) ((Array.range (1 * cs.length)).map (z.cells[· % z.cells.size]!)) [(0,.agg cs.toArray)] = some cs.toArray) :
  (execOp a.eval o).run P w = .ok (.value (.slice (some ⟨w.heap.size,0,none⟩) 1 1)) (w.alloc (.cells cs.toArray e)) := by
 have h := run_buildSlice (P := P) w t e 1 #[(0,.agg cs.toArray)] cs.toArray ie z hu hie hz (by rw [hsz]; omega) (by rw [hsz]; omega) (by rw [hsz]; exact hf)
 unfold execOp
 rw [ho]
 simp [hx,h]
end
end Go.Proofs.YtbljbdjmgogknaaGreatDoor
