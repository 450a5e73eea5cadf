/-
  'append' to a slice of the call's own that begins anywhere in its block, at a step of a region that draws its order. No program in sight.
  Conditions: the model's bounds on lengths and bytes.
-/
import Derived.Test.YtbljbdjmgogknaaGreatDoorCl
import Derived.Deep.AppendLies
set_option linter.unusedVariables false
set_option linter.unusedSimpArgs false
namespace Go.Proofs.YtbljbdjmgogknaaGreatDoor
open Go.RowKit

theorem Keeps.fresh {S T : Nat → Prop} {a b c : World} (h : Keeps S a b) (k : Keeps T b c) (hT : ∀ k, k < a.heap.size → T k → S k) : Keeps S a c :=
  ⟨k.os.trans h.os, k.tape.trans h.tape, k.output.trans h.output, Nat.le_trans h.size k.size, fun i hi hs => (k.block i (Nat.lt_of_lt_of_le hi h.size) (fun ht => hs (hT i hi ht))).trans (h.block i hi hs)⟩
theorem keeps_two (S : Nat → Prop) (w : World) (g i j : Nat) (u v : Value) (h : S g) : Keeps S w ((w.setCell ⟨g, i, none⟩ u).setCell ⟨g, j, none⟩ v) := (Keeps.setCell S _ ⟨g, i, none⟩ _ h).trans (Keeps.setCell S _ ⟨g, j, none⟩ _ h)
theorem step_append_sl {P : Program} (w : World) {ops : Array Oper} {o : Oper} {a : Act} {K : Act → World → Prop} {Q : Exit → Act → World → Prop} {E : Prop} (hgd : o.guard = none) (s x : Operand) (t : TypeId)
    (ho : o.op = .call { callee := .builtin .append, args := #[s, x], argTypes := #[t, t] })
    (base : Nat) (e : TypeId) (i : TypeInfo) (z : Value) (size bytes : Nat) (ht : P.underlying t = some (.slice e)) (hi : P.info? e = some i) (hz : i.zero = some z)
    (hsize : i.size = size) (hby : i.bytes = bytes) (hzs : z.cells.size = size) (hsz : 0 < size)
    (v : Value) (n : Nat) (xs : List Value) (hs : a.eval s = v) (hown : Sl w base size v n xs) (sv : Value) (m : Nat) (ys : List Value) (hx : a.eval x = sv) (hsrc : SrcIs w size sv m ys) (h1 : ∀ u ∈ ys, u.oneCell' = true)
    (h63 : n + m ≤ maxLen) (hbytes : (n + m) * bytes ≤ 140737488355328) (hbase : base ≤ w.heap.size) (hm : 0 < m)
    (h : ∀ g off cap w', Sl w' base size (.slice (some ⟨g, off, none⟩) (n + m) cap) (n + m) (xs ++ ys) → w.grownBy w' v.ownBlock → (v.ownBlock = some g ∨ w.heap.size ≤ g) → K (a.put o.dst (.slice (some ⟨g, off, none⟩) (n + m) cap)) w') :
    if Region.wanted o (yielded ops a.tmps) = true then Oper.wp P o a w K Q else E := by
  have hw : Region.wanted o (yielded ops a.tmps) = true := by simp [Region.wanted, hgd]
  rw [if_pos hw]
  obtain ⟨v', w', hr, h2, h3, h4⟩ := run_append_sl (P := P) w t o.type e i z size bytes ht hi hz hsize hby hzs hsz base v n xs hown sv m ys hsrc h1 h63 hbytes hbase
  have h2' := h2
  rcases h2.2 with ⟨_, h0⟩ | ⟨g, off, cap, rfl, _⟩
  · omega
  unfold Oper.wp execOp
  simp only [ho, resolve, invoke, builtin, Sem.run_bind, Sem.run_pure, Result.andThen_ok, List.map_toArray, List.map_cons, List.map_nil, hs, hx, hr]
  refine h g off cap w' h2' h3 ?_
  rcases h4 with h4 | h4
  · exact .inl (by rw [← h4]; rfl)
  · exact .inr (h4 g rfl)

end Go.Proofs.YtbljbdjmgogknaaGreatDoor
