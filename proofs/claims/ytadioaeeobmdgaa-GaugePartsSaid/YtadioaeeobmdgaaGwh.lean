/-
  The iterator that Row.All hands back: its contract.
  Conditions: none but the model's longest length.
-/
import Derived.Test.YtadioaeeobmdgaaGwg
import Derived.Test.YtadioaeeobmdgaaGla
import Derived.RangeFuncNested
import Derived.RangeFuncBound
import Derived.RangeFuncCalls
import Derived.RangeFuncLeaves
import Derived.Shelf.Abstract
import Derived.Shelf.RegionOpen
import Derived.WalkKit
import Derived.OwnWalkIn
import Derived.TacticsInMore
import Derived.LoopNIn
import Derived.LoopIn
set_option linter.unusedVariables false
set_option linter.unusedSimpArgs false
namespace Go.Proofs.Ytadioaeeobmdgaa
open Go.RowKit Fl Go.Shelf
attribute [local go_sem] Oper.semAt_some

/-- What a round is handed: a size, and the sum up to it. -/
abbrev Pr := { x : (Nat × Nat) × (Nat × Nat) // x.1.1 ≤ x.2.1 ∧ x.1.2 ≤ x.2.2 ∧ x.2.1 < 2 ^ 53 ∧ x.2.2 < 2 ^ 53 ∧ x.1.1 < 1048576 ∧ x.1.2 < 1048576 }
def encs (x : Pr) : Array Value := #[cx x.1.1, cx x.1.2]
/-- The first k pairs that come. -/
def goAll (ns : List (Nat × Nat)) (k : Nat) : List ((Nat × Nat) × (Nat × Nat)) := (List.range k).map fun j => (ns.getD j (0, 0), (sA (ns.take (j + 1)), sB (ns.take (j + 1))))
theorem goAll_succ (ns : List (Nat × Nat)) (k : Nat) : goAll ns (k + 1) = goAll ns k ++ [(ns.getD k (0, 0), (sA (ns.take (k + 1)), sB (ns.take (k + 1))))] := by simp [goAll, List.range_succ]
theorem goAll_length (ns : List (Nat × Nat)) (k : Nat) : (goAll ns k).length = k := by simp [goAll]
theorem goAll_le (ns : List (Nat × Nat)) {k m : Nat} (h : k ≤ m) : goAll ns k <+: goAll ns m := by
  refine ⟨((List.range (m - k)).map (k + ·)).map fun j => (ns.getD j (0, 0), (sA (ns.take (j + 1)), sB (ns.take (j + 1)))), ?_⟩
  rw [goAll, ← List.map_append, ← List.range_add, show k + (m - k) = m by omega, goAll]
/-- What a round keeps: memory that was made since n₀, but for the row's own. -/
structure KpR (n₀ p : Nat) (A B : World) : Prop where
  size : A.heap.size ≤ B.heap.size
  keep : ∀ g o, n₀ ≤ g → A.heap[g]? = some o → Obj.isCells o = true → (∀ v, A.cell? ⟨p, 0, none⟩ = some v → v.ownBlock ≠ some g) → B.heap[g]? = some o
  own : ∀ v', B.cell? ⟨p, 0, none⟩ = some v' → (∃ v, A.cell? ⟨p, 0, none⟩ = some v ∧ v.ownBlock = v'.ownBlock) ∨ ∀ g, v'.ownBlock = some g → A.heap.size ≤ g
theorem KpR.safe {n₀ p : Nat} {A B : World} (h : KpR n₀ p A B) {g : Nat} (hg : g < A.heap.size) (hs : ∀ v, A.cell? ⟨p, 0, none⟩ = some v → v.ownBlock ≠ some g) : ∀ v, B.cell? ⟨p, 0, none⟩ = some v → v.ownBlock ≠ some g := by
  intro v hv e
  rcases h.own v hv with ⟨v0, h0, h1⟩ | h1
  · exact hs v0 h0 (h1.trans e)
  · have := h1 g e; omega
theorem KpR.trans {n₀ p : Nat} {A B C : World} (h : KpR n₀ p A B) (k : KpR n₀ p B C) : KpR n₀ p A C := by
  refine ⟨Nat.le_trans h.size k.size, fun g o hn hg ho hs => ?_, fun v' hv' => ?_⟩
  · exact k.keep g o hn (h.keep g o hn hg ho hs) ho (h.safe (Array.getElem?_eq_some_iff.1 hg).1 hs)
  · rcases k.own v' hv' with ⟨v, hv, e⟩ | h1
    · rcases h.own v hv with ⟨v0, h0, e0⟩ | h2
      · exact .inl ⟨v0, h0, e0.trans e⟩
      · exact .inr fun g hg => h2 g (e.trans hg)
    · exact .inr fun g hg => Nat.le_trans h.size (h1 g hg)
theorem KpR.book {n₀ p : Nat} {w : World} (hp : p < n₀) (hn : n₀ ≤ w.heap.size) (W : World) (l : Nat) (o o' : Obj) (hl : w.heap.size ≤ l) (h : W.heap[l]? = some o) (ho : Obj.isCells o = false) (_ : o.isWalk = false) : KpR n₀ p W (W.putObj l o') := by
  have hc : (W.putObj l o').cell? ⟨p, 0, none⟩ = W.cell? ⟨p, 0, none⟩ := World.cell?_of_block (World.putObj_heap_other (by intro e; simp at e; omega))
  refine ⟨by simp, fun g o1 _ hg ho1 _ => ?_, fun v' hv' => .inl ⟨v', by rw [← hc]; exact hv', rfl⟩⟩
  rw [World.putObj_heap_other (fun e => by subst e; rw [h] at hg; injection hg with hg; subst hg; rw [ho] at ho1; cases ho1)]
  exact hg
theorem cells_of_cell {w : World} {a : Addr} {u : Value} (h : w.cell? a = some u) : ∃ o, w.heap[a.block]? = some o ∧ Obj.isCells o = true := by
  unfold World.cell? at h
  split at h
  · rename_i hb
    exact ⟨_, hb, rfl⟩
  · cases h
/-- The clone, still as it was made. -/
def Clone (wr : World) (n₀ p : Nat) (v : Value) (ns : List (Nat × Nat)) : Prop :=
  ∀ k, k < ns.length → ∃ g off cap, v = .slice (some ⟨g, off, none⟩) ns.length cap ∧ n₀ ≤ g ∧ wr.cell? ⟨g, off + k, none⟩ = some (cx (ns.getD k (0, 0))) ∧ ∀ u, wr.cell? ⟨p, 0, none⟩ = some u → u.ownBlock ≠ some g
theorem Clone.kept {A B : World} {n₀ p : Nat} {v : Value} {ns : List (Nat × Nat)} (h : Clone A n₀ p v ns) (k : KpR n₀ p A B) : Clone B n₀ p v ns := fun j hj => by
  obtain ⟨g, off, cap, e, hg, hc, hs⟩ := h j hj
  obtain ⟨o, ho, hoc⟩ := cells_of_cell hc
  exact ⟨g, off, cap, e, hg, (World.cell?_of_block ((k.keep g o hg ho hoc hs).trans ho.symm)).trans hc, k.safe (Array.getElem?_eq_some_iff.1 ho).1 hs⟩
theorem sums_mono (ns : List (Nat × Nat)) (k : Nat) : sA (ns.take k) ≤ sA ns ∧ sB (ns.take k) ≤ sB ns := by
  have e := List.take_append_drop k ns
  have h1 := congrArg sA e
  have h2 := congrArg sB e
  rw [sA_append] at h1
  rw [sB_append] at h2
  omega

set_option maxRecDepth 100000 in
set_option maxHeartbeats 2000000 in
theorem all_stops (n : Nat) (hn : 1 ≤ n) (bx n₀ B p : Nat) (v : Value) (ns : List (Nat × Nat)) (w : World) (hbx : bx < w.heap.size) (hn₀ : n₀ ≤ w.heap.size) (hc : w.cell? ⟨bx, 0, none⟩ = some (.pointer (some ⟨p, 0, none⟩))) (hg : GRow w B p v ns) (hsm : Smalls ns) :
    SeqStopsK Fence.wide n Try.prog 30 #[.pointer (some ⟨bx, 0, none⟩)] encs (KpR n₀ p) (fun xs => xs.map (·.1) = goAll ns ns.length) (fun pre => pre.map (·.1) <+: goAll ns ns.length) ns.length w := fun l J Jx W hW hJ hJx hY h0 => by
  have hbxc := (hW.cell (p := ⟨bx, 0, none⟩) hbx).trans hc
  have hg' : GRow W B p v ns := hg.kept (S := fun _ => False) (Keeps.below _ hW) id (fun _ _ => id)
  have hrow := hg'.cell
  have hwW := hW.size
  have hsl := Lib.hid hg'.2.2.1
  have hlt := Lib.hid hg'.2.2.1.lt
  have hz := hg'.2.2.2.2.1
  have hl := hg'.2.2.2.2.2
  have hb := sums_lt hz hl
  have HG := Lib.hid hg'
  have HY := Lib.hid hY
  clear hg hg' hY hz
  obtain ⟨a, cap, rfl, hle, ha⟩ := hsl.out.form
  clear ha
  refine callsIn_of_wp Try.func30 rfl trivial ?_ rfl
  simp only [Try.ntmps30, List.size_toArray, List.length_cons, List.length_nil, Nat.reduceAdd, Nat.reduceSub, Array.replicate_succ, Array.replicate_zero, List.push_toArray, List.append_toArray, List.nil_append, List.cons_append]
  gi_wp2_with (refine ⟨trivial, ?_⟩; gi_at_call 31; refine (callsIn_wide.2 (clone_any _ _ ns _ hsl.out hl)).mono ?_; rintro e w1 ⟨v1, rfl, hf, hgr⟩)
  have h1 : Hid (J [] w1) := hJ _ _ _ none h0 hgr (fun r e => by cases e)
  have hcl : Hid (Clone w1 n₀ p v1 ns) := by
    obtain ⟨a1, cap1, rfl, hfc⟩ := hf
    intro k hk
    obtain ⟨g, off, rfl, hB, hcc⟩ := hfc k hk
    refine ⟨g, off, cap1, rfl, by omega, hcc, fun u hu e => ?_⟩
    have hpl := HG.out.lt
    rw [show w1.cell? ⟨p, 0, none⟩ = W.cell? ⟨p, 0, none⟩ from World.cell?_of_block (hgr.block p hpl (by simp)), hrow] at hu
    injection hu with hu
    subst hu
    have := (hlt.out g e).2
    omega
  obtain ⟨a1, cap1, rfl, hfc⟩ := hf
  clear hfc hgr h0
  have hlen1 : ∀ w, (Builtin.len_ #[62] 3 #[.slice a1 ns.length cap1]).run Try.prog w = .ok (.int .i64 ns.length) w := by
    intro w
    have he : Try.prog.elem 62 = 30 := by simp [Program.elem, Try.underlying62]
    exact run_len_slice w 62 3 a1 ns.length cap1 (by rw [he]; exact Try.underlying62)
  gi_wp2
  rw [hlen1]
  gi_wp2
  gi_loopw [3, 14] (fun up i wr => ∃ k : Nat, i = .int .i64 k ∧ k ≤ ns.length ∧ up = cx (sA (ns.take k), sB (ns.take k)) ∧ (∃ pre : List Pr, pre.map (·.1) = goAll ns k ∧ J pre wr) ∧ Clone wr n₀ p (.slice a1 ns.length cap1) ns) (fun up i _ => ns.length - (intOf i).toNat)
  case atStart => exact ⟨0, rfl, by omega, rfl, ⟨[], rfl, h1.out⟩, hcl.out⟩
  case round =>
    obtain ⟨k, rfl, hk, rfl, ⟨pre, hpre, hjp⟩, hcw⟩ := hrel
    by_cases hlt2 : k < ns.length
    · obtain ⟨g, off, cap2, hv2, hng, hcell, hsafe⟩ := hcw k hlt2
      injection hv2 with e1 e2 e3
      subst e1 e3
      obtain ⟨t1, t2⟩ := sums_take ns k hlt2
      obtain ⟨m1, m2⟩ := sums_mono ns (k + 1)
      have hq2 := hsm.2 (ns.getD k (0, 0)) (by simp [List.getD, hlt2])
      have hadd := add_cx 30 (sA (ns.take k)) (sB (ns.take k)) (ns.getD k (0, 0)).1 (ns.getD k (0, 0)).2 (by omega) (by omega)
      rw [← t1, ← t2] at hadd
      have hlen : pre.length = k := by have := congrArg List.length hpre; simpa [goAll_length] using this
      obtain ⟨x, hx⟩ : ∃ x : Pr, x.1 = (ns.getD k (0, 0), (sA (ns.take (k + 1)), sB (ns.take (k + 1)))) := ⟨⟨(ns.getD k (0, 0), (sA (ns.take (k + 1)), sB (ns.take (k + 1)))), by simp only; omega⟩, rfl⟩
      obtain ⟨fn, tmps, assign, body, hy, hR⟩ := HY.out pre x wr hjp (by omega)
      have hnext : Hid ((pre ++ [x]).map (·.1) = goAll ns (k + 1)) := by rw [Hid, List.map_append, hpre, goAll_succ, List.map_cons, hx]; rfl
      have HP := Lib.hid hpre
      have HC := Lib.hid hcw
      obtain ⟨⟨⟨qa, qb⟩, sa, sb⟩, hpr⟩ := x
      simp only [Prod.mk.injEq] at hx
      obtain ⟨hx1, hx2, hx3⟩ := hx
      rw [← hx1] at hcell hadd
      rw [← hx2, ← hx3] at hadd
      have HX2 := Lib.hid hx2
      have HX3 := Lib.hid hx3
      clear hpre hcw hsafe hx1 hx2 hx3 t1 t2 m1 m2 hq2
      dsimp only [encs] at hy
      dsimp only at hcell hadd
      gi_wp2
      refine hR.mono ?_
      rintro e W3 (⟨rfl, hJ3, hk3⟩ | ⟨rfl, hJx3⟩)
      · have HC3 := Lib.hid (HC.out.kept hk3)
        have HJ3 := Lib.hid hJ3
        clear hJ3 hk3
        gi_wp2
        go_roundw
        case rel => exact ⟨k + 1, by go_num, by omega, by rw [HX2.out, HX3.out], ⟨_, hnext.out, HJ3.out⟩, HC3.out⟩
        case measure => simp [intOf]; omega
      · gi_wp2
        refine bodyPost_ret (results_none rfl _ _ _) rfl ?_
        exact ⟨⟨_, rfl⟩, .inr ⟨_, by rw [hnext.out]; exact goAll_le ns (by omega), hJx3⟩⟩
    · obtain rfl : k = ns.length := by omega
      gi_wp2
      go_end0
      exact ⟨⟨_, rfl⟩, .inl ⟨pre, hpre, hjp⟩⟩

end Go.Proofs.Ytadioaeeobmdgaa
