/-
  Wg3 / Qt / Cwe / Crc / Num / Walka / Frm: texts of one proof, one behind the other.
  Conditions: none of its own.
-/
import Derived.Test.YtbljbdjmgogknaaGreatDoorZaa
import Derived.Test.YtbljbdjmgogknaaGreatDoorZab
import Derived.Test.YtbljbdjmgogknaaGreatDoorZac
import Derived.Test.YtbljbdjmgogknaaGreatDoorZad
import Derived.Test.YtbljbdjmgogknaaGreatDoorZae
import Derived.BigQuiet
import Derived.StillTail
import Derived.OwnWalk
import Derived.Maps.AppendAt
import Derived.Deep.RegionHeld3
import Derived.Deep.AppendLies
import Derived.WalkKit
import Derived.Test.YtbljbdjmgogknaaGreatDoorRows
import Derived.Deep.QuietTactic
/-
  Wire: Good, of a right message of kind 3 (printed by wip/gen/mkwgood.py).
  Conditions: the numbers are such as a message's, and it has no field that its kind has not.
-/
set_option linter.unusedVariables false
set_option linter.unusedSimpArgs false
namespace Go.Proofs.YtbljbdjmgogknaaGreatDoor
open Go.RowKit

theorem ints2_cl {W : World} {g : Nat} {a b : Int} {t : TypeId} (C : Cl W g [.int .i64 a, .int .i64 b] t) : Ints W (.slice (some ⟨g, 0, none⟩) 2 2) [a, b] := by
  refine ⟨_, 2, rfl, fun i hi => ⟨g, 0, rfl, C.lt, ?_⟩⟩
  rw [Nat.zero_add, Cl.cell C i]
  rcases (show i = 0 ∨ i = 1 by simp at hi; omega) with rfl | rfl <;> rfl
theorem MsgOk.only {m : Wi.Msg} (h : MsgOk m) : MsgOk (Wi.only m) := by
  have hz : Bd.inR 0 := ⟨by decide, by decide⟩
  have hn := h.n
  simp only [List.mem_cons, List.not_mem_nil, or_false, forall_eq_or_imp, forall_eq] at hn
  obtain ⟨n0, n1, n2, n3, n4, n5, n6, n7, n8, n9, q0, q1, q2, q3, q4, q5, q6, q7, r0, r1, r2, r3, r4, r5⟩ := hn
  unfold Wi.only
  constructor <;> dsimp only
  · simp only [List.mem_cons, List.not_mem_nil, or_false, forall_eq_or_imp, forall_eq]
    refine ⟨n0, n1, n2, ?_, ?_, ?_, ?_, ?_, ?_, ?_, ?_⟩
    · split <;> assumption
    · split <;> assumption
    · split <;> assumption
    · split <;> assumption
    · split <;> assumption
    · split <;> assumption
    · split <;> assumption
    · refine ⟨?_, ?_, ?_, ?_, ?_, ?_, ?_, ?_, ?_, ?_, ?_, ?_, ?_, ?_⟩ <;> (split <;> first | assumption | exact hz)
  · split; exact h.c; exact ⟨by simp, by simp⟩
  · split; exact h.l; exact ⟨by simp, by simp⟩
  · split; exact h.b; exact ⟨hz, hz, hz, hz, hz, by simp [Wi.zBatch], by simp [Wi.zBatch]⟩
  · split; exact h.t; exact ⟨by simp, by simp⟩
  · split; exact h.q; exact ⟨by simp [Wi.zReq], by simp [Wi.zReq], by simp [Wi.zReq], by simp [Wi.zReq]⟩
  · split; exact h.p; exact ⟨by simp [Wi.zResp], by simp [Wi.zResp]⟩
  · split; exact h.a; exact ⟨by simp [Wi.zResp], by simp [Wi.zResp]⟩
theorem no_of {a b : Bool} (h : a = true → b = true) (hb : b = false) : a = false := by cases a <;> simp_all
theorem exec_load {P : Program} {o : Oper} {a : Act} {t : TypeId} {x : Operand} {p v : Value} {w : World} (ho : o.op = .load t x) (hx : a.eval x = p) (h : (Instr.loadAt t p).run P w = .ok v w) : (execOp a.eval o).run P w = .ok (.value v) w := by
  unfold execOp
  rw [ho]
  simp only [hx, Sem.run_bind, Sem.run_pure, h, Result.andThen_ok]
/-- How many blocks the region has made. -/
def gcnt (L : Array Bool) : Nat := (if L.getD 27 false then 1 else 0) + (if L.getD 28 false then 2 else 0) + (if L.getD 36 false then 1 else 0) + (if L.getD 37 false then 2 else 0)
structure gC (w1 : World) (e l o h : Int) (t : TypeId) (L : Array Bool) (W : World) : Prop where
  b : Below w1.heap.size w1 W
  s : L.getD 43 false = false → W.heap.size = w1.heap.size + gcnt L
  c1 : L.getD 27 false = true → Cl W w1.heap.size [.int .i64 e, .int .i64 l] t
  c2 : L.getD 36 false = true → Cl W (w1.heap.size + 3) [.int .i64 o, .int .i64 h] t
  z : L.size = 47
theorem set_same {L : Array Bool} {i : Nat} (h : i < L.size) : (L.setIfInBounds i true).getD i false = true := by simp [h]
theorem gC.set {w1 W : World} {e l o h : Int} {t : TypeId} {L : Array Bool} (c : gC w1 e l o h t L W) {i : Nat} (h1 : i ≠ 27) (h2 : i ≠ 28) (h3 : i ≠ 36) (h4 : i ≠ 37) (h5 : i ≠ 43) : gC w1 e l o h t (L.setIfInBounds i true) W := by
  refine ⟨c.b, ?_, ?_, ?_, by rw [Array.size_setIfInBounds]; exact c.z⟩
  · unfold gcnt
    rw [getD_set_ne false h1, getD_set_ne false h2, getD_set_ne false h3, getD_set_ne false h4, getD_set_ne false h5]
    exact c.s
  · rw [getD_set_ne false h1]; exact c.c1
  · rw [getD_set_ne false h3]; exact c.c2
theorem gC.build1 {w1 W : World} {e l o h : Int} {t : TypeId} {L : Array Bool} (c : gC w1 e l o h t L W) (hs : W.heap.size = w1.heap.size) (h28 : L.getD 28 false = false) (h36 : L.getD 36 false = false) (h37 : L.getD 37 false = false) :
    gC w1 e l o h t (L.setIfInBounds 27 true) (W.alloc (.cells #[.int .i64 e, .int .i64 l] t)) := by
  refine ⟨c.b.alloc (by omega) _, fun _ => ?_, fun _ => ?_, fun h => ?_, by rw [Array.size_setIfInBounds]; exact c.z⟩
  · unfold gcnt
    rw [getD_set_ne (i := 27) (j := 28) false (by decide), getD_set_ne (i := 27) (j := 36) false (by decide), getD_set_ne (i := 27) (j := 37) false (by decide), set_same (i := 27) (by rw [c.z]; decide), h28, h36, h37, World.size_alloc, hs]
    simp
  · rw [← hs]; exact Cl.new W _ _
  · rw [getD_set_ne false (by decide), h36] at h; cases h
theorem gC.build2 {w1 W : World} {e l o h : Int} {t : TypeId} {L : Array Bool} (c : gC w1 e l o h t L W) (hs : W.heap.size = w1.heap.size + 3) (h27 : L.getD 27 false = true) (h28 : L.getD 28 false = true) (h37 : L.getD 37 false = false) :
    gC w1 e l o h t (L.setIfInBounds 36 true) (W.alloc (.cells #[.int .i64 o, .int .i64 h] t)) := by
  refine ⟨c.b.alloc (by omega) _, fun _ => ?_, fun _ => Cl.alloc (c.c1 h27) _, fun h => ?_, by rw [Array.size_setIfInBounds]; exact c.z⟩
  · unfold gcnt
    rw [getD_set_ne (i := 36) (j := 27) false (by decide), getD_set_ne (i := 36) (j := 28) false (by decide), getD_set_ne (i := 36) (j := 37) false (by decide), set_same (i := 36) (by rw [c.z]; decide), h27, h28, h37, World.size_alloc, hs]
    simp
  · rw [← hs]; exact Cl.new W _ _
theorem gC.are1 {w1 W W' : World} {e l o h : Int} {t : TypeId} {L : Array Bool} (c : gC w1 e l o h t L W) (hb : Below W.heap.size W W') (hz : W'.heap.size = W.heap.size + 2) (h27 : L.getD 27 false = true) (h28 : L.getD 28 false = false) (h36 : L.getD 36 false = false) (h37 : L.getD 37 false = false) (h43 : L.getD 43 false = false) :
    gC w1 e l o h t (L.setIfInBounds 28 true) W' := by
  refine ⟨bt c.b hb, fun _ => ?_, fun _ => Cl.below (c.c1 h27) hb, fun h => ?_, by rw [Array.size_setIfInBounds]; exact c.z⟩
  · have hs := c.s h43
    unfold gcnt at hs ⊢
    rw [h27, h28, h36, h37] at hs
    rw [getD_set_ne (i := 28) (j := 27) false (by decide), getD_set_ne (i := 28) (j := 36) false (by decide), getD_set_ne (i := 28) (j := 37) false (by decide), set_same (i := 28) (by rw [c.z]; decide), h27, h36, h37, hz, hs]
    simp
  · rw [getD_set_ne false (by decide), h36] at h; cases h
theorem gC.are2 {w1 W W' : World} {e l o h : Int} {t : TypeId} {L : Array Bool} (c : gC w1 e l o h t L W) (hb : Below W.heap.size W W') (hz : W'.heap.size = W.heap.size + 2) (h27 : L.getD 27 false = true) (h28 : L.getD 28 false = true) (h36 : L.getD 36 false = true) (h37 : L.getD 37 false = false) (h43 : L.getD 43 false = false) :
    gC w1 e l o h t (L.setIfInBounds 37 true) W' := by
  refine ⟨bt c.b hb, fun _ => ?_, fun _ => Cl.below (c.c1 h27) hb, fun _ => Cl.below (c.c2 h36) hb, by rw [Array.size_setIfInBounds]; exact c.z⟩
  have hs := c.s h43
  unfold gcnt at hs ⊢
  rw [h27, h28, h36, h37] at hs
  rw [getD_set_ne (i := 37) (j := 27) false (by decide), getD_set_ne (i := 37) (j := 28) false (by decide), getD_set_ne (i := 37) (j := 36) false (by decide), set_same (i := 37) (by rw [c.z]; decide), h27, h28, h36, hz, hs]
  simp
theorem gC.only {w1 W W' : World} {e l o h : Int} {t : TypeId} {L : Array Bool} (c : gC w1 e l o h t L W) (hb : Below W.heap.size W W') : gC w1 e l o h t (L.setIfInBounds 43 true) W' := by
  refine ⟨bt c.b hb, fun h => ?_, fun h => ?_, fun h => ?_, by rw [Array.size_setIfInBounds]; exact c.z⟩
  · rw [set_same (by rw [c.z]; decide)] at h; cases h
  · rw [getD_set_ne false (by decide)] at h; exact Cl.below (c.c1 h) hb
  · rw [getD_set_ne false (by decide)] at h; exact Cl.below (c.c2 h) hb
theorem gC.late {w1 W W' : World} {e l o h : Int} {t : TypeId} {L : Array Bool} (c : gC w1 e l o h t L W) (hb : Below W.heap.size W W') (h43 : L.getD 43 false = true) {i : Nat} (h1 : i ≠ 27) (h2 : i ≠ 36) (h3 : i ≠ 43) : gC w1 e l o h t (L.setIfInBounds i true) W' := by
  refine ⟨bt c.b hb, fun h => ?_, fun h => ?_, fun h => ?_, by rw [Array.size_setIfInBounds]; exact c.z⟩
  · rw [getD_set_ne false h3, h43] at h; cases h
  · rw [getD_set_ne false h1] at h; exact Cl.below (c.c1 h) hb
  · rw [getD_set_ne false h2] at h; exact Cl.below (c.c2 h) hb
theorem gC.cell {w1 : World} {e l o h : Int} {t tm : TypeId} {pa : Nat} {cs : List Value} (CA : Cl w1 pa cs tm) (x : AnyOf (gC w1 e l o h t)) {k : Nat} {u : Value} (hu : cs[k]? = some u) : x.1.cell? ⟨pa, k, none⟩ = some u := by
  obtain ⟨W, L, hL⟩ := x
  exact ((Cl.below CA hL.b).cell k).trans hu
set_option maxRecDepth 20000 in
set_option maxHeartbeats 12800000 in
theorem good_k3 (m : Wi.Msg) (v : MsgV) (w : World) (h : MsgAt w m v) (ok : MsgOk m) (hk : m.kind = 3) (hf : Wi.first m = true) :
    Calls Tryz.prog 44 #[msgV m v] w fun e w' => e = .returned (.bool true) ∧ Below w.heap.size w w' := by
  have HM := Lib.hid h
  have HO := Lib.hid ok
  obtain ⟨s0, c0, hh0⟩ := h.chain.form
  obtain ⟨s1, c1, hh1⟩ := h.lives.form
  obtain ⟨s2, c2, hh2⟩ := h.brecs.form
  obtain ⟨s3, c3, hh3⟩ := h.table.form
  obtain ⟨s4, c4, hh4⟩ := h.qrecs.form
  obtain ⟨s5, c5, hh5⟩ := h.parts.form
  obtain ⟨s6, c6, hh6⟩ := h.arecs.form
  obtain ⟨v0, v1, v2, v3, v4, v5, v6⟩ := v
  dsimp only at hh0 hh1 hh2 hh3 hh4 hh5 hh6
  subst hh0 hh1 hh2 hh3 hh4 hh5 hh6
  obtain ⟨x_kind, x_frm, x_to, x_part, x_ep, x_off, x_high, x_life, x_pep, x_chain, x_learner, x_lives, x_batch, x_table, x_req, x_resp⟩ := m
  dsimp only at *
  subst hk
  have HF := Lib.hid hf
  clear h ok hf
  unfold Wi.first at HF
  simp only [Hid, Bool.and_eq_true] at HF
  obtain ⟨f1, f2, f3, f4, f5, f6, f7⟩ := HF
  have G1 := Lib.hid f1
  have G2 := Lib.hid f2
  have G3 := Lib.hid f3
  have G4 := Lib.hid f4
  have G5 := Lib.hid f5
  have G6 := Lib.hid f6
  have G7 := Lib.hid f7
  clear f1 f2 f3 f4 f5 f6 f7
  have HI38 := Lib.hid (show (Tryz.prog.info? 44).map (·.size) = some ((.int .i64 3 :: .int .i64 x_frm :: .int .i64 x_to :: .int .i64 x_part :: .int .i64 x_ep :: .int .i64 x_off :: .int .i64 x_high :: .int .i64 x_life :: .int .i64 x_pep :: .slice s0 x_chain.length c0 :: .int .i64 x_learner :: .slice s1 x_lives.length c1 :: .int .i64 x_batch.base :: .int .i64 x_batch.count :: .int .i64 x_batch.prod :: .int .i64 x_batch.seq :: .int .i64 x_batch.time :: .slice s2 x_batch.recs.length c2 :: .slice s3 x_table.length c3 :: .int .i64 x_req.client :: .int .i64 x_req.n :: .int .i64 x_req.kind :: .int .i64 x_req.part :: .int .i64 x_req.seq :: .int .i64 x_req.off :: .int .i64 x_req.max :: .int .i64 x_req.gen :: .string ⟨x_req.group.toArray⟩ :: .string ⟨x_req.member.toArray⟩ :: .slice s4 x_req.recs.length c4 :: .int .i64 x_resp.client :: .int .i64 x_resp.n :: .int .i64 x_resp.code :: .int .i64 x_resp.off :: .int .i64 x_resp.high :: .int .i64 x_resp.gen :: .slice s5 x_resp.parts.length c5 :: .slice s6 x_resp.recs.length c6 :: []) : List Value).length by kernel_rfl)
  unfold msgV msgC
  dsimp only
  go_enter Tryz.func44, Tryz.ntmps44
  obtain ⟨w1, hw1, CA, B1⟩ := oneBox (w := w) (.int .i64 3 :: .int .i64 x_frm :: .int .i64 x_to :: .int .i64 x_part :: .int .i64 x_ep :: .int .i64 x_off :: .int .i64 x_high :: .int .i64 x_life :: .int .i64 x_pep :: .slice s0 x_chain.length c0 :: .int .i64 x_learner :: .slice s1 x_lives.length c1 :: .int .i64 x_batch.base :: .int .i64 x_batch.count :: .int .i64 x_batch.prod :: .int .i64 x_batch.seq :: .int .i64 x_batch.time :: .slice s2 x_batch.recs.length c2 :: .slice s3 x_table.length c3 :: .int .i64 x_req.client :: .int .i64 x_req.n :: .int .i64 x_req.kind :: .int .i64 x_req.part :: .int .i64 x_req.seq :: .int .i64 x_req.off :: .int .i64 x_req.max :: .int .i64 x_req.gen :: .string ⟨x_req.group.toArray⟩ :: .string ⟨x_req.member.toArray⟩ :: .slice s4 x_req.recs.length c4 :: .int .i64 x_resp.client :: .int .i64 x_resp.n :: .int .i64 x_resp.code :: .int .i64 x_resp.off :: .int .i64 x_resp.high :: .int .i64 x_resp.gen :: .slice s5 x_resp.parts.length c5 :: .slice s6 x_resp.recs.length c6 :: []) 44
  have HW1 := Lib.hid hw1
  clear hw1
  go_upto_region 1 with (fail)
  first | rw [HW1.out] | skip
  clear HW1
  have M1 := Lib.hid (HM.out.kept B1.out)
  have BW : Hid (∀ W, Below w1.heap.size w1 W → Below w.heap.size w W) := fun W h => bt B1.out h
  generalize w.heap.size = pa at CA ⊢
  clear HM
  go_cut [51] (fun t51 wz => t51 = .bool false ∧ Below w1.heap.size w1 wz)
  case first =>
    have m0 := fun x : AnyOf (gC w1 x_ep x_life x_off x_high 3) => gC.cell CA.out x (k := 0) rfl
    have m1 := fun x : AnyOf (gC w1 x_ep x_life x_off x_high 3) => gC.cell CA.out x (k := 1) rfl
    have m2 := fun x : AnyOf (gC w1 x_ep x_life x_off x_high 3) => gC.cell CA.out x (k := 2) rfl
    have m3 := fun x : AnyOf (gC w1 x_ep x_life x_off x_high 3) => gC.cell CA.out x (k := 3) rfl
    have m4 := fun x : AnyOf (gC w1 x_ep x_life x_off x_high 3) => gC.cell CA.out x (k := 4) rfl
    have m5 := fun x : AnyOf (gC w1 x_ep x_life x_off x_high 3) => gC.cell CA.out x (k := 5) rfl
    have m6 := fun x : AnyOf (gC w1 x_ep x_life x_off x_high 3) => gC.cell CA.out x (k := 6) rfl
    have m7 := fun x : AnyOf (gC w1 x_ep x_life x_off x_high 3) => gC.cell CA.out x (k := 7) rfl
    have hC0 : gC w1 x_ep x_life x_off x_high 3 (Array.replicate 47 false) w1.drew := ⟨(Below.refl _ _).drew, fun _ => rfl, fun h => (by simp at h), fun h => (by simp at h), by simp⟩
    have hne : Nonempty (AnyOf (gC w1 x_ep x_life x_off x_high 3)) := ⟨⟨_, _, hC0⟩⟩
    go_wp2
    refine wp_region_ranks (gC w1 x_ep x_life x_off x_high 3) _ (by kernel_rfl) (by kernel_rfl) rfl hC0 ?_
    refine rQuiet_head 2 (by decide) (by kernel_rfl) (fun i L W h1 h2 hc => hc.set (by omega) (by omega) (by omega) (by omega) (by omega)) ?_
    simp only [List.take_succ_cons, List.take_zero, List.drop_succ_cons, List.drop_zero]
    repeat (go_big_quiet_step (fail))
    refine wpQuiet_nil ?_
    refine rQuiet_call (f := 68) (args := #[.int .i64 3, .int .i64 1, .int .i64 9]) (.bool true) rfl (fun w => by go_simp) (fun L w hD hi hc => (wwithin_any 3 1 9 w).mono fun e w' ⟨he, hw⟩ => ⟨by rw [he, G1.out], by rw [hw]; exact hc.set (by omega) (by omega) (by omega) (by omega) (by omega)⟩) ?_
    simp only [Act.put, List.setIfInBounds_toArray, List.set_cons_zero, List.set_cons_succ]
    refine rQuiet_head 4 (by decide) (by kernel_rfl) (fun i L W h1 h2 hc => hc.set (by omega) (by omega) (by omega) (by omega) (by omega)) ?_
    simp only [List.take_succ_cons, List.take_zero, List.drop_succ_cons, List.drop_zero]
    repeat (go_big_quiet_step (fail))
    refine wpQuiet_nil ?_
    refine rQuiet_call (f := 69) (args := #[.int .i64 x_frm]) (.bool true) rfl (fun w => by go_simp) (fun L w hD hi hc => (isUnit_any x_frm w).mono fun e w' ⟨he, hw⟩ => ⟨by rw [he, G2.out], by rw [hw]; exact hc.set (by omega) (by omega) (by omega) (by omega) (by omega)⟩) ?_
    simp only [Act.put, List.setIfInBounds_toArray, List.set_cons_zero, List.set_cons_succ]
    refine rQuiet_head 5 (by decide) (by kernel_rfl) (fun i L W h1 h2 hc => hc.set (by omega) (by omega) (by omega) (by omega) (by omega)) ?_
    simp only [List.take_succ_cons, List.take_zero, List.drop_succ_cons, List.drop_zero]
    repeat (go_big_quiet_step (fail))
    refine wpQuiet_nil ?_
    refine rQuiet_call (f := 69) (args := #[.int .i64 x_to]) (.bool true) rfl (fun w => by go_simp) (fun L w hD hi hc => (isUnit_any x_to w).mono fun e w' ⟨he, hw⟩ => ⟨by rw [he, G3.out], by rw [hw]; exact hc.set (by omega) (by omega) (by omega) (by omega) (by omega)⟩) ?_
    simp only [Act.put, List.setIfInBounds_toArray, List.set_cons_zero, List.set_cons_succ]
    refine rQuiet_head 5 (by decide) (by kernel_rfl) (fun i L W h1 h2 hc => hc.set (by omega) (by omega) (by omega) (by omega) (by omega)) ?_
    simp only [List.take_succ_cons, List.take_zero, List.drop_succ_cons, List.drop_zero]
    repeat (go_big_quiet_step (fail))
    refine wpQuiet_nil ?_
    refine rQuiet_call (f := 68) (args := #[.int .i64 x_part, .int .i64 0, .int .i64 3]) (.bool true) rfl (fun w => by go_simp) (fun L w hD hi hc => (wwithin_any x_part 0 3 w).mono fun e w' ⟨he, hw⟩ => ⟨by rw [he, G4.out], by rw [hw]; exact hc.set (by omega) (by omega) (by omega) (by omega) (by omega)⟩) ?_
    simp only [Act.put, List.setIfInBounds_toArray, List.set_cons_zero, List.set_cons_succ]
    refine rQuiet_head 7 (by decide) (by kernel_rfl) (fun i L W h1 h2 hc => hc.set (by omega) (by omega) (by omega) (by omega) (by omega)) ?_
    simp only [List.take_succ_cons, List.take_zero, List.drop_succ_cons, List.drop_zero]
    repeat (go_big_quiet_step (fail))
    refine wpQuiet_nil ?_
    refine rQuiet_value (.slice (some ⟨w1.heap.size, 0, none⟩) 2 2) (fun W => W.alloc (.cells #[.int .i64 x_ep, .int .i64 x_life] 3)) rfl (fun L w hD hi hc => ?_) ?_
    · have h27 := ready_not hi
      have h28 : L.getD 28 false = false := no_of (fun h => hD.wait (j := 28) (i := 27) (by kernel_rfl) h) h27
      have h36 : L.getD 36 false = false := no_of (fun h => hD.wait (j := 29) (i := 28) (by kernel_rfl) (hD.wait (j := 30) (i := 29) (by kernel_rfl) (hD.wait (j := 31) (i := 30) (by kernel_rfl) (hD.wait (j := 36) (i := 31) (by kernel_rfl) h)))) h28
      have h37 : L.getD 37 false = false := no_of (fun h => hD.wait (j := 37) (i := 36) (by kernel_rfl) h) h36
      have h43 : L.getD 43 false = false := no_of (fun h => hD.wait (j := 38) (i := 37) (by kernel_rfl) (hD.wait (j := 39) (i := 38) (by kernel_rfl) (hD.wait (j := 40) (i := 39) (by kernel_rfl) (hD.wait (j := 43) (i := 40) (by kernel_rfl) h)))) h37
      have hs := hc.s h43
      rw [gcnt, h27, h28, h36, h37] at hs
      have hs : w.heap.size = w1.heap.size := by simpa using hs
      refine ⟨by rw [← hs]; go_simp, ?_⟩
      exact hc.build1 hs h28 h36 h37
    simp only [Act.put, List.setIfInBounds_toArray, List.set_cons_zero, List.set_cons_succ]
    refine rQuiet_call (f := 70) (args := #[.int .i64 0, .int .i64 1073741824, .slice (some ⟨w1.heap.size, 0, none⟩) 2 2]) (.bool true) rfl (fun w => by go_simp) (fun L w hD hi hc => ?_) ?_
    · have h28 := ready_not hi
      have h27 := ready_wait hi (i := 27) (by kernel_rfl)
      have h36 : L.getD 36 false = false := no_of (fun h => hD.wait (j := 29) (i := 28) (by kernel_rfl) (hD.wait (j := 30) (i := 29) (by kernel_rfl) (hD.wait (j := 31) (i := 30) (by kernel_rfl) (hD.wait (j := 36) (i := 31) (by kernel_rfl) h)))) h28
      have h37 : L.getD 37 false = false := no_of (fun h => hD.wait (j := 37) (i := 36) (by kernel_rfl) h) h36
      have h43 : L.getD 43 false = false := no_of (fun h => hD.wait (j := 38) (i := 37) (by kernel_rfl) (hD.wait (j := 39) (i := 38) (by kernel_rfl) (hD.wait (j := 40) (i := 39) (by kernel_rfl) (hD.wait (j := 43) (i := 40) (by kernel_rfl) h)))) h37
      exact (are_sz [x_ep, x_life] (by simp [maxLen]) _ 0 1073741824 w (ints2_cl (hc.c1 h27))).mono fun e w' ⟨he, hb, hz⟩ => ⟨by rw [he, G5.out], hc.are1 hb hz h27 h28 h36 h37 h43⟩
    simp only [Act.put, List.setIfInBounds_toArray, List.set_cons_zero, List.set_cons_succ]
    refine rQuiet_head 7 (by decide) (by kernel_rfl) (fun i L W h1 h2 hc => hc.set (by omega) (by omega) (by omega) (by omega) (by omega)) ?_
    simp only [List.take_succ_cons, List.take_zero, List.drop_succ_cons, List.drop_zero]
    repeat (go_big_quiet_step (fail))
    refine wpQuiet_nil ?_
    refine rQuiet_value (.slice (some ⟨w1.heap.size + 3, 0, none⟩) 2 2) (fun W => W.alloc (.cells #[.int .i64 x_off, .int .i64 x_high] 3)) rfl (fun L w hD hi hc => ?_) ?_
    · have h36 := ready_not hi
      have h28 : L.getD 28 false = true := hD.wait (j := 29) (i := 28) (by kernel_rfl) (hD.wait (j := 30) (i := 29) (by kernel_rfl) (hD.wait (j := 31) (i := 30) (by kernel_rfl) (ready_wait hi (i := 31) (by kernel_rfl))))
      have h27 : L.getD 27 false = true := hD.wait (j := 28) (i := 27) (by kernel_rfl) h28
      have h37 : L.getD 37 false = false := no_of (fun h => hD.wait (j := 37) (i := 36) (by kernel_rfl) h) h36
      have h43 : L.getD 43 false = false := no_of (fun h => hD.wait (j := 38) (i := 37) (by kernel_rfl) (hD.wait (j := 39) (i := 38) (by kernel_rfl) (hD.wait (j := 40) (i := 39) (by kernel_rfl) (hD.wait (j := 43) (i := 40) (by kernel_rfl) h)))) h37
      have hs := hc.s h43
      rw [gcnt, h27, h28, h36, h37] at hs
      have hs : w.heap.size = w1.heap.size + 3 := by simpa using hs
      refine ⟨by rw [← hs]; go_simp, ?_⟩
      exact hc.build2 hs h27 h28 h37
    simp only [Act.put, List.setIfInBounds_toArray, List.set_cons_zero, List.set_cons_succ]
    refine rQuiet_call (f := 70) (args := #[.int .i64 (-1), .int .i64 1099511627776, .slice (some ⟨w1.heap.size + 3, 0, none⟩) 2 2]) (.bool true) rfl (fun w => by go_simp) (fun L w hD hi hc => ?_) ?_
    · have h37 := ready_not hi
      have h36 := ready_wait hi (i := 36) (by kernel_rfl)
      have h28 : L.getD 28 false = true := hD.wait (j := 29) (i := 28) (by kernel_rfl) (hD.wait (j := 30) (i := 29) (by kernel_rfl) (hD.wait (j := 31) (i := 30) (by kernel_rfl) (hD.wait (j := 36) (i := 31) (by kernel_rfl) h36)))
      have h27 : L.getD 27 false = true := hD.wait (j := 28) (i := 27) (by kernel_rfl) h28
      have h43 : L.getD 43 false = false := no_of (fun h => hD.wait (j := 38) (i := 37) (by kernel_rfl) (hD.wait (j := 39) (i := 38) (by kernel_rfl) (hD.wait (j := 40) (i := 39) (by kernel_rfl) (hD.wait (j := 43) (i := 40) (by kernel_rfl) h)))) h37
      exact (are_sz [x_off, x_high] (by simp [maxLen]) _ (-1) 1099511627776 w (ints2_cl (hc.c2 h36))).mono fun e w' ⟨he, hb, hz⟩ => ⟨by rw [he, G6.out], hc.are2 hb hz h27 h28 h36 h37 h43⟩
    simp only [Act.put, List.setIfInBounds_toArray, List.set_cons_zero, List.set_cons_succ]
    refine rQuiet_head 3 (by decide) (by kernel_rfl) (fun i L W h1 h2 hc => hc.set (by omega) (by omega) (by omega) (by omega) (by omega)) ?_
    simp only [List.take_succ_cons, List.take_zero, List.drop_succ_cons, List.drop_zero]
    repeat (go_big_quiet_step (fail))
    refine wpQuiet_nil ?_
    refine rQuiet_value (.agg (.int .i64 3 :: .int .i64 x_frm :: .int .i64 x_to :: .int .i64 x_part :: .int .i64 x_ep :: .int .i64 x_off :: .int .i64 x_high :: .int .i64 x_life :: .int .i64 x_pep :: .slice s0 x_chain.length c0 :: .int .i64 x_learner :: .slice s1 x_lives.length c1 :: .int .i64 x_batch.base :: .int .i64 x_batch.count :: .int .i64 x_batch.prod :: .int .i64 x_batch.seq :: .int .i64 x_batch.time :: .slice s2 x_batch.recs.length c2 :: .slice s3 x_table.length c3 :: .int .i64 x_req.client :: .int .i64 x_req.n :: .int .i64 x_req.kind :: .int .i64 x_req.part :: .int .i64 x_req.seq :: .int .i64 x_req.off :: .int .i64 x_req.max :: .int .i64 x_req.gen :: .string ⟨x_req.group.toArray⟩ :: .string ⟨x_req.member.toArray⟩ :: .slice s4 x_req.recs.length c4 :: .int .i64 x_resp.client :: .int .i64 x_resp.n :: .int .i64 x_resp.code :: .int .i64 x_resp.off :: .int .i64 x_resp.high :: .int .i64 x_resp.gen :: .slice s5 x_resp.parts.length c5 :: .slice s6 x_resp.recs.length c6 :: []).toArray) (fun W => W) rfl (fun L w hD hi hc => ⟨?_, hc.set (by omega) (by omega) (by omega) (by omega) (by omega)⟩) ?_
    · have hl := run_loadAt_mid (P := Tryz.prog) w pa 0 44 (.int .i64 3 :: .int .i64 x_frm :: .int .i64 x_to :: .int .i64 x_part :: .int .i64 x_ep :: .int .i64 x_off :: .int .i64 x_high :: .int .i64 x_life :: .int .i64 x_pep :: .slice s0 x_chain.length c0 :: .int .i64 x_learner :: .slice s1 x_lives.length c1 :: .int .i64 x_batch.base :: .int .i64 x_batch.count :: .int .i64 x_batch.prod :: .int .i64 x_batch.seq :: .int .i64 x_batch.time :: .slice s2 x_batch.recs.length c2 :: .slice s3 x_table.length c3 :: .int .i64 x_req.client :: .int .i64 x_req.n :: .int .i64 x_req.kind :: .int .i64 x_req.part :: .int .i64 x_req.seq :: .int .i64 x_req.off :: .int .i64 x_req.max :: .int .i64 x_req.gen :: .string ⟨x_req.group.toArray⟩ :: .string ⟨x_req.member.toArray⟩ :: .slice s4 x_req.recs.length c4 :: .int .i64 x_resp.client :: .int .i64 x_resp.n :: .int .i64 x_resp.code :: .int .i64 x_resp.off :: .int .i64 x_resp.high :: .int .i64 x_resp.gen :: .slice s5 x_resp.parts.length c5 :: .slice s6 x_resp.recs.length c6 :: []) _ (Cl.below CA.out hc.b).range Tryz.underlying44 rfl HI38.out
      exact exec_load rfl rfl hl
    simp only [Act.put, List.setIfInBounds_toArray, List.set_cons_zero, List.set_cons_succ]
    refine rQuiet_value (.agg (.int .i64 3 :: .int .i64 x_frm :: .int .i64 x_to :: .int .i64 x_part :: .int .i64 x_ep :: .int .i64 x_off :: .int .i64 x_high :: .int .i64 x_life :: .int .i64 x_pep :: .slice s0 x_chain.length c0 :: .int .i64 x_learner :: .slice s1 x_lives.length c1 :: .int .i64 x_batch.base :: .int .i64 x_batch.count :: .int .i64 x_batch.prod :: .int .i64 x_batch.seq :: .int .i64 x_batch.time :: .slice s2 x_batch.recs.length c2 :: .slice s3 x_table.length c3 :: .int .i64 x_req.client :: .int .i64 x_req.n :: .int .i64 x_req.kind :: .int .i64 x_req.part :: .int .i64 x_req.seq :: .int .i64 x_req.off :: .int .i64 x_req.max :: .int .i64 x_req.gen :: .string ⟨x_req.group.toArray⟩ :: .string ⟨x_req.member.toArray⟩ :: .slice s4 x_req.recs.length c4 :: .int .i64 x_resp.client :: .int .i64 x_resp.n :: .int .i64 x_resp.code :: .int .i64 x_resp.off :: .int .i64 x_resp.high :: .int .i64 x_resp.gen :: .slice s5 x_resp.parts.length c5 :: .slice s6 x_resp.recs.length c6 :: []).toArray) (fun W => W) rfl (fun L w hD hi hc => ⟨?_, hc.set (by omega) (by omega) (by omega) (by omega) (by omega)⟩) ?_
    · have hl := run_loadAt_mid (P := Tryz.prog) w pa 0 44 (.int .i64 3 :: .int .i64 x_frm :: .int .i64 x_to :: .int .i64 x_part :: .int .i64 x_ep :: .int .i64 x_off :: .int .i64 x_high :: .int .i64 x_life :: .int .i64 x_pep :: .slice s0 x_chain.length c0 :: .int .i64 x_learner :: .slice s1 x_lives.length c1 :: .int .i64 x_batch.base :: .int .i64 x_batch.count :: .int .i64 x_batch.prod :: .int .i64 x_batch.seq :: .int .i64 x_batch.time :: .slice s2 x_batch.recs.length c2 :: .slice s3 x_table.length c3 :: .int .i64 x_req.client :: .int .i64 x_req.n :: .int .i64 x_req.kind :: .int .i64 x_req.part :: .int .i64 x_req.seq :: .int .i64 x_req.off :: .int .i64 x_req.max :: .int .i64 x_req.gen :: .string ⟨x_req.group.toArray⟩ :: .string ⟨x_req.member.toArray⟩ :: .slice s4 x_req.recs.length c4 :: .int .i64 x_resp.client :: .int .i64 x_resp.n :: .int .i64 x_resp.code :: .int .i64 x_resp.off :: .int .i64 x_resp.high :: .int .i64 x_resp.gen :: .slice s5 x_resp.parts.length c5 :: .slice s6 x_resp.recs.length c6 :: []) _ (Cl.below CA.out hc.b).range Tryz.underlying44 rfl HI38.out
      exact exec_load rfl rfl hl
    simp only [Act.put, List.setIfInBounds_toArray, List.set_cons_zero, List.set_cons_succ]
    refine rQuiet_call (f := 71) (args := #[.agg (.int .i64 3 :: .int .i64 x_frm :: .int .i64 x_to :: .int .i64 x_part :: .int .i64 x_ep :: .int .i64 x_off :: .int .i64 x_high :: .int .i64 x_life :: .int .i64 x_pep :: .slice s0 x_chain.length c0 :: .int .i64 x_learner :: .slice s1 x_lives.length c1 :: .int .i64 x_batch.base :: .int .i64 x_batch.count :: .int .i64 x_batch.prod :: .int .i64 x_batch.seq :: .int .i64 x_batch.time :: .slice s2 x_batch.recs.length c2 :: .slice s3 x_table.length c3 :: .int .i64 x_req.client :: .int .i64 x_req.n :: .int .i64 x_req.kind :: .int .i64 x_req.part :: .int .i64 x_req.seq :: .int .i64 x_req.off :: .int .i64 x_req.max :: .int .i64 x_req.gen :: .string ⟨x_req.group.toArray⟩ :: .string ⟨x_req.member.toArray⟩ :: .slice s4 x_req.recs.length c4 :: .int .i64 x_resp.client :: .int .i64 x_resp.n :: .int .i64 x_resp.code :: .int .i64 x_resp.off :: .int .i64 x_resp.high :: .int .i64 x_resp.gen :: .slice s5 x_resp.parts.length c5 :: .slice s6 x_resp.recs.length c6 :: []).toArray]) (msgV (Wi.only ⟨3, x_frm, x_to, x_part, x_ep, x_off, x_high, x_life, x_pep, x_chain, x_learner, x_lives, x_batch, x_table, x_req, x_resp⟩) (onlyV ⟨3, x_frm, x_to, x_part, x_ep, x_off, x_high, x_life, x_pep, x_chain, x_learner, x_lives, x_batch, x_table, x_req, x_resp⟩ ⟨.slice s0 x_chain.length c0, .slice s1 x_lives.length c1, .slice s2 x_batch.recs.length c2, .slice s3 x_table.length c3, .slice s4 x_req.recs.length c4, .slice s5 x_resp.parts.length c5, .slice s6 x_resp.recs.length c6⟩)) rfl (fun w => by go_simp) (fun L w hD hi hc => ?_) ?_
    · exact (only_k3 ⟨3, x_frm, x_to, x_part, x_ep, x_off, x_high, x_life, x_pep, x_chain, x_learner, x_lives, x_batch, x_table, x_req, x_resp⟩ ⟨.slice s0 x_chain.length c0, .slice s1 x_lives.length c1, .slice s2 x_batch.recs.length c2, .slice s3 x_table.length c3, .slice s4 x_req.recs.length c4, .slice s5 x_resp.parts.length c5, .slice s6 x_resp.recs.length c6⟩ w (M1.out.kept hc.b) rfl).mono fun e w' ⟨he, hb⟩ => ⟨he, hc.only hb⟩
    simp only [Act.put, List.setIfInBounds_toArray, List.set_cons_zero, List.set_cons_succ]
    refine rQuiet_call (f := 22) (args := #[.agg (.int .i64 3 :: .int .i64 x_frm :: .int .i64 x_to :: .int .i64 x_part :: .int .i64 x_ep :: .int .i64 x_off :: .int .i64 x_high :: .int .i64 x_life :: .int .i64 x_pep :: .slice s0 x_chain.length c0 :: .int .i64 x_learner :: .slice s1 x_lives.length c1 :: .int .i64 x_batch.base :: .int .i64 x_batch.count :: .int .i64 x_batch.prod :: .int .i64 x_batch.seq :: .int .i64 x_batch.time :: .slice s2 x_batch.recs.length c2 :: .slice s3 x_table.length c3 :: .int .i64 x_req.client :: .int .i64 x_req.n :: .int .i64 x_req.kind :: .int .i64 x_req.part :: .int .i64 x_req.seq :: .int .i64 x_req.off :: .int .i64 x_req.max :: .int .i64 x_req.gen :: .string ⟨x_req.group.toArray⟩ :: .string ⟨x_req.member.toArray⟩ :: .slice s4 x_req.recs.length c4 :: .int .i64 x_resp.client :: .int .i64 x_resp.n :: .int .i64 x_resp.code :: .int .i64 x_resp.off :: .int .i64 x_resp.high :: .int .i64 x_resp.gen :: .slice s5 x_resp.parts.length c5 :: .slice s6 x_resp.recs.length c6 :: []).toArray, msgV (Wi.only ⟨3, x_frm, x_to, x_part, x_ep, x_off, x_high, x_life, x_pep, x_chain, x_learner, x_lives, x_batch, x_table, x_req, x_resp⟩) (onlyV ⟨3, x_frm, x_to, x_part, x_ep, x_off, x_high, x_life, x_pep, x_chain, x_learner, x_lives, x_batch, x_table, x_req, x_resp⟩ ⟨.slice s0 x_chain.length c0, .slice s1 x_lives.length c1, .slice s2 x_batch.recs.length c2, .slice s3 x_table.length c3, .slice s4 x_req.recs.length c4, .slice s5 x_resp.parts.length c5, .slice s6 x_resp.recs.length c6⟩)]) (.bool true) rfl (fun w => by go_simp) (fun L w hD hi hc => ?_) ?_
    · have h43 := ready_wait hi (i := 43) (by kernel_rfl)
      exact (wsame_any ⟨3, x_frm, x_to, x_part, x_ep, x_off, x_high, x_life, x_pep, x_chain, x_learner, x_lives, x_batch, x_table, x_req, x_resp⟩ (Wi.only ⟨3, x_frm, x_to, x_part, x_ep, x_off, x_high, x_life, x_pep, x_chain, x_learner, x_lives, x_batch, x_table, x_req, x_resp⟩) ⟨.slice s0 x_chain.length c0, .slice s1 x_lives.length c1, .slice s2 x_batch.recs.length c2, .slice s3 x_table.length c3, .slice s4 x_req.recs.length c4, .slice s5 x_resp.parts.length c5, .slice s6 x_resp.recs.length c6⟩ (onlyV ⟨3, x_frm, x_to, x_part, x_ep, x_off, x_high, x_life, x_pep, x_chain, x_learner, x_lives, x_batch, x_table, x_req, x_resp⟩ ⟨.slice s0 x_chain.length c0, .slice s1 x_lives.length c1, .slice s2 x_batch.recs.length c2, .slice s3 x_table.length c3, .slice s4 x_req.recs.length c4, .slice s5 x_resp.parts.length c5, .slice s6 x_resp.recs.length c6⟩) w (M1.out.kept hc.b) (M1.out.kept hc.b).only HO.out HO.out.only).mono fun e w' ⟨he, hb⟩ => ⟨by rw [he, G7.out], hc.late hb h43 (by omega) (by omega) (by omega)⟩
    simp only [Act.put, List.setIfInBounds_toArray, List.set_cons_zero, List.set_cons_succ]
    refine rQuiet_head 2 (by decide) (by kernel_rfl) (fun i L W h1 h2 hc => hc.set (by omega) (by omega) (by omega) (by omega) (by omega)) ?_
    simp only [List.take_succ_cons, List.take_zero, List.drop_succ_cons, List.drop_zero]
    repeat (go_big_quiet_step (fail))
    refine wpQuiet_nil ?_
    intro w9 hw9
    have T4 := Lib.hid hw9.b
    go_wp2
    go_meet
    case rel => exact ⟨rfl, T4.out⟩
  case rest =>
    obtain ⟨rfl, hwz⟩ := hcut
    have BZ := Lib.hid (BW.out _ hwz)
    have C9 := Lib.hid (Cl.below CA.out hwz)
    have k0 := C9.out.cell 0
    simp only [List.getElem?_cons_zero, List.getElem?_cons_succ] at k0
    clear hwz CA C9
    go_wp2
    go_ret
    exact ⟨rfl, BZ.out⟩

end Go.Proofs.YtbljbdjmgogknaaGreatDoor
/-
  A region that draws its order, whose operations and callees only read, but for the last ones, which come in one order: one walk. No program in sight.
-/
set_option linter.unusedVariables false
set_option linter.unusedSimpArgs false
namespace Go.Proofs.YtbljbdjmgogknaaGreatDoor
open Go Go.RowKit

section
variable {P : Program} {ops : Array Oper} {md : Region.Mode} {C : World → Prop}

/-- The first n operations come up, each quiet; then L. -/
def qHead (P : Program) (md : Region.Mode) (ops : Array Oper) (C : World → Prop) (n : Nat) (L : Array Bool → Act → Prop) : Nat → Array Bool → Act → Prop
  | 0, listed, a => L listed a
  | f + 1, listed, a => Region.ready md ops listed ≠ [] ∧ ∀ i ∈ Region.ready md ops listed, i < n ∧ qOp P ops C i (qHead P md ops C n L f (listed.setIfInBounds i true)) a
theorem qHead_any {n g : Nat} {L : Array Bool → Act → Prop} {Q : Exit → Act → World → Prop} (hL : ∀ listed a w, C w → L listed a → wpAny P md ops Q g listed a w) :
    ∀ (f : Nat) (listed : Array Bool) (a : Act) (w : World), C w → qHead P md ops C n L f listed a → wpAny P md ops Q (f + g) listed a w
  | 0, listed, a, w, hw, h => by rw [Nat.zero_add]; exact hL _ _ _ hw h
  | f + 1, listed, a, w, hw, h => by
    rw [show f + 1 + g = (f + g) + 1 by omega]
    exact ⟨fun h0 => absurd h0 h.1, fun i hi => wpOp_of_qOp hw (fun a' w' hw' h' => qHead_any hL f _ a' w' hw' h') (h.2 i hi).2⟩
theorem qHead_first {n i : Nat} {oi : Oper} {v : Value} {L : Array Bool → Act → Prop} (hi : ops[i]? = some oi) (hsel : ∀ (j : Nat) (o : Oper) cs b, ops[j]? = some o → o.op ≠ .select cs b)
    (hs : Region.sinkB md ops n = true) (hc : Region.chainB md ops n = true) (hn : n < ops.size) (hin : i < n) (hL : ∀ listed a, L listed a → ∀ j ∈ Region.ready md ops listed, n ≤ j) :
    ∀ (f : Nat) (listed : Array Bool) (a : Act), HeadInv md ops n listed →
      (∀ j oj, ops[j]? = some oj → j ≠ i → listed.getD j true = false → (∀ e ∈ oj.after, Region.binds md e = true → e.on ≠ i) → oi.apart ops oj = true) →
      i ∈ Region.ready md ops listed → YieldsIn P ops C oi v a → qHead P md ops C n L f (listed.setIfInBounds i true) (a.put oi.dst v) → qHead P md ops C n L (f + 1) listed a := by
  intro f
  induction f with
  | zero =>
    intro listed a inv _ hr hy H
    have hun := (mem_ready.1 hr).1
    refine ⟨fun h => (by rw [h] at hr; cases hr), fun j hj => ?_⟩
    have hjn : j < n := Nat.lt_of_not_le fun h => tail_waits hs hc hn inv _ i rfl hin hun j h hj
    refine ⟨hjn, ?_⟩
    by_cases hji : j = i
    · subst hji; exact hy.qOp hi H
    · have := hL _ _ H j (ready_mono hj hji); omega
  | succ f ih =>
    intro listed a inv hfree hr hy H
    have hun := (mem_ready.1 hr).1
    refine ⟨fun h => (by rw [h] at hr; cases hr), fun j hj => ?_⟩
    have hjn : j < n := Nat.lt_of_not_le fun h => tail_waits hs hc hn inv _ i rfl hin hun j h hj
    refine ⟨hjn, ?_⟩
    by_cases hji : j = i
    · subst hji; exact hy.qOp hi H
    · obtain ⟨hjun, oj, hoj, hall⟩ := mem_ready.1 hj
      have hnot : ∀ e ∈ oj.after, Region.binds md e = true → e.on ≠ i := fun e he hb heq => by
        have h2 := hall e he hb
        rw [heq, getD_both hun] at h2
        cases h2
      refine qOp_mono (fun a' h3 => ih (listed.setIfInBounds j true) a' (inv.set hj hjn) (fun k ok hk hki hu hno => hfree k ok hk hki ?_ hno) (ready_mono hr (Ne.symm hji)) h3.1 ?_)
        (qOp_put hoj (hfree j oj hoj hji hjun hnot) (fun cs b => hsel i oi cs b hi) (fun cs b => hsel j oj cs b hoj) hy (H.2 j (ready_mono hj hji)).2)
      · by_cases hjk : j = k
        · subst hjk; exact hjun
        · rwa [getD_set_ne true hjk] at hu
      · rw [Array.setIfInBounds_comm _ _ hji]
        exact h3.2
theorem qHead_lex {n g : Nat} {Lq : Act → Prop} (hsel : Region.noSelect ops = true) (hs : Region.sinkB md ops n = true) (hc : Region.chainB md ops n = true) (hn : n < ops.size) :
    ∀ (l : List Oper) (k : Nat) (listed : Array Bool) (a : Act), (∀ j, j < l.length → l[j]? = ops[k + j]?) → k + l.length = n → HeadInv md ops n listed →
    Region.lexHead md ops g l.length k listed = true → wpQuiet P ops C Lq l a →
    qHead P md ops C n (fun listed' a' => Region.seqB md ops g n listed' = true ∧ Lq a') l.length listed a
  | [], k, listed, a, _, hk, _, hB, h => by
    obtain rfl : k = n := by simpa using hk
    exact ⟨by simpa [Region.lexHead] using hB, h⟩
  | o :: l, k, listed, a, hl, hk, inv, hB, h => by
    have h0 : ops[k]? = some o := by simpa using (hl 0 (by simp)).symm
    simp only [List.length_cons, Region.lexHead, Bool.and_eq_true] at hB
    obtain ⟨⟨hr, hf⟩, hB'⟩ := hB
    simp only [List.length_cons] at hk
    have hr' : k ∈ Region.ready md ops listed := by simpa using hr
    have hst : qOp P ops C k (wpQuiet P ops C Lq l) a := by unfold qOp; simp only [h0]; exact h
    obtain ⟨v, hy, hK⟩ := yieldsIn_of_qOp h0 hst
    exact qHead_first h0 (Region.noSelect_spec hsel) hs hc hn (by omega) (fun listed' a' hL => seqB_ready hL.1) l.length listed a inv (Region.free_spec h0 hf) hr' hy
      (qHead_lex hsel hs hc hn l (k + 1) _ _ (fun j hj => by have := hl (j + 1) (by simp; omega); simpa [Nat.add_assoc, Nat.add_comm 1 j] using this) (by omega) (inv.set hr' (by omega)) hB' hK)
theorem wp_region_quiet_tail {id : Nat} {Q : Exit → Act → World → Prop} {a : Act} {w : World} {l : List Oper} (n : Nat) (hm : P.follows .mixedOrders = true) (hB : Region.lexTailB .any l.toArray n = true)
    (h : wpQuiet P l.toArray (fun w' => ∃ n, w' = w.drewN n) (fun a' => ∀ w', (∃ n, w' = w.drewN n) → wpList P l.toArray Q (l.drop n) a' w') (l.take n) a) : (Code.region id l.toArray true).wp P Q a w := by
  simp only [Region.lexTailB, Bool.and_eq_true, decide_eq_true_eq] at hB
  obtain ⟨⟨⟨⟨hsel, hn⟩, hs⟩, hc⟩, hlex⟩ := hB
  have hnl : n < l.length := by simpa using hn
  refine wp_region_any hm ?_
  have hlen : (l.take n).length = n := by rw [List.length_take]; omega
  have hinv : HeadInv .any l.toArray n (Array.replicate l.toArray.size false) :=
    ⟨by simp, fun j oj _ hl => (by rw [getD_replicate_false] at hl; cases hl), fun t _ ht => (by simp at ht; simp [ht])⟩
  have h1 := qHead_lex (C := fun w' => ∃ n, w' = w.drewN n) (md := .any) (g := l.toArray.size - n) hsel hs hc hn (l.take n) 0 (Array.replicate l.toArray.size false) a
    (fun j hj => (by rw [hlen] at hj; simp [hj])) (by omega) hinv (by rw [hlen]; exact hlex) h
  have h2 := qHead_any (Q := Q) (g := l.toArray.size - n) (fun listed a' w' hw' hL => by
    have h3 := wpAny_of_seq (l.drop n) n listed a' w' (fun j => by simp) (by rw [List.length_drop]; simpa using hL.1) (hL.2 w' hw')
    rw [List.length_drop] at h3
    simpa using h3) (l.take n).length _ a _ ⟨1, rfl⟩ h1
  rw [hlen, show n + (l.toArray.size - n) = l.toArray.size by omega] at h2
  exact h2

/-- A region that draws its order, whose operations each leave one value, in every world of a class, and a world of the class: one walk. -/
theorem wp_region_class {id : Nat} {Q : Exit → Act → World → Prop} {a : Act} {w : World} {l : List Oper} (C : World → Prop) (hm : P.follows .mixedOrders = true) (hB : Region.lexB .any l.toArray = true) (hC : C w.drew)
    (h : wpQuiet P l.toArray C (fun a' => ∀ w', C w' → Q .normal a' w') l a) : (Code.region id l.toArray true).wp P Q a w :=
  wp_region_quiet (C := C) hm hB hC (by simpa using h)

/-- A world that keeps all that stood in w. -/
def BelowOf (w : World) : Type := {W : World // Below w.heap.size w W}
instance (w : World) : Nonempty (BelowOf w) := ⟨⟨w, Below.refl _ _⟩⟩
theorem BelowOf.cell {w : World} (b : BelowOf w) {p : Addr} {v : Value} (h : w.cell? p = some v) : b.1.cell? p = some v := (b.2.cell (World.block_lt_of_cell? w _ h)).trans h
/-- A region whose operations each leave one value, in whatever world that keeps what stood, and leave such a world: one walk. -/
theorem wp_region_below {id : Nat} {Q : Exit → Act → World → Prop} {a : Act} {w : World} {l : List Oper} (hm : P.follows .mixedOrders = true) (hB : Region.lexB .any l.toArray = true)
    (h : wpQuiet P l.toArray (fun W => ∃ b : BelowOf w, W = b.1) (fun a' => ∀ w', (∃ b : BelowOf w, w' = b.1) → Q .normal a' w') l a) : (Code.region id l.toArray true).wp P Q a w :=
  wp_region_class _ hm hB ⟨⟨w.drew, (Below.refl _ _).drew⟩, rfl⟩ h
/-- The same, with a tail in one order. -/
theorem wp_region_below_tail {id : Nat} {Q : Exit → Act → World → Prop} {a : Act} {w : World} {l : List Oper} (n : Nat) (hm : P.follows .mixedOrders = true) (hB : Region.lexTailB .any l.toArray n = true)
    (h : wpQuiet P l.toArray (fun W => ∃ b : BelowOf w, W = b.1) (fun a' => ∀ w', (∃ b : BelowOf w, w' = b.1) → wpList P l.toArray Q (l.drop n) a' w') (l.take n) a) : (Code.region id l.toArray true).wp P Q a w := by
  simp only [Region.lexTailB, Bool.and_eq_true, decide_eq_true_eq] at hB
  obtain ⟨⟨⟨⟨hsel, hn⟩, hs⟩, hc⟩, hlex⟩ := hB
  have hnl : n < l.length := by simpa using hn
  refine wp_region_any hm ?_
  have hlen : (l.take n).length = n := by rw [List.length_take]; omega
  have hinv : HeadInv .any l.toArray n (Array.replicate l.toArray.size false) :=
    ⟨by simp, fun j oj _ hl => (by rw [getD_replicate_false] at hl; cases hl), fun t _ ht => (by simp at ht; simp [ht])⟩
  have h1 := qHead_lex (C := fun W => ∃ b : BelowOf w, W = b.1) (md := .any) (g := l.toArray.size - n) hsel hs hc hn (l.take n) 0 (Array.replicate l.toArray.size false) a
    (fun j hj => (by rw [hlen] at hj; simp [hj])) (by omega) hinv (by rw [hlen]; exact hlex) h
  have h2 := qHead_any (Q := Q) (g := l.toArray.size - n) (fun listed a' w' hw' hL => by
    have h3 := wpAny_of_seq (l.drop n) n listed a' w' (fun j => by simp) (by rw [List.length_drop]; simpa using hL.1) (hL.2 w' hw')
    rw [List.length_drop] at h3
    simpa using h3) (l.take n).length _ a _ ⟨⟨w.drew, (Below.refl _ _).drew⟩, rfl⟩ h1
  rw [hlen, show n + (l.toArray.size - n) = l.toArray.size by omega] at h2
  exact h2
theorem belowOf_call {w a b : World} (h : Below w.heap.size w a) (k : Below a.heap.size a b) : ∃ c : BelowOf w, b = c.1 := ⟨⟨b, h.trans (k.mono h.size)⟩, rfl⟩

theorem below_class {w : World} {f : FuncId} {args : Array Value} {v : Value} (h : ∀ W, Below w.heap.size w W → Calls P f args W fun e w' => e = .returned v ∧ Below W.heap.size W w') :
    ∀ b : BelowOf w, Calls P f args b.1 fun e w' => e = .returned v ∧ ∃ c : BelowOf w, w' = c.1 := fun b => (h b.1 b.2).mono (fun _ _ ⟨a, k⟩ => ⟨a, belowOf_call b.2 k⟩)
theorem same_class {w : World} {f : FuncId} {args : Array Value} {v : Value} (h : ∀ W, Calls P f args W fun e w' => e = .returned v ∧ w' = W) :
    ∀ b : BelowOf w, Calls P f args b.1 fun e w' => e = .returned v ∧ ∃ c : BelowOf w, w' = c.1 := fun b => (h b.1).mono (fun _ _ ⟨a, k⟩ => ⟨a, b, k⟩)

end
end Go.Proofs.YtbljbdjmgogknaaGreatDoor
/-
  Crate: Encode, walked.
  Conditions: the library's variables hold what they are laid with.
-/
set_option linter.unusedVariables false
set_option linter.unusedSimpArgs false
namespace Go.Proofs.YtbljbdjmgogknaaGreatDoor
open Go.RowKit

theorem cinfoStr : (Tryz.prog.info? 9).map (fun i => (i.zero, i.size, i.bytes)) = some (some (.string ⟨#[]⟩), 1, 16) := by kernel_rfl
/-- Texts as values. -/
def sv (ls : List (List UInt8)) : List Value := ls.map fun l => .string ⟨l.toArray⟩
theorem sv_one (ls : List (List UInt8)) : ∀ u ∈ sv ls, u.oneCell' = true := by
  intro u hu
  obtain ⟨l, _, rfl⟩ := List.mem_map.1 hu
  rfl
theorem strs_own {w : World} {base : Nat} {v : Value} {n : Nat} {ls : List (List UInt8)} (h : w.ownsRow base 9 1 v n (sv ls)) : Strs w v ls := by
  have hn : ls.length = n := by simpa [sv] using h.1
  subst hn
  have hh := h
  rcases h.2 with ⟨rfl, hn⟩ | ⟨g, cap, cur, rfl, hB, hg, hn, hm, hs, ht⟩
  · exact .inl ⟨rfl, List.eq_nil_of_length_eq_zero (by simpa using hn)⟩
  · refine .inr ⟨g, 0, cap, rfl, (Array.getElem?_eq_some_iff.1 hg).1, hn, fun j x hx => ?_⟩
    have := hh.cells (g := g) rfl j (.string ⟨x.toArray⟩) (by simp [sv, hx])
    rwa [Addr.add_mid] at this
theorem row_cells (w : World) (xs : List Value) (t : TypeId) (W : World) (hb : Below (w.alloc (.cells xs.toArray t)).heap.size (w.alloc (.cells xs.toArray t)) W) (k : Nat) : W.cell? ⟨w.heap.size, k, none⟩ = xs[k]? := by
  have e1 := (hb.block w.heap.size (by simp)).trans (heap_alloc_new w _)
  simp [World.cell?, e1]
theorem strs_row (w : World) (ls : List (List UInt8)) (W : World) (hb : Below (w.alloc (.cells (sv ls).toArray 9)).heap.size (w.alloc (.cells (sv ls).toArray 9)) W) : Strs W (.slice (some ⟨w.heap.size, 0, none⟩) ls.length ls.length) ls :=
  .inr ⟨w.heap.size, 0, ls.length, rfl, Nat.lt_of_lt_of_le (by rw [World.size_alloc]; omega) hb.size, Nat.le_refl _, fun j x hx => by
    rw [Nat.zero_add, row_cells w (sv ls) 9 W hb j]
    simp [sv, hx]⟩
/-- What Encode answers. -/
def encR (b : Cr.Batch) : Value := if Cr.good b then .tuple #[.string ⟨(Cr.enc b).toArray⟩, .int .i64 0] else .tuple #[.string ⟨#[]⟩, .int .i64 1]
def five (b : Cr.Batch) : List Int := [b.base, b.count, b.prod, b.seq, b.time]
def parts (b : Cr.Batch) (k : Nat) : List (List UInt8) := (five b).map Bd.bInt ++ (b.recs.take k).map Cr.encRec
theorem flat5 (a b c d e : List UInt8) (l : List (List UInt8)) : ([a, b, c, d, e] ++ l).flatten = (a ++ (b ++ (c ++ (d ++ e)))) ++ l.flatten := by simp
theorem parts_flat (b : Cr.Batch) : (parts b b.recs.length).flatten = Cr.nums b ++ Cr.encRecs b.recs := by
  rw [parts, List.take_length]
  exact flat5 _ _ _ _ _ _
theorem parts_succ (b : Cr.Batch) (k : Nat) (x : Cr.Rec) (h : b.recs[k]? = some x) : parts b (k + 1) = parts b k ++ [Cr.encRec x] := by
  obtain ⟨hk, rfl⟩ := List.getElem?_eq_some_iff.1 h
  rw [parts, parts, List.take_succ_eq_append_getElem hk, List.map_append, List.append_assoc]
  rfl
theorem five_succ (b : Cr.Batch) (k : Nat) (n : Int) (h : (five b)[k]? = some n) : ((five b).take (k + 1)).map Bd.bInt = ((five b).take k).map Bd.bInt ++ [Bd.bInt n] := by
  obtain ⟨hk, rfl⟩ := List.getElem?_eq_some_iff.1 h
  rw [List.take_succ_eq_append_getElem hk, List.map_append]
  rfl
set_option maxRecDepth 20000 in
set_option maxHeartbeats 6400000 in
theorem encode_any (b : Cr.Batch) (hok : BatOk b) (rv : Value) (w : World) (h : Recs w rv b.recs) (hw : Lw w) :
    Calls Tryz.prog 84 #[batV b rv] w fun e w' => e = .returned (encR b) ∧ Below w.heap.size w w' := by
  have HL := Lib.hid hw
  have HZ := Lib.hid h
  have HR := Lib.hid hok.2.2.2.2.2.2
  have HQ := Lib.hid hok
  have HI := Lib.hid (show ∀ n ∈ five b, Bd.inR n from by
    obtain ⟨h1, h2, h3, h4, h5, _⟩ := hok
    intro n hn
    simp only [five, List.mem_cons, List.not_mem_nil, or_false] at hn
    rcases hn with rfl | rfl | rfl | rfl | rfl <;> assumption)
  obtain ⟨a, cap, rfl⟩ := h.form
  obtain ⟨o1, o2, o3, o4, o5, o11, -⟩ := hok
  have HE : Hid (encR b = if Cr.good b then .tuple #[.string ⟨(Cr.enc b).toArray⟩, .int .i64 0] else .tuple #[.string ⟨#[]⟩, .int .i64 1]) := rfl
  have C0 := bat_cells w b (.slice a b.recs.length cap)
  have HB0 : Hid (Below w.heap.size w (w.alloc (.cells (batCells b (.slice a b.recs.length cap)) 36))) := (Below.refl _ _).alloc (Nat.le_refl _) _
  have HG0 := Lib.hid (fun W (hW : Below w.heap.size w W) => good_any b HQ.out (.slice a b.recs.length cap) W (HZ.out.kept hW))
  unfold maxLen at o11
  unfold batV batCells at *
  obtain ⟨c0, c1, c2, c3, c4, c5⟩ := C0 _ (Below.refl _ _)
  clear h hw
  cases hg : Cr.good b with
  | false =>
    rw [hg] at HE HG0
    go_enter Tryz.func84, Tryz.ntmps84
    go_wp2_with fail
    refine (HG0.out _ HB0.out).mono ?_
    rintro e w3 ⟨rfl, hb3⟩
    have B3 := Lib.hid (bt HB0.out hb3)
    clear hb3
    go_wp2
    go_ret2
    exact ⟨by rw [HE.out]; rfl, B3.out⟩
  | true =>
    rw [hg] at HE HG0
    have HRG := Lib.hid (Cr.good_recs hg)
    have HLN := Lib.hid (Cr.enc_len hg)
    clear hg
    go_enter Tryz.func84, Tryz.ntmps84
    go_wp2_with fail
    refine (HG0.out _ HB0.out).mono ?_
    rintro e w3 ⟨rfl, hb3⟩
    have B3 := Lib.hid (bt HB0.out hb3)
    have C3 := Lib.hid (fun W (hW : Below w3.heap.size w3 W) => C0 W (bt hb3 hW))
    obtain ⟨c0, c1, c2, c3, c4, c5⟩ := C3.out _ (Below.refl _ _)
    clear hb3 C0
    go_wp2_with fail
    have F4 := Lib.hid (row_cells w3 ((five b).map fun n => .int .i64 n) 3)
    have B4 : Hid (Below w3.heap.size w3 (w3.alloc (.cells #[.int .i64 b.base, .int .i64 b.count, .int .i64 b.prod, .int .i64 b.seq, .int .i64 b.time] 3))) := (Below.refl _ _).alloc (Nat.le_refl _) _
    have e4 : w3.alloc (.cells ((five b).map fun n => Value.int .i64 n).toArray 3) = w3.alloc (.cells #[.int .i64 b.base, .int .i64 b.count, .int .i64 b.prod, .int .i64 b.seq, .int .i64 b.time] 3) := rfl
    rw [e4] at F4
    have hB3 := B3.out.size
    clear e4
    generalize w3.alloc (.cells #[.int .i64 b.base, .int .i64 b.count, .int .i64 b.prod, .int .i64 b.seq, .int .i64 b.time] 3) = w4 at *
    obtain ⟨i0, hi, hz0, hz1, hz2⟩ := info_parts cinfoStr
    go_loopw [24, 4] (fun i sv' wr => ∃ (k : Nat) (v : Value), i = .int .i64 k ∧ v = sv' ∧ k ≤ 5 ∧ wr.ownsRow w4.heap.size 9 1 v k (sv (((five b).take k).map Bd.bInt)) ∧ Below w4.heap.size w4 wr) (fun i _ _ => 5 - (intOf i).toNat)
    case atStart => exact ⟨0, _, rfl, rfl, by omega, ⟨rfl, .inl ⟨rfl, rfl⟩⟩, Below.refl _ _⟩
    case round =>
      obtain ⟨k, v, rfl, rfl, hk, hown, hb⟩ := hrel
      have HO := Lib.hid hown
      have HB := Lib.hid hb
      have hszr := hb.size
      have BW : Hid (Below w.heap.size w wr) := bt B3.out (bt B4.out hb)
      clear hown hb
      by_cases hlt : k < 5
      · obtain ⟨n, hn⟩ : ∃ n, (five b)[k]? = some n := ⟨(five b)[k]'(by simpa [five] using hlt), by simp⟩
        have hc1 := F4.out _ HB.out k
        rw [List.getElem?_map, hn, Option.map_some] at hc1
        have HS := Lib.hid (five_succ b k n hn)
        have HN := Lib.hid (beadInt_any n (HI.out n (List.mem_of_getElem? hn)) wr (HL.out.below BW.out))
        generalize Bd.bInt n = t at HS HN
        clear hn
        go_wp2_with fail
        refine HN.out.mono ?_
        rintro e w5 ⟨rfl, hb5⟩
        have HO5 := Lib.hid (ownsRow_below HO.out hb5)
        have B5 := Lib.hid (bt HB.out hb5)
        have hsz5 := B5.out.size
        clear hb5 HN HO HB
        go_wp2_with (at_builtin; refine wpList_append_own _ rfl (.tmp 28) (.tmp 31) 93 rfl w4.heap.size 9 i0 (.string ⟨#[]⟩) 1 16 Tryz.underlying93 hi hz0 hz1 hz2 rfl (by decide) _ _ _ rfl (World.ownsRow.alloc HO5.out _) ⟨w5.heap.size, 0, none⟩ 1 1 [.string ⟨t.toArray⟩] rfl rfl (cell_one_new _ _ _) ?_ ?_ ?_ ?_ ?_)
        · simp [Value.oneCell']
        · unfold maxLen; omega
        · omega
        · simp; omega
        intro v' w6 hown6 hg6 _
        have H6 : Hid (w6.ownsRow w4.heap.size 9 1 v' (k + 1) (sv (((five b).take (k + 1)).map Bd.bInt))) := by
          rw [Hid, HS.out]
          simpa [sv] using hown6
        have B6 : Hid (Below w4.heap.size w4 w6) := (B5.out.alloc B5.out.size _).grown hg6 (by simp; omega) (fun kk hkk => (HO5.out.lt kk hkk).1)
        clear hown6 hg6
        go_wp2
        go_roundw
        case rel => exact ⟨k + 1, _, by go_num, rfl, by omega, H6.out, B6.out⟩
        case measure => simp [intOf]; omega
      · obtain rfl : k = 5 := by omega
        have HP : Hid (wr.ownsRow w4.heap.size 9 1 v (5 + 0) (sv (parts b 0))) := by
          have e : ((five b).take 5).map Bd.bInt = parts b 0 := by simp [parts, five]
          rw [← e]
          exact HO.out
        obtain ⟨c0, c1, c2, c3, c4, c5⟩ := C3.out _ (bt B4.out HB.out)
        have BWL : Hid (Below w4.heap.size w4 wr) := HB.out
        clear HO HB F4 c0 c1 c2 c3 c4 HI
        generalize wr = w7 at *
        rw [show ((5 : Nat) : Int) = 5 from rfl]
        go_wp2_with fail
        go_loopw [37, 4] (fun i sv' wr => ∃ (k : Nat) (v : Value), i = .int .i64 k ∧ v = sv' ∧ k ≤ b.recs.length ∧ wr.ownsRow w4.heap.size 9 1 v (5 + k) (sv (parts b k)) ∧ Below w4.heap.size w4 wr) (fun i _ _ => b.recs.length - (intOf i).toNat)
        case atStart => exact ⟨0, _, rfl, rfl, by omega, HP.out, BWL.out⟩
        case round =>
          obtain ⟨k, v, rfl, rfl, hk, hown, hb⟩ := hrel
          have HO := Lib.hid hown
          have HB := Lib.hid hb
          have hszr := hb.size
          have BW : Hid (Below w.heap.size w wr) := bt B3.out (bt B4.out hb)
          clear hown hb
          by_cases hlt : k < b.recs.length
          · obtain ⟨x, hx⟩ : ∃ x, b.recs[k]? = some x := ⟨b.recs[k], by simp [hlt]⟩
            have HS := Lib.hid (parts_succ b k x hx)
            have hxm := List.mem_of_getElem? hx
            have hxg := HRG.out x hxm
            have hxr := hxg.1
            simp only [Cr.isRec, Bool.and_eq_true, decide_eq_true_eq] at hxr
            have HXL := Lib.hid (Cr.encRec_len hxg.1 hxg.2.1 hxg.2.2)
            obtain ⟨g, off, cap', he, hg, p0, p1, p2, p3⟩ := HZ.out.get BW.out hx
            injection he with he1 he2 he3
            subst he1 he3
            have HCX := Lib.hid (rec_cells wr x)
            have HEX : Hid (Cr.encRec x = 108 :: ([Bd.bInt x.off, Bd.bText x.key, Bd.bText x.val, Bd.bInt (Cr.flag x.gone)].flatten ++ [101])) := by simp [Hid, Cr.encRec]
            obtain ⟨x0, xk, xv, xg⟩ := x
            have hxo := HR.out _ hxm
            obtain ⟨xo, xkl, xvl⟩ := hxo
            dsimp only at *
            obtain ⟨hk16, hv64, -⟩ := hxr
            have BA : Hid (Below wr.heap.size wr (wr.alloc (.cells #[.int .i64 x0, .string ⟨xk.toArray⟩, .string ⟨xv.toArray⟩, .bool xg] 67))) := (Below.refl _ _).alloc (Nat.le_refl _) _
            clear he2 hxm hxg
            go_wp2
            generalize hw8 : wr.alloc (.cells #[.int .i64 x0, .string ⟨xk.toArray⟩, .string ⟨xv.toArray⟩, .bool xg] 67) = w8 at *
            clear hw8
            have HLW : Hid (∀ W, Below w8.heap.size w8 W → Lw W) := fun W hW => HL.out.below (bt BW.out (bt BA.out hW))
            have hm0 := Lib.hid (fun W (hW : Below w8.heap.size w8 W) => HCX.out W hW)
            have J1 := Lib.hid (fun W (hW : Below w8.heap.size w8 W) => beadInt_any x0 xo W (HLW.out W hW))
            have J2 := Lib.hid (fun W (hW : Below w8.heap.size w8 W) => beadText_any xk (by omega) W (HLW.out W hW))
            have J3 := Lib.hid (fun W (hW : Below w8.heap.size w8 W) => beadText_any xv (by omega) W (HLW.out W hW))
            have J5 := Lib.hid (fun W (hW : Below w8.heap.size w8 W) => beadInt_any (Cr.flag xg) (Cr.inR_flag xg) W (HLW.out W hW))
            have hlen4 : [Bd.bInt x0, Bd.bText xk, Bd.bText xv, Bd.bInt (Cr.flag xg)].flatten.length ≤ 130 := by
              have := HXL.out
              rw [HEX.out] at this
              simp only [List.length_cons, List.length_append] at this
              omega
            generalize Bd.bInt x0 = t1 at *
            generalize Bd.bText xk = t2 at *
            generalize Bd.bText xv = t3 at *
            generalize Bd.bInt (Cr.flag xg) = t4 at *
            have J6 := Lib.hid (fun (W : World) => beadList_any _ _ _ (strs_row W [t1, t2, t3, t4] _ (Below.refl _ _)) (by simp) (by omega))
            rw [← HEX.out] at J6
            have T0 : Hid (Below w8.heap.size w8 w8.drew) := (Below.refl _ _).drew
            obtain ⟨q0, q1, q2, q3⟩ := HCX.out _ (Below.refl _ _)
            have HO8 : Hid (w8.ownsRow w4.heap.size 9 1 v (5 + k) (sv (parts b k))) := ownsRow_below HO.out BA.out
            have hs8 := (bt HB.out BA.out).size
            have hne : some wr.heap.size ≠ v.ownBlock := fun h => by have := (HO.out.lt _ h.symm).2; omega
            have hone : ∀ u ∈ [Value.string ⟨(Cr.encRec ⟨x0, xk, xv, xg⟩).toArray⟩], u.oneCell' = true := by simp [Value.oneCell']
            have hk8 : k < 8 := by have := HLN.out.2.2; omega
            have h63 : 5 + k + 1 ≤ maxLen := by unfold maxLen; omega
            have hby : (5 + k + 1) * 16 ≤ 140737488355328 := by omega
            clear p0 p1 p2 p3
            go_region_held3 (fun W => W.cell? ⟨wr.heap.size, 0, none⟩ = some (.int .i64 x0) ∧ W.cell? ⟨wr.heap.size, 1, none⟩ = some (.string ⟨xk.toArray⟩) ∧ W.cell? ⟨wr.heap.size, 2, none⟩ = some (.string ⟨xv.toArray⟩) ∧ W.cell? ⟨wr.heap.size, 3, none⟩ = some (.bool xg)) (first | assumption | exact ⟨q0, q1, q2, q3⟩ | exact S1.out | exact S2.out | exact S3.out | exact S5.out | exact hm0.out _ U5.out | exact S6.out | exact hm0.out _ U6.out | exact S7.out) (first
              | (go_at_call 83; refine (J1.out _ T0.out).mono ?_; rintro e w91 ⟨rfl, hb91⟩; have T1 := Lib.hid (bt T0.out hb91); have S1 := Lib.hid (hm0.out _ T1.out); clear hb91)
              | (go_at_call 81; refine (J2.out _ T1.out).mono ?_; rintro e w92 ⟨rfl, hb92⟩; have T2 := Lib.hid (bt T1.out hb92); have S2 := Lib.hid (hm0.out _ T2.out); clear hb92)
              | (go_at_call 81; refine (J3.out _ T2.out).mono ?_; rintro e w93 ⟨rfl, hb93⟩; have T3 := Lib.hid (bt T2.out hb93); have S3 := Lib.hid (hm0.out _ T3.out); clear hb93)
              | (go_at_call 114; refine (flag_any _ _).mono ?_; rintro e w94 ⟨rfl, rfl⟩)
              | (go_at_call 83; refine (J5.out _ T3.out).mono ?_; rintro e w95 ⟨rfl, hb95⟩; have T5 := Lib.hid (bt T3.out hb95); have S5 := Lib.hid (hm0.out _ T5.out); clear hb95; have U5 := Lib.hid (T5.out.alloc T5.out.size (.cells #[.string ⟨t1.toArray⟩, .string ⟨t2.toArray⟩, .string ⟨t3.toArray⟩, .string ⟨t4.toArray⟩] 9)))
              | (go_at_call 46; refine (J6.out _).mono ?_; rintro e w96 ⟨rfl, hb96⟩; have T6 := Lib.hid (bt U5.out hb96); have S6 := Lib.hid (hm0.out _ T6.out); clear hb96; have U6 := Lib.hid (T6.out.alloc T6.out.size (.cells #[.string ⟨(Cr.encRec ⟨x0, xk, xv, xg⟩).toArray⟩] 9)); have HO6 := Lib.hid (ownsRow_below HO8.out T6.out))
              | (refine step_append_lies _ (by rfl) _ _ _ (by rfl) w4.heap.size 9 i0 _ 1 16 Tryz.underlying93 hi hz0 hz1 hz2 rfl Nat.one_pos v (5 + k) (sv (parts b k)) (by rfl) (World.ownsRow.alloc HO6.out _) ⟨w96.heap.size, 0, none⟩ 1 1 [.string ⟨(Cr.encRec ⟨x0, xk, xv, xg⟩).toArray⟩] (by rfl) (by rfl) (cell_one_new _ _ _) hone Nat.one_pos h63 hby (Nat.le_trans hs8 U6.out.size) (w96.heap.size + 1) (World.size_alloc _ _) ?_; intro g11 cap11 w11 hown11 hg11 hat11 hlt11; have S7 := Lib.hid (And.intro (hg11.cell (hm0.out _ U6.out).1 hne) (And.intro (hg11.cell (hm0.out _ U6.out).2.1 hne) (And.intro (hg11.cell (hm0.out _ U6.out).2.2.1 hne) (hg11.cell (hm0.out _ U6.out).2.2.2 hne))))))
            have H11 : Hid (w11.ownsRow w4.heap.size 9 1 (.slice (some ⟨g11, 0, none⟩) (5 + k + 1) cap11) (5 + (k + 1)) (sv (parts b (k + 1)))) := by
              rw [Hid, HS.out]
              simpa [sv, Nat.add_assoc] using hown11
            have BC : Hid (Below w4.heap.size w4 (w96.alloc (.cells #[.string ⟨(Cr.encRec ⟨x0, xk, xv, xg⟩).toArray⟩] 9))) := bt HB.out (bt BA.out U6.out)
            have B11 : Hid (Below w4.heap.size w4 w11) := BC.out.grown hg11 BC.out.size (fun kk hkk => (HO6.out.lt kk hkk).1)
            clear hown11 hg11
            go_wp2
            go_roundw
            case rel => exact ⟨k + 1, _, by go_num, rfl, by omega, H11.out, B11.out⟩
            case measure => simp [intOf]; omega
          · obtain rfl : k = b.recs.length := by omega
            have HSO := Lib.hid (strs_own HO.out)
            have HLN2 := HLN.out
            have HFL : Hid (108 :: ((parts b b.recs.length).flatten ++ [101]) = Cr.enc b) := by
              rw [Hid, parts_flat, Cr.enc]
              simp
            have hfl : (parts b b.recs.length).flatten.length ≤ 2000 := by
              have := congrArg List.length HFL.out
              simp only [List.length_cons, List.length_append, List.length_nil] at this
              omega
            have HLI := Lib.hid (beadList_any _ _ _ HSO.out (by simp [parts, five]; omega) (by omega))
            rw [HFL.out] at HLI
            clear HFL hfl HSO HLN2
            go_wp2_with fail
            refine HLI.out.mono ?_
            rintro e w10 ⟨rfl, hb10⟩
            have B10 := Lib.hid (bt BW.out hb10)
            clear hb10
            go_wp2
            go_ret2
            exact ⟨by rw [HE.out]; rfl, B10.out⟩

end Go.Proofs.YtbljbdjmgogknaaGreatDoor

/-
  The check of a text (CRC-32, bit by bit), in plain Lean: no program in sight.
  Conditions: none. What is used above: linearity, injectivity, four bytes at once.
-/
set_option linter.unusedVariables false
set_option linter.unusedSimpArgs false
namespace Go.Proofs.YtbljbdjmgogknaaGreatDoor.Crc

def poly : BitVec 32 := 0xedb88320#32
def stp (r : BitVec 32) : BitVec 32 := (r >>> 1) ^^^ (if r.getLsbD 0 then poly else 0#32)
def stps : Nat → BitVec 32 → BitVec 32
  | 0, r => r
  | k + 1, r => stp (stps k r)
def z (b : UInt8) : BitVec 32 := b.toBitVec.setWidth 32
def upd (r : BitVec 32) (b : UInt8) : BitVec 32 := stps 8 (r ^^^ z b)
def fold (r : BitVec 32) (l : List UInt8) : BitVec 32 := l.foldl upd r
def ones : BitVec 32 := 0xffffffff#32
def sum (l : List UInt8) : BitVec 32 := fold ones l ^^^ ones
/-- The four bytes of a number, the lowest first. -/
def four (n : BitVec 32) : List UInt8 := [⟨n.setWidth 8⟩, ⟨(n >>> 8).setWidth 8⟩, ⟨(n >>> 16).setWidth 8⟩, ⟨(n >>> 24).setWidth 8⟩]
/-- The number of the first four bytes. -/
def num (l : List UInt8) : BitVec 32 := z (l.getD 0 0) ^^^ z (l.getD 1 0) <<< 8 ^^^ z (l.getD 2 0) <<< 16 ^^^ z (l.getD 3 0) <<< 24

theorem stp_xor (a b : BitVec 32) : stp (a ^^^ b) = stp a ^^^ stp b := by
  unfold stp
  rw [BitVec.getLsbD_xor, BitVec.ushiftRight_xor_distrib]
  cases a.getLsbD 0 <;> cases b.getLsbD 0 <;> simp [BitVec.xor_assoc]
  · rw [BitVec.xor_comm]
  · rw [BitVec.xor_comm (b >>> 1) poly, ← BitVec.xor_assoc poly poly]; simp
theorem stps_xor (k : Nat) (a b : BitVec 32) : stps k (a ^^^ b) = stps k a ^^^ stps k b := by
  induction k with
  | zero => rfl
  | succ k ih => simp only [stps, ih, stp_xor]
theorem stps_add (j k : Nat) (r : BitVec 32) : stps (j + k) r = stps j (stps k r) := by
  induction j with
  | zero => simp [stps]
  | succ j ih => rw [Nat.succ_add]; simp only [stps, ih]
theorem stps_low (k : Nat) : ∀ r : BitVec 32, (∀ i, i < k → r.getLsbD i = false) → stps k r = r >>> k := by
  induction k with
  | zero => intro r _; simp [stps]
  | succ k ih =>
    intro r h
    simp only [stps]
    rw [ih r (fun i hi => h i (by omega))]
    unfold stp
    have : (r >>> k).getLsbD 0 = false := by simp only [BitVec.getLsbD_ushiftRight]; exact h _ (by omega)
    rw [this]
    simp [← BitVec.shiftRight_add]
theorem z_high (b : UInt8) (i : Nat) (h : 8 ≤ i) : (z b).getLsbD i = false := by
  unfold z
  rw [BitVec.getLsbD_setWidth]
  simp
  intro _
  exact BitVec.getLsbD_of_ge _ _ h
theorem stps_z (b : UInt8) (n : Nat) (hn : n ≤ 16) : stps 8 (z b <<< (8 + n)) = z b <<< n := by
  rw [stps_low]
  · apply BitVec.eq_of_getLsbD_eq
    intro i hi
    rw [BitVec.getLsbD_ushiftRight, BitVec.getLsbD_shiftLeft, BitVec.getLsbD_shiftLeft]
    have e2 : 8 + i - (8 + n) = i - n := by omega
    by_cases h1 : i < n
    · simp [h1]
    · by_cases h2 : 8 + i < 32
      · simp [h1, h2, hi, e2]
      · have e3 : (z b).getLsbD (i - n) = false := z_high b _ (by omega)
        simp [e2, e3]
  · intro i hi
    rw [BitVec.getLsbD_shiftLeft]
    have : i < 8 + n := by omega
    simp [this]
theorem stps_z0 (b : UInt8) : stps 8 (z b <<< 8) = z b := by
  have := stps_z b 0 (by omega)
  simpa using this
/-- Four bytes at once. -/
theorem fold_four (r : BitVec 32) (a b c d : UInt8) : fold r [a, b, c, d] = stps 32 (r ^^^ num [a, b, c, d]) := by
  have e : ∀ x, stps 32 x = stps 8 (stps 8 (stps 8 (stps 8 x))) := fun x => by
    have e1 := stps_add 8 24 x
    have e2 := stps_add 8 16 x
    have e3 := stps_add 8 8 x
    rw [show stps 32 x = stps (8 + 24) x from rfl, e1, show stps 24 x = stps (8 + 16) x from rfl, e2, show stps 16 x = stps (8 + 8) x from rfl, e3]
  have h8 := stps_z0
  have h16 : ∀ y, stps 8 (z y <<< 16) = z y <<< 8 := fun y => stps_z y 8 (by omega)
  have h24 : ∀ y, stps 8 (z y <<< 24) = z y <<< 16 := fun y => stps_z y 16 (by omega)
  simp only [fold, List.foldl, upd, e, num, List.getD_cons_zero, List.getD_cons_succ, stps_xor, h8, h16, h24, BitVec.xor_assoc]
theorem stp_inj {a b : BitVec 32} (h : stp a = stp b) : a = b := by
  have hp : poly.getLsbD 31 = true := by decide
  have top : ∀ x : BitVec 32, (stp x).getLsbD 31 = x.getLsbD 0 := by
    intro x
    unfold stp
    rw [BitVec.getLsbD_xor, BitVec.getLsbD_ushiftRight]
    cases hx : x.getLsbD 0 <;> simp [hp]
  have h0 : a.getLsbD 0 = b.getLsbD 0 := by rw [← top a, ← top b, h]
  have h1 : a >>> 1 = b >>> 1 := by
    unfold stp at h
    rw [h0] at h
    have := congrArg (· ^^^ (if b.getLsbD 0 = true then poly else 0#32)) h
    simpa [BitVec.xor_assoc] using this
  apply BitVec.eq_of_getLsbD_eq
  intro i hi
  cases i with
  | zero => exact h0
  | succ i =>
    have := congrArg (·.getLsbD i) h1
    simp only [BitVec.getLsbD_ushiftRight] at this
    rwa [Nat.add_comm 1 i] at this
theorem stps_inj {k : Nat} {a b : BitVec 32} (h : stps k a = stps k b) : a = b := by
  induction k with
  | zero => exact h
  | succ k ih => exact ih (stp_inj h)
theorem upd_inj {a b : BitVec 32} {c : UInt8} (h : upd a c = upd b c) : a = b := by
  have := stps_inj h
  have := congrArg (· ^^^ z c) this
  simpa [BitVec.xor_assoc] using this
theorem fold_inj {l : List UInt8} : ∀ {a b : BitVec 32}, fold a l = fold b l → a = b := by
  induction l with
  | nil => intro a b h; exact h
  | cons c l ih => intro a b h; exact upd_inj (ih h)
theorem fold_append (r : BitVec 32) (a b : List UInt8) : fold r (a ++ b) = fold (fold r a) b := List.foldl_append ..
theorem xor_cancel {a b c : BitVec 32} (h : c ^^^ a = c ^^^ b) : a = b := by
  have := congrArg (c ^^^ ·) h
  simpa [← BitVec.xor_assoc] using this
theorem num_getLsbD (a b c d : UInt8) (i : Nat) : (num [a, b, c, d]).getLsbD i =
    (if i < 8 then a.toBitVec.getLsbD i else if i < 16 then b.toBitVec.getLsbD (i - 8) else if i < 24 then c.toBitVec.getLsbD (i - 16) else if i < 32 then d.toBitVec.getLsbD (i - 24) else false) := by
  have hz : ∀ (x : UInt8) (j : Nat), (z x).getLsbD j = (decide (j < 8) && x.toBitVec.getLsbD j) := by
    intro x j
    by_cases h : j < 8
    · unfold z; rw [BitVec.getLsbD_setWidth]; simp [h]; omega
    · simp [h, z_high x j (by omega)]
  simp only [num, List.getD_cons_zero, List.getD_cons_succ, BitVec.getLsbD_xor, BitVec.getLsbD_shiftLeft, hz]
  by_cases h1 : i < 8
  · simp [h1, show i < 16 by omega, show i < 24 by omega]
  · by_cases h2 : i < 16
    · simp [h1, h2, show i < 24 by omega, show i < 32 by omega, show i - 8 < 8 by omega]
    · by_cases h3 : i < 24
      · simp [h1, h2, h3, show i < 32 by omega, show i - 16 < 8 by omega, show ¬ i - 8 < 8 by omega]
      · by_cases h4 : i < 32
        · simp [h1, h2, h3, h4, show i - 24 < 8 by omega, show ¬ i - 8 < 8 by omega, show ¬ i - 16 < 8 by omega]
        · simp [h1, h2, h3, h4]
theorem num_inj {a b c d a' b' c' d' : UInt8} (h : num [a, b, c, d] = num [a', b', c', d']) : [a, b, c, d] = [a', b', c', d'] := by
  have g : ∀ i, (num [a, b, c, d]).getLsbD i = (num [a', b', c', d']).getLsbD i := fun i => by rw [h]
  simp only [num_getLsbD] at g
  have e : ∀ {x y : UInt8}, (∀ j, j < 8 → x.toBitVec.getLsbD j = y.toBitVec.getLsbD j) → x = y := by
    intro x y hxy
    exact UInt8.eq_of_toBitVec_eq (BitVec.eq_of_getLsbD_eq (fun i hi => hxy i hi))
  have ha : a = a' := e fun j hj => by have := g j; simpa [hj] using this
  have hb : b = b' := e fun j hj => by
    have := g (j + 8); simpa [show ¬ j + 8 < 8 by omega, show j + 8 < 16 by omega] using this
  have hc : c = c' := e fun j hj => by
    have := g (j + 16); simpa [show ¬ j + 16 < 8 by omega, show ¬ j + 16 < 16 by omega, show j + 16 < 24 by omega] using this
  have hd : d = d' := e fun j hj => by
    have := g (j + 24); simpa [show ¬ j + 24 < 8 by omega, show ¬ j + 24 < 16 by omega, show ¬ j + 24 < 24 by omega, show j + 24 < 32 by omega] using this
  rw [ha, hb, hc, hd]
/-- A change of four bytes that stand together is told by the check. -/
theorem sum_tells (x y : List UInt8) {a b c d a' b' c' d' : UInt8} (h : sum (x ++ [a, b, c, d] ++ y) = sum (x ++ [a', b', c', d'] ++ y)) : [a, b, c, d] = [a', b', c', d'] := by
  unfold sum at h
  have h1 : fold ones (x ++ [a, b, c, d] ++ y) = fold ones (x ++ [a', b', c', d'] ++ y) := by
    have := congrArg (· ^^^ ones) h
    simpa [BitVec.xor_assoc] using this
  rw [fold_append, fold_append, fold_append, fold_append] at h1
  have h2 := fold_inj h1
  rw [fold_four, fold_four] at h2
  exact num_inj (xor_cancel (stps_inj h2))
theorem num_four (n : BitVec 32) : num (four n) = n := by
  apply BitVec.eq_of_getLsbD_eq
  intro i hi
  unfold four
  rw [num_getLsbD]
  simp only [BitVec.getLsbD_setWidth, BitVec.getLsbD_ushiftRight]
  by_cases h1 : i < 8
  · simp [h1]
  · by_cases h2 : i < 16
    · simp [h1, h2, show 8 + (i - 8) = i by omega]; omega
    · by_cases h3 : i < 24
      · simp [h1, h2, h3, show 16 + (i - 16) = i by omega]; omega
      · simp [h1, h2, h3, hi, show 24 + (i - 24) = i by omega]; omega
/-- A text, and behind it its check, have together one and the same check. -/
theorem sum_rest (l : List UInt8) : sum (l ++ four (sum l)) = 0x2144df1c#32 := by
  have h : fold ones (l ++ four (sum l)) = stps 32 (fold ones l ^^^ sum l) := by
    rw [fold_append]
    have := fold_four (fold ones l) ⟨(sum l).setWidth 8⟩ ⟨((sum l) >>> 8).setWidth 8⟩ ⟨((sum l) >>> 16).setWidth 8⟩ ⟨((sum l) >>> 24).setWidth 8⟩
    have e : num (four (sum l)) = sum l := num_four _
    unfold four at e
    rw [e] at this
    exact this
  have h2 : fold ones l ^^^ sum l = ones := by
    unfold sum
    rw [← BitVec.xor_assoc]; simp
  rw [sum, h, h2]
  decide +kernel
theorem four_length (n : BitVec 32) : (four n).length = 4 := rfl

end Go.Proofs.YtbljbdjmgogknaaGreatDoor.Crc
/-
  From the walk's numbers to the check's bit rows (unsigned 32-bit arithmetic as the model writes it).
  Conditions: none.
-/
set_option linter.unusedVariables false
set_option linter.unusedSimpArgs false
namespace Go.Proofs.YtbljbdjmgogknaaGreatDoor
open Go.RowKit Crc

theorem bits_xor_bv (a b : BitVec 32) : bits .xor .u32 (a.toNat : Int) (b.toNat : Int) = ((a ^^^ b).toNat : Int) := by
  rw [u32_xor_nat _ _ a.isLt b.isLt, BitVec.toNat_xor]
theorem bits_and_bv (a b : BitVec 32) : bits .and .u32 (a.toNat : Int) (b.toNat : Int) = ((a &&& b).toNat : Int) := by
  rw [u32_and_nat _ _ a.isLt b.isLt, BitVec.toNat_and]
theorem z_toNat (b : UInt8) : (z b).toNat = b.toNat := by
  unfold z
  rw [BitVec.toNat_setWidth]
  have := b.toNat_lt
  show b.toNat % 2 ^ 32 = b.toNat
  omega
theorem half_bv (r : BitVec 32) : ((r.toNat : Int) / (2 : Int)) = ((r >>> 1).toNat : Int) := by
  rw [BitVec.toNat_ushiftRight, Nat.shiftRight_eq_div_pow]; omega
theorem low_bv (r : BitVec 32) : r.getLsbD 0 = decide (r.toNat % 2 = 1) := by
  simp [BitVec.getLsbD, Nat.testBit_zero]
theorem step_num (r : BitVec 32) :
    bits .xor .u32 ((r.toNat : Int) / 2) (bits .and .u32 3988292384 (-bits .and .u32 (r.toNat : Int) 1 % 4294967296)) = ((stp r).toNat : Int) := by
  have h1 : bits .and .u32 (r.toNat : Int) 1 = ((r.toNat % 2 : Nat) : Int) := by
    have := u32_and_nat r.toNat 1 r.isLt (by omega)
    rw [nat_mask1] at this
    exact this
  have hx := low_bv r
  rw [h1, half_bv]
  unfold stp
  rw [hx]
  by_cases h : r.toNat % 2 = 1
  · have e1 : (-((r.toNat % 2 : Nat) : Int)) % 4294967296 = 4294967295 := by rw [h]; rfl
    have e2 : bits .and .u32 3988292384 4294967295 = ((poly).toNat : Int) := by decide +kernel
    rw [e1, e2, bits_xor_bv]
    simp [h]
  · have h0 : r.toNat % 2 = 0 := by omega
    have e1 : (-((r.toNat % 2 : Nat) : Int)) % 4294967296 = 0 := by rw [h0]; rfl
    have e2 : bits .and .u32 3988292384 0 = ((0#32).toNat : Int) := by decide +kernel
    rw [e1, e2, bits_xor_bv]
    simp [h]
theorem enter_num (r : BitVec 32) (b : UInt8) : bits .xor .u32 (r.toNat : Int) ((b.toNat : Int) % 4294967296) = ((r ^^^ z b).toNat : Int) := by
  have e : ((b.toNat : Int) % 4294967296) = ((z b).toNat : Int) := by rw [z_toNat]; have := b.toNat_lt; omega
  rw [e, bits_xor_bv]
theorem not_num (r : BitVec 32) : bits .xor .u32 IntKind.u32.max (r.toNat : Int) = ((r ^^^ ones).toNat : Int) := by
  have e : IntKind.u32.max = ((ones).toNat : Int) := by decide +kernel
  rw [e, bits_xor_bv, BitVec.xor_comm]
theorem not_num' (r : BitVec 32) : bits .xor .u32 (r.toNat : Int) 4294967295 = ((r ^^^ ones).toNat : Int) := by
  have e : (4294967295 : Int) = ((ones).toNat : Int) := by decide +kernel
  rw [e, bits_xor_bv]
/-- The number of four bytes, as a sum. -/
theorem num_toNat (a b c d : UInt8) : (num [a, b, c, d]).toNat = a.toNat + b.toNat * 256 + c.toNat * 65536 + d.toNat * 16777216 := by
  have ha := a.toNat_lt; have hb := b.toNat_lt; have hc := c.toNat_lt; have hd := d.toNat_lt
  have e : a.toNat + b.toNat * 256 + c.toNat * 65536 + d.toNat * 16777216 = 2 ^ 8 * (2 ^ 8 * (2 ^ 8 * d.toNat + c.toNat) + b.toNat) + a.toNat := by omega
  rw [e]
  apply Nat.eq_of_testBit_eq
  intro i
  have h := num_getLsbD a b c d i
  rw [BitVec.getLsbD] at h
  rw [h, Nat.testBit_two_pow_mul_add _ ha, Nat.testBit_two_pow_mul_add _ hb, Nat.testBit_two_pow_mul_add _ hc]
  have g : ∀ (x : UInt8) (j : Nat), x.toBitVec.getLsbD j = x.toNat.testBit j := fun _ _ => rfl
  simp only [g]
  by_cases h1 : i < 8
  · simp [h1]
  · by_cases h2 : i < 16
    · simp [h1, h2, show i - 8 < 8 by omega]
    · by_cases h3 : i < 24
      · have e3 : i - 8 - 8 = i - 16 := by omega
        have e4 : ¬ 8 ≤ i - 16 := by omega
        simp [h1, h2, h3, show ¬ i - 8 < 8 by omega, e3, e4]
      · have e3 : i - 8 - 8 - 8 = i - 24 := by omega
        by_cases h4 : i < 32
        · simp [h1, h2, h3, h4, show ¬ i - 8 < 8 by omega, show ¬ i - 8 - 8 < 8 by omega, e3]
        · have : d.toNat.testBit (i - 24) = false := Nat.testBit_lt_two_pow (Nat.lt_of_lt_of_le hd (Nat.pow_le_pow_right (by omega) (show 8 ≤ i - 24 by omega)))
          simp [h1, h2, h3, h4, show ¬ i - 8 < 8 by omega, show ¬ i - 8 - 8 < 8 by omega, e3, this]
theorem or_num (a b c d : UInt8) :
    bits .or .u32 (bits .or .u32 (bits .or .u32 (bits .or .u32 0 ((a.toNat : Int) % 4294967296)) ((b.toNat : Int) % 4294967296 * 256 % 4294967296)) ((c.toNat : Int) % 4294967296 * 65536 % 4294967296)) ((d.toNat : Int) % 4294967296 * 16777216 % 4294967296) = ((num [a, b, c, d]).toNat : Int) := by
  have ha := a.toNat_lt; have hb := b.toNat_lt; have hc := c.toNat_lt; have hd := d.toNat_lt
  have e1 : ((a.toNat : Int) % 4294967296) = ((a.toNat : Nat) : Int) := by omega
  have e2 : ((b.toNat : Int) % 4294967296 * 256 % 4294967296) = ((b.toNat * 256 : Nat) : Int) := by omega
  have e3 : ((c.toNat : Int) % 4294967296 * 65536 % 4294967296) = ((c.toNat * 65536 : Nat) : Int) := by omega
  have e4 : ((d.toNat : Int) % 4294967296 * 16777216 % 4294967296) = ((d.toNat * 16777216 : Nat) : Int) := by omega
  have e0 : (0 : Int) = ((0 : Nat) : Int) := rfl
  rw [e1, e2, e3, e4, e0, u32_or_nat 0 _ (by omega) (by omega), Nat.zero_or, u32_or_nat _ _ (by omega) (by omega), Nat.or_comm a.toNat,
    nat_join 8 _ _ (by omega) (by omega), u32_or_nat _ _ (by omega) (by omega), Nat.or_comm _ (c.toNat * 65536), nat_join 16 _ _ (by omega) (by omega),
    u32_or_nat _ _ (by omega) (by omega), Nat.or_comm _ (d.toNat * 16777216), nat_join 24 _ _ (by omega) (by omega), num_toNat]
  omega
theorem add_num (a b c d : UInt8) :
    ((((a.toNat : Int) % 4294967296 + (b.toNat : Int) % 4294967296 * 256 % 4294967296) % 4294967296 + (c.toNat : Int) % 4294967296 * 65536 % 4294967296) % 4294967296 + (d.toNat : Int) % 4294967296 * 16777216 % 4294967296) % 4294967296 = ((num [a, b, c, d]).toNat : Int) := by
  have ha := a.toNat_lt; have hb := b.toNat_lt; have hc := c.toNat_lt; have hd := d.toNat_lt
  rw [num_toNat]
  omega
theorem byte_num (n : BitVec 32) (k : Nat) : UInt8.ofNat (((n.toNat : Int) / ((2 ^ k : Nat) : Int) % 256).toNat) = (⟨(n >>> k).setWidth 8⟩ : UInt8) := by
  apply UInt8.eq_of_toBitVec_eq
  apply BitVec.eq_of_toNat_eq
  have e : ((n.toNat : Int) / ((2 ^ k : Nat) : Int) % 256).toNat = n.toNat / 2 ^ k % 256 := by
    rw [← Int.natCast_ediv]; omega
  rw [e]
  simp [BitVec.toNat_setWidth, BitVec.toNat_ushiftRight, Nat.shiftRight_eq_div_pow]

/-- The reference's register behind j bits of a byte. -/
def part (r : BitVec 32) (b : UInt8) (j : Nat) : BitVec 32 := stps j (r ^^^ z b) ^^^ (z b >>> j)
theorem part_zero (r : BitVec 32) (b : UInt8) : part r b 0 = r := by simp [part, stps, BitVec.xor_assoc]
theorem part_eight (r : BitVec 32) (b : UInt8) : part r b 8 = upd r b := by
  have : z b >>> 8 = 0#32 := by
    apply BitVec.eq_of_getLsbD_eq
    intro i hi
    rw [BitVec.getLsbD_ushiftRight, z_high b _ (by omega)]
    simp
  rw [part, this]
  simp [upd]
theorem part_succ (r : BitVec 32) (b : UInt8) (j : Nat) : part r b (j + 1) = (part r b j >>> 1) ^^^ (if (z b >>> j).getLsbD 0 = (part r b j).getLsbD 0 then 0#32 else poly) := by
  have e1 : part r b j >>> 1 = (stps j (r ^^^ z b) >>> 1) ^^^ (z b >>> (j + 1)) := by
    rw [part, BitVec.ushiftRight_xor_distrib, ← BitVec.shiftRight_add]
  have e2 : (part r b j).getLsbD 0 = ((stps j (r ^^^ z b)).getLsbD 0 ^^ (z b >>> j).getLsbD 0) := by rw [part, BitVec.getLsbD_xor]
  rw [e1, e2]
  show stp (stps j (r ^^^ z b)) ^^^ (z b >>> (j + 1)) = _
  unfold stp
  rw [BitVec.xor_assoc, BitVec.xor_assoc, BitVec.xor_comm (z b >>> (j + 1))]
  congr 2
  cases (stps j (r ^^^ z b)).getLsbD 0 <;> cases (z b >>> j).getLsbD 0 <;> rfl
theorem bit_num (b : UInt8) (j : Nat) : bits .and .u32 ((b.toNat : Int) / 2 ^ j % 4294967296) 1 = (((z b >>> j).toNat % 2 : Nat) : Int) := by
  have hb := b.toNat_lt
  have e : ((b.toNat : Int) / 2 ^ j % 4294967296) = ((b.toNat / 2 ^ j : Nat) : Int) := by
    have h2 : b.toNat / 2 ^ j ≤ b.toNat := Nat.div_le_self _ _
    have h3 : (b.toNat : Int) / 2 ^ j = ((b.toNat / 2 ^ j : Nat) : Int) := by rw [Int.natCast_ediv, Int.natCast_pow]; rfl
    rw [h3]
    generalize b.toNat / 2 ^ j = q at h2
    omega
  have h2 : b.toNat / 2 ^ j ≤ b.toNat := Nat.div_le_self _ _
  have := u32_and_nat (b.toNat / 2 ^ j) 1 (by omega) (by omega)
  rw [nat_mask1] at this
  rw [e, BitVec.toNat_ushiftRight, z_toNat, Nat.shiftRight_eq_div_pow]
  exact this
theorem low_num (r : BitVec 32) : bits .and .u32 (r.toNat : Int) 1 = ((r.toNat % 2 : Nat) : Int) := by
  have := u32_and_nat r.toNat 1 r.isLt (by omega)
  rw [nat_mask1] at this
  exact this
theorem part_yes (r : BitVec 32) (b : UInt8) (j : Nat) (h : (bits .and .u32 ((b.toNat : Int) / 2 ^ j % 4294967296) 1 != bits .and .u32 ((part r b j).toNat : Int) 1) = true) :
    bits .xor .u32 (((part r b j).toNat : Int) / 2) 3988292384 = ((part r b (j + 1)).toNat : Int) := by
  rw [bit_num, low_num] at h
  have hp : (3988292384 : Int) = ((poly).toNat : Int) := by decide +kernel
  rw [half_bv, hp, bits_xor_bv, part_succ, low_bv, low_bv]
  have h' : ¬ ((z b >>> j).toNat % 2 = (part r b j).toNat % 2) := by
    intro e; rw [e] at h; simp at h
  have h1 := Nat.mod_two_eq_zero_or_one (z b >>> j).toNat
  have h2 := Nat.mod_two_eq_zero_or_one (part r b j).toNat
  rw [if_neg]
  simp only [decide_eq_decide]
  omega
theorem part_no (r : BitVec 32) (b : UInt8) (j : Nat) (h : (bits .and .u32 ((b.toNat : Int) / 2 ^ j % 4294967296) 1 != bits .and .u32 ((part r b j).toNat : Int) 1) = false) :
    (((part r b j).toNat : Int) / 2) = ((part r b (j + 1)).toNat : Int) := by
  rw [bit_num, low_num] at h
  rw [half_bv, part_succ, low_bv, low_bv]
  have h' : (z b >>> j).toNat % 2 = (part r b j).toNat % 2 := by
    simp only [bne_eq_false_iff_eq] at h
    exact_mod_cast h
  rw [if_pos (by rw [h'])]
  simp
theorem getD_four (l : List UInt8) : num l = num [l.getD 0 0, l.getD 1 0, l.getD 2 0, l.getD 3 0] := rfl
theorem str_four (n : BitVec 32) : strOfNums [(n.toNat : Int) % 256, (n.toNat : Int) / 256 % 256, (n.toNat : Int) / 65536 % 256, (n.toNat : Int) / 16777216] = ⟨(four n).toArray⟩ := by
  have e0 := byte_num n 0
  have e1 := byte_num n 8
  have e2 := byte_num n 16
  have e3 := byte_num n 24
  have h3 : (n.toNat : Int) / 16777216 = (n.toNat : Int) / 16777216 % 256 := by have := n.isLt; omega
  rw [h3]
  unfold strOfNums four
  simp only [List.map_cons, List.map_nil]
  simp at e0
  rw [← e1, ← e2, ← e3, ← e0]
  rfl

end Go.Proofs.YtbljbdjmgogknaaGreatDoor
/-
  The walks of the frame package's small functions: each returns what the plain check says, and leaves old memory as it was.
  Conditions: texts of at most the model's longest length; four bytes for a number.
-/
set_option linter.unusedVariables false
set_option linter.unusedSimpArgs false
namespace Go.Proofs.YtbljbdjmgogknaaGreatDoor
open Go.RowKit

theorem fold_take (r : BitVec 32) (l : List UInt8) (k : Nat) (h : k < l.length) : Crc.fold r (l.take (k + 1)) = Crc.upd (Crc.fold r (l.take k)) (l.getD k 0) := by
  rw [List.take_succ_eq_append_getElem h, Crc.fold_append]
  simp [Crc.fold, List.getD, h]

set_option maxHeartbeats 400000 in
theorem sum_any (l : List UInt8) (w : World) (hs : l.length ≤ maxLen) :
    Calls Tryz.prog 78 #[.string ⟨l.toArray⟩] w fun e w' => e = .returned (.int .u32 (Crc.sum l).toNat) ∧ Below w.heap.size w w' := by
  unfold maxLen at hs
  have hconv := Lib.run_convert_string_bytes (P := Tryz.prog) w 9 146 5 ⟨l.toArray⟩ Tryz.underlying9 Tryz.underlying146 Tryz.underlying5
  have hcell := Lib.bytesWorld_cell w 5 ⟨l.toArray⟩
  have hb := Lib.hid (below_bytesWorld w 5 ⟨l.toArray⟩)
  generalize hW1 : Lib.bytesWorld w 5 ⟨l.toArray⟩ = W1 at hconv hcell hb
  clear hW1
  have HC : ∀ k, k < l.length → W1.cell? ⟨w.heap.size, k, none⟩ = some (.int .u8 (l.getD k 0).toNat) := fun k hk => hcell k hk
  have HD := Lib.hid HC
  clear hcell HC
  go_enter Tryz.func78, Tryz.ntmps78
  go_wp2
  clear hconv
  go_loop [3, 9] (fun r i => ∃ k : Nat, k ≤ l.length ∧ i = .int .i64 k ∧ r = .int .u32 (Crc.fold Crc.ones (l.take k)).toNat) (fun _ i => l.length - (intOf i).toNat)
  case atStart => exact ⟨0, by omega, rfl, rfl⟩
  case round =>
    obtain ⟨k, hk, rfl, rfl⟩ := hrel
    by_cases hlt : k < l.length
    · have hck := HD.out k hlt
      have HF := Lib.hid (fold_take Crc.ones l k hlt)
      generalize l.getD k 0 = b at hck HF
      generalize Crc.fold Crc.ones (l.take k) = r0 at HF
      go_wp2
      go_loop [3, 17] (fun r i => ∃ j : Nat, j ≤ 8 ∧ i = .int .i64 j ∧ r = .int .u32 (Crc.stps j (r0 ^^^ Crc.z b)).toNat) (fun _ i => 8 - (intOf i).toNat)
      case atStart => exact ⟨0, by omega, rfl, by rw [enter_num]; rfl⟩
      case round =>
        obtain ⟨j, hj, rfl, rfl⟩ := hrel
        by_cases hj8 : j < 8
        · go_wp2
          go_round
          case rel => exact ⟨j + 1, by omega, by go_num, by rw [step_num]; rfl⟩
          case measure => simp [intOf]; omega
        · obtain rfl : j = 8 := by omega
          go_wp2
          go_round
          case rel => exact ⟨k + 1, by omega, by go_num, by rw [HF.out]; rfl⟩
          case measure => simp [intOf]; omega
    · obtain rfl : k = l.length := by omega
      go_wp2
      go_ret
      exact ⟨ret_int (by rw [not_num]; rfl), hb.out⟩

set_option maxHeartbeats 400000 in
theorem number_any (l : List UInt8) (w : World) (h4 : 4 ≤ l.length) (hs : l.length ≤ maxLen) :
    Calls Tryz.prog 90 #[.string ⟨l.toArray⟩] w fun e w' => e = .returned (.int .u32 (Crc.num l).toNat) ∧ w = w' := by
  unfold maxLen at hs
  have HG := Lib.hid (or_num (l.getD 0 0) (l.getD 1 0) (l.getD 2 0) (l.getD 3 0))
  go_enter Tryz.func90, Tryz.ntmps90
  go_wp2
  go_rounds 5 <;> go_wp2
  go_ret
  refine ⟨ret_int ?_, rfl⟩
  rw [bs_getD, bs_getD, bs_getD, bs_getD, HG.out, ← getD_four]

set_option maxHeartbeats 400000 in
theorem four_any (n : BitVec 32) (w : World) :
    Calls Tryz.prog 77 #[.int .u32 n.toNat] w fun e w' => e = .returned (.string ⟨(Crc.four n).toArray⟩) ∧ Below w.heap.size w w' := by
  have hconv := fun (a b c d : Int) => run_convert_bytes_arg (P := Tryz.prog) (w.alloc (.cells #[.int .u8 a, .int .u8 b, .int .u8 c, .int .u8 d] 145)) 146 5 Tryz.underlying146 Tryz.underlying5 w.heap.size 0 4 4 [a, b, c, d] rfl
    (fun i hi => by match i, hi with | 0, _ => simp [go_sem] | 1, _ => simp [go_sem] | 2, _ => simp [go_sem] | 3, _ => simp [go_sem]) 9 Tryz.underlying9
  go_enter Tryz.func77, Tryz.ntmps77
  go_wp2
  refine wp_loop_rounds 5 ?_
  rw [rounds_succ]; go_wp2
  rw [rounds_succ]; go_wp2
  rw [rounds_succ]; go_wp2
  rw [rounds_succ]; go_wp2
  rw [rounds_succ]; go_wp2
  go_ret
  exact ⟨ret_str (str_four n), by go_grown⟩

end Go.Proofs.YtbljbdjmgogknaaGreatDoor
/-
  Frames in plain Lean: what Put, Next and Scan answer, as functions of lists of bytes. No program in sight.
-/
set_option linter.unusedVariables false
set_option linter.unusedSimpArgs false
namespace Go.Proofs.YtbljbdjmgogknaaGreatDoor.Frm
open Crc

/-- A text's frame. -/
def put (l : List UInt8) : List UInt8 := four (BitVec.ofNat 32 l.length) ++ (four (sum l) ++ l)
/-- The frame that begins at a place: its text, the place behind it, the error. -/
def next (l : List UInt8) (k : Int) : List UInt8 × Int × Int :=
  if k < 0 ∨ (l.length : Int) < k then ([], 0, 1) else
  let r := l.drop k.toNat
  if r.length < 8 then ([], 0, 5) else
  let n := (num r).toNat
  if 16384 < n then ([], 0, 4) else
  if r.length - 8 < n then ([], 0, 5) else
  let b := (r.take (8 + n)).drop 8
  if sum b ≠ num (r.drop 4) then ([], 0, 6) else (b, k + 8 + n, 0)

theorem next_arg {l : List UInt8} {k : Int} (h : k < 0 ∨ (l.length : Int) < k) : next l k = ([], 0, 1) := by unfold next; rw [if_pos h]
theorem next_short {l : List UInt8} {k : Nat} (h : k ≤ l.length) (h8 : l.length - k < 8) : next l k = ([], 0, 5) := by
  unfold next
  rw [if_neg (by omega)]
  simp only [Int.toNat_natCast]
  rw [if_pos (by simp; omega)]
theorem next_long {l : List UInt8} {k : Nat} (h : k ≤ l.length) (h8 : 8 ≤ l.length - k) (hn : 16384 < (num (l.drop k)).toNat) : next l k = ([], 0, 4) := by
  unfold next
  rw [if_neg (by omega)]
  simp only [Int.toNat_natCast]
  rw [if_neg (by simp; omega), if_pos hn]
theorem next_short2 {l : List UInt8} {k : Nat} (h : k ≤ l.length) (h8 : 8 ≤ l.length - k) (hn : (num (l.drop k)).toNat ≤ 16384) (hs : l.length - k - 8 < (num (l.drop k)).toNat) : next l k = ([], 0, 5) := by
  unfold next
  rw [if_neg (by omega)]
  simp only [Int.toNat_natCast]
  rw [if_neg (by simp; omega), if_neg (by omega), if_pos (by simp; omega)]
theorem next_sum {l : List UInt8} {k : Nat} (h : k ≤ l.length) (h8 : 8 ≤ l.length - k) (hn : (num (l.drop k)).toNat ≤ 16384) (hs : (num (l.drop k)).toNat ≤ l.length - k - 8)
    (hc : sum (((l.drop k).take (8 + (num (l.drop k)).toNat)).drop 8) ≠ num ((l.drop k).drop 4)) : next l k = ([], 0, 6) := by
  unfold next
  rw [if_neg (by omega)]
  simp only [Int.toNat_natCast]
  rw [if_neg (by simp; omega), if_neg (by omega), if_neg (by simp; omega), if_pos hc]
theorem next_ok {l : List UInt8} {k : Nat} (h : k ≤ l.length) (h8 : 8 ≤ l.length - k) (hn : (num (l.drop k)).toNat ≤ 16384) (hs : (num (l.drop k)).toNat ≤ l.length - k - 8)
    (hc : sum (((l.drop k).take (8 + (num (l.drop k)).toNat)).drop 8) = num ((l.drop k).drop 4)) :
    next l k = (((l.drop k).take (8 + (num (l.drop k)).toNat)).drop 8, (k : Int) + 8 + (num (l.drop k)).toNat, 0) := by
  unfold next
  rw [if_neg (by omega)]
  simp only [Int.toNat_natCast]
  rw [if_neg (by simp; omega), if_neg (by omega), if_neg (by simp; omega), if_neg (by simpa using hc)]

/-- What an answer without an error says. -/
theorem next_zero {l : List UInt8} {k : Nat} (h : (next l k).2.2 = 0) :
    k + 8 + (num (l.drop k)).toNat ≤ l.length ∧ (num (l.drop k)).toNat ≤ 16384 ∧ (next l k).1 = ((l.drop k).take (8 + (num (l.drop k)).toNat)).drop 8 ∧
      (next l k).2.1 = (k : Int) + 8 + (num (l.drop k)).toNat ∧ sum (next l k).1 = num ((l.drop k).drop 4) ∧ (next l k).1.length = (num (l.drop k)).toNat := by
  by_cases h0 : (k : Int) < 0 ∨ (l.length : Int) < k
  · rw [next_arg h0] at h; cases h
  · have hk : k ≤ l.length := by omega
    by_cases h8 : l.length - k < 8
    · rw [next_short hk h8] at h; cases h
    · by_cases h1 : 16384 < (num (l.drop k)).toNat
      · rw [next_long hk (by omega) h1] at h; cases h
      · by_cases h2 : l.length - k - 8 < (num (l.drop k)).toNat
        · rw [next_short2 hk (by omega) (by omega) h2] at h; cases h
        · by_cases h3 : sum (((l.drop k).take (8 + (num (l.drop k)).toNat)).drop 8) = num ((l.drop k).drop 4)
          · rw [next_ok hk (by omega) (by omega) (by omega) h3]
            refine ⟨by omega, by omega, rfl, rfl, h3, ?_⟩
            simp only [List.length_drop, List.length_take]
            omega
          · rw [next_sum hk (by omega) (by omega) (by omega) h3] at h; cases h
/-- The texts of all frames from a place on, as far as they are right, and where they end. -/
def scanFrom (l : List UInt8) (k : Nat) : List (List UInt8) × Nat :=
  if h : (next l k).2.2 = 0 ∧ k < (next l k).2.1.toNat ∧ (next l k).2.1.toNat ≤ l.length then
    ((next l k).1 :: (scanFrom l (next l k).2.1.toNat).1, (scanFrom l (next l k).2.1.toNat).2)
  else ([], k)
termination_by l.length - k
decreasing_by all_goals omega
def scan (l : List UInt8) : List (List UInt8) × Nat := scanFrom l 0
theorem scan_end {l : List UInt8} {k : Nat} (h : (next l k).2.2 ≠ 0) : scanFrom l k = ([], k) := by
  rw [scanFrom, dif_neg (fun g => h g.1)]
theorem scan_more {l : List UInt8} {k m : Nat} (h : (next l k).2.2 = 0) (hm : (next l k).2.1 = m) : scanFrom l k = ((next l k).1 :: (scanFrom l m).1, (scanFrom l m).2) := by
  obtain ⟨h1, _, _, h2, _⟩ := next_zero h
  have e : (next l k).2.1.toNat = m := by omega
  rw [scanFrom, dif_pos ⟨h, by omega, by omega⟩, e]

end Go.Proofs.YtbljbdjmgogknaaGreatDoor.Frm
