/-
  Wg3: texts of one proof, one behind the other.
  Conditions: none of its own.
-/
import Derived.Test.YtjfpbeccpcbpcaaGreatDoorZad
import Derived.Test.YtjfpbeccpcbpcaaGreatDoorZaf
import Derived.Test.YtjfpbeccpcbpcaaGreatDoorZag
import Derived.BigQuiet
set_option linter.unusedVariables false
set_option linter.unusedSimpArgs false
namespace Go.Proofs.YtjfpbeccpcbpcaaGreatDoor
open Go.RowKit
theorem ints2_cl {W : World} {g : Nat} {a b : Int} {t : TypeId} (C : Cl W g [.int .i64 a, .int .i64 b] t) : Ints W (.slice (some ⟨g, 0, none⟩) 2 2) [a, b] := by
 refine ⟨_, 2, rfl, fun i hi => ⟨g, 0, rfl, C.lt, ?_⟩⟩
 rw [Nat.zero_add, Cl.cell C i]
 rcases (show i = 0 ∨ i = 1 by simp at hi; omega) with rfl | rfl <;> rfl
theorem MsgOk.only {m : Wi.Msg} (h : MsgOk m) : MsgOk (Wi.only m) := by
 have hz : Bd.inR 0 := ⟨by decide, by decide⟩
 have hn := h.n
 simp only [List.mem_cons, List.not_mem_nil, or_false, forall_eq_or_imp, forall_eq] at hn
 obtain ⟨n0, n1, n2, n3, n4, n5, n6, n7, n8, n9, q0, q1, q2, q3, q4, q5, q6, q7, r0, r1, r2, r3, r4, r5⟩ := hn
 unfold Wi.only
 constructor <;> dsimp only
 ·simp only [List.mem_cons, List.not_mem_nil, or_false, forall_eq_or_imp, forall_eq]
  refine ⟨n0, n1, n2, ?_, ?_, ?_, ?_, ?_, ?_, ?_, ?_⟩
  ·split <;> assumption
  ·split <;> assumption
  ·split <;> assumption
  ·split <;> assumption
  ·split <;> assumption
  ·split <;> assumption
  ·split <;> assumption
  ·refine ⟨?_, ?_, ?_, ?_, ?_, ?_, ?_, ?_, ?_, ?_, ?_, ?_, ?_, ?_⟩ <;> (split <;> first | assumption | exact hz)
 ·split; exact h.c; exact ⟨by simp, by simp⟩
 ·split; exact h.l; exact ⟨by simp, by simp⟩
 ·split; exact h.b; exact ⟨hz, hz, hz, hz, hz, by simp [Wi.zBatch], by simp [Wi.zBatch]⟩
 ·split; exact h.t; exact ⟨by simp, by simp⟩
 ·split; exact h.q; exact ⟨by simp [Wi.zReq], by simp [Wi.zReq], by simp [Wi.zReq], by simp [Wi.zReq]⟩
 ·split; exact h.p; exact ⟨by simp [Wi.zResp], by simp [Wi.zResp]⟩
 ·split; exact h.a; exact ⟨by simp [Wi.zResp], by simp [Wi.zResp]⟩
theorem no_of {a b : Bool} (h : a = true → b = true) (hb : b = false) : a = false := by cases a <;> simp_all
theorem exec_load {P : Program} {o : Oper} {a : Act} {t : TypeId} {x : Operand} {p v : Value} {w : World} (ho : o.op = .load t x) (hx : a.eval x = p) (h : (Instr.loadAt t p).run P w = .ok v w) : (execOp a.eval o).run P w = .ok (.value v) w := by
 unfold execOp
 rw [ho]
 simp only [hx, Sem.run_bind, Sem.run_pure, h, Result.andThen_ok]
def gcnt (L : Array Bool) : Nat := (if L.getD 27 false then 1 else 0) + (if L.getD 28 false then 2 else 0) + (if L.getD 36 false then 1 else 0) + (if L.getD 37 false then 2 else 0)
structure gC (w1 : World) (e l o h : Int) (t : TypeId) (L : Array Bool) (W : World) : Prop where
 b : Below w1.heap.size w1 W
 s : L.getD 43 false = false → W.heap.size = w1.heap.size + gcnt L
 c1 : L.getD 27 false = true → Cl W w1.heap.size [.int .i64 e, .int .i64 l] t
 c2 : L.getD 36 false = true → Cl W (w1.heap.size + 3) [.int .i64 o, .int .i64 h] t
 z : L.size = 47
theorem set_same {L : Array Bool} {i : Nat} (h : i < L.size) : (L.setIfInBounds i true).getD i false = true := by simp [h]
theorem gC.set {w1 W : World} {e l o h : Int} {t : TypeId} {L : Array Bool} (c : gC w1 e l o h t L W) {i : Nat} (h1 : i ≠ 27) (h2 : i ≠ 28) (h3 : i ≠ 36) (h4 : i ≠ 37) (h5 : i ≠ 43) : gC w1 e l o h t (L.setIfInBounds i true) W := by
 refine ⟨c.b, ?_, ?_, ?_, by rw [Array.size_setIfInBounds]; exact c.z⟩
 ·unfold gcnt
  rw [getD_set_ne false h1, getD_set_ne false h2, getD_set_ne false h3, getD_set_ne false h4, getD_set_ne false h5]
  exact c.s
 ·rw [getD_set_ne false h1]; exact c.c1
 ·rw [getD_set_ne false h3]; exact c.c2
theorem gC.build1 {w1 W : World} {e l o h : Int} {t : TypeId} {L : Array Bool} (c : gC w1 e l o h t L W) (hs : W.heap.size = w1.heap.size) (h28 : L.getD 28 false = false) (h36 : L.getD 36 false = false) (h37 : L.getD 37 false = false) :
  gC w1 e l o h t (L.setIfInBounds 27 true) (W.alloc (.cells #[.int .i64 e, .int .i64 l] t)) := by
 refine ⟨c.b.alloc (by omega) _, fun _ => ?_, fun _ => ?_, fun h => ?_, by rw [Array.size_setIfInBounds]; exact c.z⟩
 ·unfold gcnt
  rw [getD_set_ne (i := 27) (j := 28) false (by decide), getD_set_ne (i := 27) (j := 36) false (by decide), getD_set_ne (i := 27) (j := 37) false (by decide), set_same (i := 27) (by rw [c.z]; decide), h28, h36, h37, World.size_alloc, hs]
  simp
 ·rw [← hs]; exact Cl.new W _ _
 ·rw [getD_set_ne false (by decide), h36] at h; cases h
theorem gC.build2 {w1 W : World} {e l o h : Int} {t : TypeId} {L : Array Bool} (c : gC w1 e l o h t L W) (hs : W.heap.size = w1.heap.size + 3) (h27 : L.getD 27 false = true) (h28 : L.getD 28 false = true) (h37 : L.getD 37 false = false) :
  gC w1 e l o h t (L.setIfInBounds 36 true) (W.alloc (.cells #[.int .i64 o, .int .i64 h] t)) := by
 refine ⟨c.b.alloc (by omega) _, fun _ => ?_, fun _ => Cl.alloc (c.c1 h27) _, fun h => ?_, by rw [Array.size_setIfInBounds]; exact c.z⟩
 ·unfold gcnt
  rw [getD_set_ne (i := 36) (j := 27) false (by decide), getD_set_ne (i := 36) (j := 28) false (by decide), getD_set_ne (i := 36) (j := 37) false (by decide), set_same (i := 36) (by rw [c.z]; decide), h27, h28, h37, World.size_alloc, hs]
  simp
 ·rw [← hs]; exact Cl.new W _ _
theorem gC.are1 {w1 W W' : World} {e l o h : Int} {t : TypeId} {L : Array Bool} (c : gC w1 e l o h t L W) (hb : Below W.heap.size W W') (hz : W'.heap.size = W.heap.size + 2) (h27 : L.getD 27 false = true) (h28 : L.getD 28 false = false) (h36 : L.getD 36 false = false) (h37 : L.getD 37 false = false) (h43 : L.getD 43 false = false) :
  gC w1 e l o h t (L.setIfInBounds 28 true) W' := by
 refine ⟨bt c.b hb, fun _ => ?_, fun _ => Cl.below (c.c1 h27) hb, fun h => ?_, by rw [Array.size_setIfInBounds]; exact c.z⟩
 ·have hs := c.s h43
  unfold gcnt at hs ⊢
  rw [h27, h28, h36, h37] at hs
  rw [getD_set_ne (i := 28) (j := 27) false (by decide), getD_set_ne (i := 28) (j := 36) false (by decide), getD_set_ne (i := 28) (j := 37) false (by decide), set_same (i := 28) (by rw [c.z]; decide), h27, h36, h37, hz, hs]
  simp
 ·rw [getD_set_ne false (by decide), h36] at h; cases h
theorem gC.are2 {w1 W W' : World} {e l o h : Int} {t : TypeId} {L : Array Bool} (c : gC w1 e l o h t L W) (hb : Below W.heap.size W W') (hz : W'.heap.size = W.heap.size + 2) (h27 : L.getD 27 false = true) (h28 : L.getD 28 false = true) (h36 : L.getD 36 false = true) (h37 : L.getD 37 false = false) (h43 : L.getD 43 false = false) :
  gC w1 e l o h t (L.setIfInBounds 37 true) W' := by
 refine ⟨bt c.b hb, fun _ => ?_, fun _ => Cl.below (c.c1 h27) hb, fun _ => Cl.below (c.c2 h36) hb, by rw [Array.size_setIfInBounds]; exact c.z⟩
 have hs := c.s h43
 unfold gcnt at hs ⊢
 rw [h27, h28, h36, h37] at hs
 rw [getD_set_ne (i := 37) (j := 27) false (by decide), getD_set_ne (i := 37) (j := 28) false (by decide), getD_set_ne (i := 37) (j := 36) false (by decide), set_same (i := 37) (by rw [c.z]; decide), h27, h28, h36, hz, hs]
 simp
theorem gC.only {w1 W W' : World} {e l o h : Int} {t : TypeId} {L : Array Bool} (c : gC w1 e l o h t L W) (hb : Below W.heap.size W W') : gC w1 e l o h t (L.setIfInBounds 43 true) W' := by
 refine ⟨bt c.b hb, fun h => ?_, fun h => ?_, fun h => ?_, by rw [Array.size_setIfInBounds]; exact c.z⟩
 ·rw [set_same (by rw [c.z]; decide)] at h; cases h
 ·rw [getD_set_ne false (by decide)] at h; exact Cl.below (c.c1 h) hb
 ·rw [getD_set_ne false (by decide)] at h; exact Cl.below (c.c2 h) hb
theorem gC.late {w1 W W' : World} {e l o h : Int} {t : TypeId} {L : Array Bool} (c : gC w1 e l o h t L W) (hb : Below W.heap.size W W') (h43 : L.getD 43 false = true) {i : Nat} (h1 : i ≠ 27) (h2 : i ≠ 36) (h3 : i ≠ 43) : gC w1 e l o h t (L.setIfInBounds i true) W' := by
 refine ⟨bt c.b hb, fun h => ?_, fun h => ?_, fun h => ?_, by rw [Array.size_setIfInBounds]; exact c.z⟩
 ·rw [getD_set_ne false h3, h43] at h; cases h
 ·rw [getD_set_ne false h1] at h; exact Cl.below (c.c1 h) hb
 ·rw [getD_set_ne false h2] at h; exact Cl.below (c.c2 h) hb
theorem gC.cell {w1 : World} {e l o h : Int} {t tm : TypeId} {pa : Nat} {cs : List Value} (CA : Cl w1 pa cs tm) (x : AnyOf (gC w1 e l o h t)) {k : Nat} {u : Value} (hu : cs[k]? = some u) : x.1.cell? ⟨pa, k, none⟩ = some u := by
 obtain ⟨W, L, hL⟩ := x
 exact ((Cl.below CA hL.b).cell k).trans hu
set_option maxRecDepth 20000 in
set_option maxHeartbeats 12800000 in
theorem good_k3 (m : Wi.Msg) (v : MsgV) (w : World) (h : MsgAt w m v) (ok : MsgOk m) (hk : m.kind = 3) (hf : Wi.first m = true) :
  Calls Tryz.prog 13 #[msgV m v] w fun e w' => e = .returned (.bool true) ∧ Below w.heap.size w w' := by
 have HM := Lib.hid h
 have HO := Lib.hid ok
 obtain ⟨s0, c0, hh0⟩ := h.chain.form
 obtain ⟨s1, c1, hh1⟩ := h.lives.form
 obtain ⟨s2, c2, hh2⟩ := h.brecs.form
 obtain ⟨s3, c3, hh3⟩ := h.table.form
 obtain ⟨s4, c4, hh4⟩ := h.qrecs.form
 obtain ⟨s5, c5, hh5⟩ := h.parts.form
 obtain ⟨s6, c6, hh6⟩ := h.arecs.form
 obtain ⟨v0, v1, v2, v3, v4, v5, v6⟩ := v
 dsimp only at hh0 hh1 hh2 hh3 hh4 hh5 hh6
 subst hh0 hh1 hh2 hh3 hh4 hh5 hh6
 obtain ⟨x_kind, x_frm, x_to, x_part, x_ep, x_off, x_high, x_life, x_pep, x_chain, x_learner, x_lives, x_batch, x_table, x_req, x_resp⟩ := m
 dsimp only at *
 subst hk
 have HF := Lib.hid hf
 clear h ok hf
 unfold Wi.first at HF
 simp only [Hid, Bool.and_eq_true] at HF
 obtain ⟨f1, f2, f3, f4, f5, f6, f7⟩ := HF
 have G1 := Lib.hid f1
 have G2 := Lib.hid f2
 have G3 := Lib.hid f3
 have G4 := Lib.hid f4
 have G5 := Lib.hid f5
 have G6 := Lib.hid f6
 have G7 := Lib.hid f7
 clear f1 f2 f3 f4 f5 f6 f7
 have HI38 := Lib.hid (show (Tryz.prog.info? 36).map (·.size) = some ((.int .i64 3 :: .int .i64 x_frm :: .int .i64 x_to :: .int .i64 x_part :: .int .i64 x_ep :: .int .i64 x_off :: .int .i64 x_high :: .int .i64 x_life :: .int .i64 x_pep :: .slice s0 x_chain.length c0 :: .int .i64 x_learner :: .slice s1 x_lives.length c1 :: .int .i64 x_batch.base :: .int .i64 x_batch.count :: .int .i64 x_batch.prod :: .int .i64 x_batch.seq :: .int .i64 x_batch.time :: .slice s2 x_batch.recs.length c2 :: .slice s3 x_table.length c3 :: .int .i64 x_req.client :: .int .i64 x_req.n :: .int .i64 x_req.kind :: .int .i64 x_req.part :: .int .i64 x_req.seq :: .int .i64 x_req.off :: .int .i64 x_req.max :: .int .i64 x_req.gen :: .string ⟨x_req.group.toArray⟩ :: .string ⟨x_req.member.toArray⟩ :: .slice s4 x_req.recs.length c4 :: .int .i64 x_resp.client :: .int .i64 x_resp.n :: .int .i64 x_resp.code :: .int .i64 x_resp.off :: .int .i64 x_resp.high :: .int .i64 x_resp.gen :: .slice s5 x_resp.parts.length c5 :: .slice s6 x_resp.recs.length c6 :: []) : List Value).length by kernel_rfl)
 unfold msgV msgC
 dsimp only
 go_enter Tryz.func13, Tryz.ntmps13
 obtain ⟨w1, hw1, CA, B1⟩ := oneBox (w := w) (.int .i64 3 :: .int .i64 x_frm :: .int .i64 x_to :: .int .i64 x_part :: .int .i64 x_ep :: .int .i64 x_off :: .int .i64 x_high :: .int .i64 x_life :: .int .i64 x_pep :: .slice s0 x_chain.length c0 :: .int .i64 x_learner :: .slice s1 x_lives.length c1 :: .int .i64 x_batch.base :: .int .i64 x_batch.count :: .int .i64 x_batch.prod :: .int .i64 x_batch.seq :: .int .i64 x_batch.time :: .slice s2 x_batch.recs.length c2 :: .slice s3 x_table.length c3 :: .int .i64 x_req.client :: .int .i64 x_req.n :: .int .i64 x_req.kind :: .int .i64 x_req.part :: .int .i64 x_req.seq :: .int .i64 x_req.off :: .int .i64 x_req.max :: .int .i64 x_req.gen :: .string ⟨x_req.group.toArray⟩ :: .string ⟨x_req.member.toArray⟩ :: .slice s4 x_req.recs.length c4 :: .int .i64 x_resp.client :: .int .i64 x_resp.n :: .int .i64 x_resp.code :: .int .i64 x_resp.off :: .int .i64 x_resp.high :: .int .i64 x_resp.gen :: .slice s5 x_resp.parts.length c5 :: .slice s6 x_resp.recs.length c6 :: []) 36
 have HW1 := Lib.hid hw1
 clear hw1
 go_upto_region 1 with (fail)
 first | rw [HW1.out] | skip
 clear HW1
 have M1 := Lib.hid (HM.out.kept B1.out)
 have BW : Hid (∀ W, Below w1.heap.size w1 W → Below w.heap.size w W) := fun W h => bt B1.out h
 generalize w.heap.size = pa at CA ⊢
 clear HM
 go_cut [51] (fun t51 wz => t51 = .bool false ∧ Below w1.heap.size w1 wz)
 case first =>
  have m0 := fun x : AnyOf (gC w1 x_ep x_life x_off x_high 3) => gC.cell CA.out x (k := 0) rfl
  have m1 := fun x : AnyOf (gC w1 x_ep x_life x_off x_high 3) => gC.cell CA.out x (k := 1) rfl
  have m2 := fun x : AnyOf (gC w1 x_ep x_life x_off x_high 3) => gC.cell CA.out x (k := 2) rfl
  have m3 := fun x : AnyOf (gC w1 x_ep x_life x_off x_high 3) => gC.cell CA.out x (k := 3) rfl
  have m4 := fun x : AnyOf (gC w1 x_ep x_life x_off x_high 3) => gC.cell CA.out x (k := 4) rfl
  have m5 := fun x : AnyOf (gC w1 x_ep x_life x_off x_high 3) => gC.cell CA.out x (k := 5) rfl
  have m6 := fun x : AnyOf (gC w1 x_ep x_life x_off x_high 3) => gC.cell CA.out x (k := 6) rfl
  have m7 := fun x : AnyOf (gC w1 x_ep x_life x_off x_high 3) => gC.cell CA.out x (k := 7) rfl
  have hC0 : gC w1 x_ep x_life x_off x_high 3 (Array.replicate 47 false) w1.drew := ⟨(Below.refl _ _).drew, fun _ => rfl, fun h => (by simp at h), fun h => (by simp at h), by simp⟩
  have hne : Nonempty (AnyOf (gC w1 x_ep x_life x_off x_high 3)) := ⟨⟨_, _, hC0⟩⟩
  go_wp2
  refine wp_region_ranks (gC w1 x_ep x_life x_off x_high 3) _ (by kernel_rfl) (by kernel_rfl) rfl hC0 ?_
  refine rQuiet_head 2 (by decide) (by kernel_rfl) (fun i L W h1 h2 hc => hc.set (by omega) (by omega) (by omega) (by omega) (by omega)) ?_
  simp only [List.take_succ_cons, List.take_zero, List.drop_succ_cons, List.drop_zero]
  repeat (go_big_quiet_step (fail))
  refine wpQuiet_nil ?_
  refine rQuiet_call (f := 31) (args := #[.int .i64 3, .int .i64 1, .int .i64 9]) (.bool true) rfl (fun w => by go_simp) (fun L w hD hi hc => (wwithin_any 3 1 9 w).mono fun e w' ⟨he, hw⟩ => ⟨by rw [he, G1.out], by rw [hw]; exact hc.set (by omega) (by omega) (by omega) (by omega) (by omega)⟩) ?_
  simp only [Act.put, List.setIfInBounds_toArray, List.set_cons_zero, List.set_cons_succ]
  refine rQuiet_head 4 (by decide) (by kernel_rfl) (fun i L W h1 h2 hc => hc.set (by omega) (by omega) (by omega) (by omega) (by omega)) ?_
  simp only [List.take_succ_cons, List.take_zero, List.drop_succ_cons, List.drop_zero]
  repeat (go_big_quiet_step (fail))
  refine wpQuiet_nil ?_
  refine rQuiet_call (f := 32) (args := #[.int .i64 x_frm]) (.bool true) rfl (fun w => by go_simp) (fun L w hD hi hc => (isUnit_any x_frm w).mono fun e w' ⟨he, hw⟩ => ⟨by rw [he, G2.out], by rw [hw]; exact hc.set (by omega) (by omega) (by omega) (by omega) (by omega)⟩) ?_
  simp only [Act.put, List.setIfInBounds_toArray, List.set_cons_zero, List.set_cons_succ]
  refine rQuiet_head 5 (by decide) (by kernel_rfl) (fun i L W h1 h2 hc => hc.set (by omega) (by omega) (by omega) (by omega) (by omega)) ?_
  simp only [List.take_succ_cons, List.take_zero, List.drop_succ_cons, List.drop_zero]
  repeat (go_big_quiet_step (fail))
  refine wpQuiet_nil ?_
  refine rQuiet_call (f := 32) (args := #[.int .i64 x_to]) (.bool true) rfl (fun w => by go_simp) (fun L w hD hi hc => (isUnit_any x_to w).mono fun e w' ⟨he, hw⟩ => ⟨by rw [he, G3.out], by rw [hw]; exact hc.set (by omega) (by omega) (by omega) (by omega) (by omega)⟩) ?_
  simp only [Act.put, List.setIfInBounds_toArray, List.set_cons_zero, List.set_cons_succ]
  refine rQuiet_head 5 (by decide) (by kernel_rfl) (fun i L W h1 h2 hc => hc.set (by omega) (by omega) (by omega) (by omega) (by omega)) ?_
  simp only [List.take_succ_cons, List.take_zero, List.drop_succ_cons, List.drop_zero]
  repeat (go_big_quiet_step (fail))
  refine wpQuiet_nil ?_
  refine rQuiet_call (f := 31) (args := #[.int .i64 x_part, .int .i64 0, .int .i64 3]) (.bool true) rfl (fun w => by go_simp) (fun L w hD hi hc => (wwithin_any x_part 0 3 w).mono fun e w' ⟨he, hw⟩ => ⟨by rw [he, G4.out], by rw [hw]; exact hc.set (by omega) (by omega) (by omega) (by omega) (by omega)⟩) ?_
  simp only [Act.put, List.setIfInBounds_toArray, List.set_cons_zero, List.set_cons_succ]
  refine rQuiet_head 7 (by decide) (by kernel_rfl) (fun i L W h1 h2 hc => hc.set (by omega) (by omega) (by omega) (by omega) (by omega)) ?_
  simp only [List.take_succ_cons, List.take_zero, List.drop_succ_cons, List.drop_zero]
  repeat (go_big_quiet_step (fail))
  refine wpQuiet_nil ?_
  refine rQuiet_value (.slice (some ⟨w1.heap.size, 0, none⟩) 2 2) (fun W => W.alloc (.cells #[.int .i64 x_ep, .int .i64 x_life] 3)) rfl (fun L w hD hi hc => ?_) ?_
  ·have h27 := ready_not hi
   have h28 : L.getD 28 false = false := no_of (fun h => hD.wait (j := 28) (i := 27) (by kernel_rfl) h) h27
   have h36 : L.getD 36 false = false := no_of (fun h => hD.wait (j := 29) (i := 28) (by kernel_rfl) (hD.wait (j := 30) (i := 29) (by kernel_rfl) (hD.wait (j := 31) (i := 30) (by kernel_rfl) (hD.wait (j := 36) (i := 31) (by kernel_rfl) h)))) h28
   have h37 : L.getD 37 false = false := no_of (fun h => hD.wait (j := 37) (i := 36) (by kernel_rfl) h) h36
   have h43 : L.getD 43 false = false := no_of (fun h => hD.wait (j := 38) (i := 37) (by kernel_rfl) (hD.wait (j := 39) (i := 38) (by kernel_rfl) (hD.wait (j := 40) (i := 39) (by kernel_rfl) (hD.wait (j := 43) (i := 40) (by kernel_rfl) h)))) h37
   have hs := hc.s h43
   rw [gcnt, h27, h28, h36, h37] at hs
   have hs : w.heap.size = w1.heap.size := by simpa using hs
   refine ⟨by rw [← hs]; go_simp, ?_⟩
   exact hc.build1 hs h28 h36 h37
  simp only [Act.put, List.setIfInBounds_toArray, List.set_cons_zero, List.set_cons_succ]
  refine rQuiet_call (f := 33) (args := #[.int .i64 0, .int .i64 1073741824, .slice (some ⟨w1.heap.size, 0, none⟩) 2 2]) (.bool true) rfl (fun w => by go_simp) (fun L w hD hi hc => ?_) ?_
  ·have h28 := ready_not hi
   have h27 := ready_wait hi (i := 27) (by kernel_rfl)
   have h36 : L.getD 36 false = false := no_of (fun h => hD.wait (j := 29) (i := 28) (by kernel_rfl) (hD.wait (j := 30) (i := 29) (by kernel_rfl) (hD.wait (j := 31) (i := 30) (by kernel_rfl) (hD.wait (j := 36) (i := 31) (by kernel_rfl) h)))) h28
   have h37 : L.getD 37 false = false := no_of (fun h => hD.wait (j := 37) (i := 36) (by kernel_rfl) h) h36
   have h43 : L.getD 43 false = false := no_of (fun h => hD.wait (j := 38) (i := 37) (by kernel_rfl) (hD.wait (j := 39) (i := 38) (by kernel_rfl) (hD.wait (j := 40) (i := 39) (by kernel_rfl) (hD.wait (j := 43) (i := 40) (by kernel_rfl) h)))) h37
   exact (are_sz [x_ep, x_life] (by simp [maxLen]) _ 0 1073741824 w (ints2_cl (hc.c1 h27))).mono fun e w' ⟨he, hb, hz⟩ => ⟨by rw [he, G5.out], hc.are1 hb hz h27 h28 h36 h37 h43⟩
  simp only [Act.put, List.setIfInBounds_toArray, List.set_cons_zero, List.set_cons_succ]
  refine rQuiet_head 7 (by decide) (by kernel_rfl) (fun i L W h1 h2 hc => hc.set (by omega) (by omega) (by omega) (by omega) (by omega)) ?_
  simp only [List.take_succ_cons, List.take_zero, List.drop_succ_cons, List.drop_zero]
  repeat (go_big_quiet_step (fail))
  refine wpQuiet_nil ?_
  refine rQuiet_value (.slice (some ⟨w1.heap.size + 3, 0, none⟩) 2 2) (fun W => W.alloc (.cells #[.int .i64 x_off, .int .i64 x_high] 3)) rfl (fun L w hD hi hc => ?_) ?_
  ·have h36 := ready_not hi
   have h28 : L.getD 28 false = true := hD.wait (j := 29) (i := 28) (by kernel_rfl) (hD.wait (j := 30) (i := 29) (by kernel_rfl) (hD.wait (j := 31) (i := 30) (by kernel_rfl) (ready_wait hi (i := 31) (by kernel_rfl))))
   have h27 : L.getD 27 false = true := hD.wait (j := 28) (i := 27) (by kernel_rfl) h28
   have h37 : L.getD 37 false = false := no_of (fun h => hD.wait (j := 37) (i := 36) (by kernel_rfl) h) h36
   have h43 : L.getD 43 false = false := no_of (fun h => hD.wait (j := 38) (i := 37) (by kernel_rfl) (hD.wait (j := 39) (i := 38) (by kernel_rfl) (hD.wait (j := 40) (i := 39) (by kernel_rfl) (hD.wait (j := 43) (i := 40) (by kernel_rfl) h)))) h37
   have hs := hc.s h43
   rw [gcnt, h27, h28, h36, h37] at hs
   have hs : w.heap.size = w1.heap.size + 3 := by simpa using hs
   refine ⟨by rw [← hs]; go_simp, ?_⟩
   exact hc.build2 hs h27 h28 h37
  simp only [Act.put, List.setIfInBounds_toArray, List.set_cons_zero, List.set_cons_succ]
  refine rQuiet_call (f := 33) (args := #[.int .i64 (-1), .int .i64 1099511627776, .slice (some ⟨w1.heap.size + 3, 0, none⟩) 2 2]) (.bool true) rfl (fun w => by go_simp) (fun L w hD hi hc => ?_) ?_
  ·have h37 := ready_not hi
   have h36 := ready_wait hi (i := 36) (by kernel_rfl)
   have h28 : L.getD 28 false = true := hD.wait (j := 29) (i := 28) (by kernel_rfl) (hD.wait (j := 30) (i := 29) (by kernel_rfl) (hD.wait (j := 31) (i := 30) (by kernel_rfl) (hD.wait (j := 36) (i := 31) (by kernel_rfl) h36)))
   have h27 : L.getD 27 false = true := hD.wait (j := 28) (i := 27) (by kernel_rfl) h28
   have h43 : L.getD 43 false = false := no_of (fun h => hD.wait (j := 38) (i := 37) (by kernel_rfl) (hD.wait (j := 39) (i := 38) (by kernel_rfl) (hD.wait (j := 40) (i := 39) (by kernel_rfl) (hD.wait (j := 43) (i := 40) (by kernel_rfl) h)))) h37
   exact (are_sz [x_off, x_high] (by simp [maxLen]) _ (-1) 1099511627776 w (ints2_cl (hc.c2 h36))).mono fun e w' ⟨he, hb, hz⟩ => ⟨by rw [he, G6.out], hc.are2 hb hz h27 h28 h36 h37 h43⟩
  simp only [Act.put, List.setIfInBounds_toArray, List.set_cons_zero, List.set_cons_succ]
  refine rQuiet_head 3 (by decide) (by kernel_rfl) (fun i L W h1 h2 hc => hc.set (by omega) (by omega) (by omega) (by omega) (by omega)) ?_
  simp only [List.take_succ_cons, List.take_zero, List.drop_succ_cons, List.drop_zero]
  repeat (go_big_quiet_step (fail))
  refine wpQuiet_nil ?_
  refine rQuiet_value (.agg (.int .i64 3 :: .int .i64 x_frm :: .int .i64 x_to :: .int .i64 x_part :: .int .i64 x_ep :: .int .i64 x_off :: .int .i64 x_high :: .int .i64 x_life :: .int .i64 x_pep :: .slice s0 x_chain.length c0 :: .int .i64 x_learner :: .slice s1 x_lives.length c1 :: .int .i64 x_batch.base :: .int .i64 x_batch.count :: .int .i64 x_batch.prod :: .int .i64 x_batch.seq :: .int .i64 x_batch.time :: .slice s2 x_batch.recs.length c2 :: .slice s3 x_table.length c3 :: .int .i64 x_req.client :: .int .i64 x_req.n :: .int .i64 x_req.kind :: .int .i64 x_req.part :: .int .i64 x_req.seq :: .int .i64 x_req.off :: .int .i64 x_req.max :: .int .i64 x_req.gen :: .string ⟨x_req.group.toArray⟩ :: .string ⟨x_req.member.toArray⟩ :: .slice s4 x_req.recs.length c4 :: .int .i64 x_resp.client :: .int .i64 x_resp.n :: .int .i64 x_resp.code :: .int .i64 x_resp.off :: .int .i64 x_resp.high :: .int .i64 x_resp.gen :: .slice s5 x_resp.parts.length c5 :: .slice s6 x_resp.recs.length c6 :: []).toArray) (fun W => W) rfl (fun L w hD hi hc => ⟨?_, hc.set (by omega) (by omega) (by omega) (by omega) (by omega)⟩) ?_
  ·have hl := run_loadAt_mid (P := Tryz.prog) w pa 0 36 (.int .i64 3 :: .int .i64 x_frm :: .int .i64 x_to :: .int .i64 x_part :: .int .i64 x_ep :: .int .i64 x_off :: .int .i64 x_high :: .int .i64 x_life :: .int .i64 x_pep :: .slice s0 x_chain.length c0 :: .int .i64 x_learner :: .slice s1 x_lives.length c1 :: .int .i64 x_batch.base :: .int .i64 x_batch.count :: .int .i64 x_batch.prod :: .int .i64 x_batch.seq :: .int .i64 x_batch.time :: .slice s2 x_batch.recs.length c2 :: .slice s3 x_table.length c3 :: .int .i64 x_req.client :: .int .i64 x_req.n :: .int .i64 x_req.kind :: .int .i64 x_req.part :: .int .i64 x_req.seq :: .int .i64 x_req.off :: .int .i64 x_req.max :: .int .i64 x_req.gen :: .string ⟨x_req.group.toArray⟩ :: .string ⟨x_req.member.toArray⟩ :: .slice s4 x_req.recs.length c4 :: .int .i64 x_resp.client :: .int .i64 x_resp.n :: .int .i64 x_resp.code :: .int .i64 x_resp.off :: .int .i64 x_resp.high :: .int .i64 x_resp.gen :: .slice s5 x_resp.parts.length c5 :: .slice s6 x_resp.recs.length c6 :: []) _ (Cl.below CA.out hc.b).range Tryz.underlying36 rfl HI38.out
   exact exec_load rfl rfl hl
  simp only [Act.put, List.setIfInBounds_toArray, List.set_cons_zero, List.set_cons_succ]
  refine rQuiet_value (.agg (.int .i64 3 :: .int .i64 x_frm :: .int .i64 x_to :: .int .i64 x_part :: .int .i64 x_ep :: .int .i64 x_off :: .int .i64 x_high :: .int .i64 x_life :: .int .i64 x_pep :: .slice s0 x_chain.length c0 :: .int .i64 x_learner :: .slice s1 x_lives.length c1 :: .int .i64 x_batch.base :: .int .i64 x_batch.count :: .int .i64 x_batch.prod :: .int .i64 x_batch.seq :: .int .i64 x_batch.time :: .slice s2 x_batch.recs.length c2 :: .slice s3 x_table.length c3 :: .int .i64 x_req.client :: .int .i64 x_req.n :: .int .i64 x_req.kind :: .int .i64 x_req.part :: .int .i64 x_req.seq :: .int .i64 x_req.off :: .int .i64 x_req.max :: .int .i64 x_req.gen :: .string ⟨x_req.group.toArray⟩ :: .string ⟨x_req.member.toArray⟩ :: .slice s4 x_req.recs.length c4 :: .int .i64 x_resp.client :: .int .i64 x_resp.n :: .int .i64 x_resp.code :: .int .i64 x_resp.off :: .int .i64 x_resp.high :: .int .i64 x_resp.gen :: .slice s5 x_resp.parts.length c5 :: .slice s6 x_resp.recs.length c6 :: []).toArray) (fun W => W) rfl (fun L w hD hi hc => ⟨?_, hc.set (by omega) (by omega) (by omega) (by omega) (by omega)⟩) ?_
  ·have hl := run_loadAt_mid (P := Tryz.prog) w pa 0 36 (.int .i64 3 :: .int .i64 x_frm :: .int .i64 x_to :: .int .i64 x_part :: .int .i64 x_ep :: .int .i64 x_off :: .int .i64 x_high :: .int .i64 x_life :: .int .i64 x_pep :: .slice s0 x_chain.length c0 :: .int .i64 x_learner :: .slice s1 x_lives.length c1 :: .int .i64 x_batch.base :: .int .i64 x_batch.count :: .int .i64 x_batch.prod :: .int .i64 x_batch.seq :: .int .i64 x_batch.time :: .slice s2 x_batch.recs.length c2 :: .slice s3 x_table.length c3 :: .int .i64 x_req.client :: .int .i64 x_req.n :: .int .i64 x_req.kind :: .int .i64 x_req.part :: .int .i64 x_req.seq :: .int .i64 x_req.off :: .int .i64 x_req.max :: .int .i64 x_req.gen :: .string ⟨x_req.group.toArray⟩ :: .string ⟨x_req.member.toArray⟩ :: .slice s4 x_req.recs.length c4 :: .int .i64 x_resp.client :: .int .i64 x_resp.n :: .int .i64 x_resp.code :: .int .i64 x_resp.off :: .int .i64 x_resp.high :: .int .i64 x_resp.gen :: .slice s5 x_resp.parts.length c5 :: .slice s6 x_resp.recs.length c6 :: []) _ (Cl.below CA.out hc.b).range Tryz.underlying36 rfl HI38.out
   exact exec_load rfl rfl hl
  simp only [Act.put, List.setIfInBounds_toArray, List.set_cons_zero, List.set_cons_succ]
  refine rQuiet_call (f := 34) (args := #[.agg (.int .i64 3 :: .int .i64 x_frm :: .int .i64 x_to :: .int .i64 x_part :: .int .i64 x_ep :: .int .i64 x_off :: .int .i64 x_high :: .int .i64 x_life :: .int .i64 x_pep :: .slice s0 x_chain.length c0 :: .int .i64 x_learner :: .slice s1 x_lives.length c1 :: .int .i64 x_batch.base :: .int .i64 x_batch.count :: .int .i64 x_batch.prod :: .int .i64 x_batch.seq :: .int .i64 x_batch.time :: .slice s2 x_batch.recs.length c2 :: .slice s3 x_table.length c3 :: .int .i64 x_req.client :: .int .i64 x_req.n :: .int .i64 x_req.kind :: .int .i64 x_req.part :: .int .i64 x_req.seq :: .int .i64 x_req.off :: .int .i64 x_req.max :: .int .i64 x_req.gen :: .string ⟨x_req.group.toArray⟩ :: .string ⟨x_req.member.toArray⟩ :: .slice s4 x_req.recs.length c4 :: .int .i64 x_resp.client :: .int .i64 x_resp.n :: .int .i64 x_resp.code :: .int .i64 x_resp.off :: .int .i64 x_resp.high :: .int .i64 x_resp.gen :: .slice s5 x_resp.parts.length c5 :: .slice s6 x_resp.recs.length c6 :: []).toArray]) (msgV (Wi.only ⟨3, x_frm, x_to, x_part, x_ep, x_off, x_high, x_life, x_pep, x_chain, x_learner, x_lives, x_batch, x_table, x_req, x_resp⟩) (onlyV ⟨3, x_frm, x_to, x_part, x_ep, x_off, x_high, x_life, x_pep, x_chain, x_learner, x_lives, x_batch, x_table, x_req, x_resp⟩ ⟨.slice s0 x_chain.length c0, .slice s1 x_lives.length c1, .slice s2 x_batch.recs.length c2, .slice s3 x_table.length c3, .slice s4 x_req.recs.length c4, .slice s5 x_resp.parts.length c5, .slice s6 x_resp.recs.length c6⟩)) rfl (fun w => by go_simp) (fun L w hD hi hc => ?_) ?_
  ·exact (only_k3 ⟨3, x_frm, x_to, x_part, x_ep, x_off, x_high, x_life, x_pep, x_chain, x_learner, x_lives, x_batch, x_table, x_req, x_resp⟩ ⟨.slice s0 x_chain.length c0, .slice s1 x_lives.length c1, .slice s2 x_batch.recs.length c2, .slice s3 x_table.length c3, .slice s4 x_req.recs.length c4, .slice s5 x_resp.parts.length c5, .slice s6 x_resp.recs.length c6⟩ w (M1.out.kept hc.b) rfl).mono fun e w' ⟨he, hb⟩ => ⟨he, hc.only hb⟩
  simp only [Act.put, List.setIfInBounds_toArray, List.set_cons_zero, List.set_cons_succ]
  refine rQuiet_call (f := 15) (args := #[.agg (.int .i64 3 :: .int .i64 x_frm :: .int .i64 x_to :: .int .i64 x_part :: .int .i64 x_ep :: .int .i64 x_off :: .int .i64 x_high :: .int .i64 x_life :: .int .i64 x_pep :: .slice s0 x_chain.length c0 :: .int .i64 x_learner :: .slice s1 x_lives.length c1 :: .int .i64 x_batch.base :: .int .i64 x_batch.count :: .int .i64 x_batch.prod :: .int .i64 x_batch.seq :: .int .i64 x_batch.time :: .slice s2 x_batch.recs.length c2 :: .slice s3 x_table.length c3 :: .int .i64 x_req.client :: .int .i64 x_req.n :: .int .i64 x_req.kind :: .int .i64 x_req.part :: .int .i64 x_req.seq :: .int .i64 x_req.off :: .int .i64 x_req.max :: .int .i64 x_req.gen :: .string ⟨x_req.group.toArray⟩ :: .string ⟨x_req.member.toArray⟩ :: .slice s4 x_req.recs.length c4 :: .int .i64 x_resp.client :: .int .i64 x_resp.n :: .int .i64 x_resp.code :: .int .i64 x_resp.off :: .int .i64 x_resp.high :: .int .i64 x_resp.gen :: .slice s5 x_resp.parts.length c5 :: .slice s6 x_resp.recs.length c6 :: []).toArray, msgV (Wi.only ⟨3, x_frm, x_to, x_part, x_ep, x_off, x_high, x_life, x_pep, x_chain, x_learner, x_lives, x_batch, x_table, x_req, x_resp⟩) (onlyV ⟨3, x_frm, x_to, x_part, x_ep, x_off, x_high, x_life, x_pep, x_chain, x_learner, x_lives, x_batch, x_table, x_req, x_resp⟩ ⟨.slice s0 x_chain.length c0, .slice s1 x_lives.length c1, .slice s2 x_batch.recs.length c2, .slice s3 x_table.length c3, .slice s4 x_req.recs.length c4, .slice s5 x_resp.parts.length c5, .slice s6 x_resp.recs.length c6⟩)]) (.bool true) rfl (fun w => by go_simp) (fun L w hD hi hc => ?_) ?_
  ·have h43 := ready_wait hi (i := 43) (by kernel_rfl)
   exact (wsame_any ⟨3, x_frm, x_to, x_part, x_ep, x_off, x_high, x_life, x_pep, x_chain, x_learner, x_lives, x_batch, x_table, x_req, x_resp⟩ (Wi.only ⟨3, x_frm, x_to, x_part, x_ep, x_off, x_high, x_life, x_pep, x_chain, x_learner, x_lives, x_batch, x_table, x_req, x_resp⟩) ⟨.slice s0 x_chain.length c0, .slice s1 x_lives.length c1, .slice s2 x_batch.recs.length c2, .slice s3 x_table.length c3, .slice s4 x_req.recs.length c4, .slice s5 x_resp.parts.length c5, .slice s6 x_resp.recs.length c6⟩ (onlyV ⟨3, x_frm, x_to, x_part, x_ep, x_off, x_high, x_life, x_pep, x_chain, x_learner, x_lives, x_batch, x_table, x_req, x_resp⟩ ⟨.slice s0 x_chain.length c0, .slice s1 x_lives.length c1, .slice s2 x_batch.recs.length c2, .slice s3 x_table.length c3, .slice s4 x_req.recs.length c4, .slice s5 x_resp.parts.length c5, .slice s6 x_resp.recs.length c6⟩) w (M1.out.kept hc.b) (M1.out.kept hc.b).only HO.out HO.out.only).mono fun e w' ⟨he, hb⟩ => ⟨by rw [he, G7.out], hc.late hb h43 (by omega) (by omega) (by omega)⟩
  simp only [Act.put, List.setIfInBounds_toArray, List.set_cons_zero, List.set_cons_succ]
  refine rQuiet_head 2 (by decide) (by kernel_rfl) (fun i L W h1 h2 hc => hc.set (by omega) (by omega) (by omega) (by omega) (by omega)) ?_
  simp only [List.take_succ_cons, List.take_zero, List.drop_succ_cons, List.drop_zero]
  repeat (go_big_quiet_step (fail))
  refine wpQuiet_nil ?_
  intro w9 hw9
  have T4 := Lib.hid hw9.b
  go_wp2
  go_meet
  case rel => exact ⟨rfl, T4.out⟩
 case rest =>
  obtain ⟨rfl, hwz⟩ := hcut
  have BZ := Lib.hid (BW.out _ hwz)
  have C9 := Lib.hid (Cl.below CA.out hwz)
  have k0 := C9.out.cell 0
  simp only [List.getElem?_cons_zero, List.getElem?_cons_succ] at k0
  clear hwz CA C9
  go_wp2
  go_ret
  exact ⟨rfl, BZ.out⟩
end Go.Proofs.YtjfpbeccpcbpcaaGreatDoor
