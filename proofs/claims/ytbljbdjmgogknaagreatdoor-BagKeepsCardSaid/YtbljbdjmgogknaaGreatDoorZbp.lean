/-
  Wn2 / Wn3 / Wn4: texts of one proof, one behind the other.
  Conditions: none of its own.
-/
import Derived.Test.YtbljbdjmgogknaaGreatDoorZbo
set_option linter.unusedVariables false
set_option linter.unusedSimpArgs false
namespace Go.Proofs.YtbljbdjmgogknaaGreatDoor
open Go.RowKit
set_option maxRecDepth 20000 in
set_option maxHeartbeats 12800000 in
theorem wread_k2 (p : Nat) (q : Bd.St) (w : World) (h : Rd w p q) (hl : q.1.length < 4294967281) (hw : ∀ W, Kp w p W → Lw W) (hk : vN q 0 = 2) :
  Calls Tryz.prog 59 #[.pointer (some ⟨p, 0, none⟩)] w (ReadR w p (Wi.sMsg q)) := by
 have HW := Lib.hid hw
 have HN : Hid (∀ k W, Rd W p (stN q k) → Lw W → Calls Tryz.prog 92 #[.pointer (some ⟨p, 0, none⟩)] W (RdV (.int .i64 (vN q k)) W p (stN q (k + 1)))) := fun k W hr hL => int_any p (stN q k) W hr (by have := stN_len q k; omega) hL
 have I0 := Lib.hid (HN.out 0)
 have r0 : Bd.inR (vN q 0) := sInt_inR _
 have I1 := Lib.hid (HN.out 1)
 have r1 : Bd.inR (vN q 1) := sInt_inR _
 have I2 := Lib.hid (HN.out 2)
 have r2 : Bd.inR (vN q 2) := sInt_inR _
 simp only [Nat.zero_add, Nat.reduceAdd] at I0 I1 I2
 have hlz := stN_len q 3
 have HTL := Lib.hid (fun W (hR : Rd W p (stN q 3)) (hL : ∀ W', Kp W p W' → Lw W') => readResp_any p (stN q 3) W hR (by omega) hL)
 have hqok := sResp_ok (stN q 3) (by omega)
 have hh : ¬ 4 ≤ vN q 0 := by omega
 have HS : Hid (Wi.sMsg q = ((⟨vN q 0, vN q 1, vN q 2, 0, 0, 0, 0, 0, 0, [], 0, [], Wi.zBatch, [], Wi.zReq, (Wi.sResp (stN q 3)).1.1⟩, (Wi.sResp (stN q 3)).1.2), (Wi.sResp (stN q 3)).2)) := by
  rw [Hid, Wi.sMsg, sHead_lo q hh]
  unfold Wi.sTail
  dsimp only
  rw [hk]
  rfl
 rw [hk] at I0 HS r0
 generalize hz : Wi.sResp (stN q 3) = zz at *
 clear hz
 obtain ⟨⟨⟨rc, rn, rk, ro, rh, rg, rpt, rrs⟩, ok⟩, qz⟩ := zz
 clear HN hw
 try dsimp only at *
 unfold wrespC at HTL
 try dsimp only at HTL
 generalize vN q 1 = n1 at *
 generalize vN q 2 = n2 at *
 generalize stN q 3 = q3 at *
 generalize stN q 2 = q2 at *
 generalize stN q 1 = q1 at *
 have HSR := Lib.hid HS.out
 obtain ⟨w0, hw0, X0⟩ := rx_new (q := stN q 0) h (.int .i64 0 :: .int .i64 0 :: .int .i64 0 :: .int .i64 0 :: .int .i64 0 :: .int .i64 0 :: .int .i64 0 :: .int .i64 0 :: .int .i64 0 :: .slice none 0 0 :: .int .i64 0 :: .slice none 0 0 :: .int .i64 0 :: .int .i64 0 :: .int .i64 0 :: .int .i64 0 :: .int .i64 0 :: .slice none 0 0 :: .slice none 0 0 :: .int .i64 0 :: .int .i64 0 :: .int .i64 0 :: .int .i64 0 :: .int .i64 0 :: .int .i64 0 :: .int .i64 0 :: .int .i64 0 :: .string ⟨#[]⟩ :: .string ⟨#[]⟩ :: .slice none 0 0 :: .int .i64 0 :: .int .i64 0 :: .int .i64 0 :: .int .i64 0 :: .int .i64 0 :: .int .i64 0 :: .slice none 0 0 :: .slice none 0 0 :: []) 44
 have HW0 := Lib.hid hw0
 clear hw0
 have hpl := h.lt
 generalize stN q 0 = q0 at *
 clear h
 go_enter Tryz.func59, Tryz.ntmps59
 go_upto_region 2 with (fail)
 rw [HW0.out]
 clear HW0
 generalize hx : w.heap.size = x at *
 have HX := Lib.hid hx
 clear hx
 go_wp2_with fail
 refine (I0.out _ X0.out.1 (HW.out _ X0.out.2.2.2.2)).mono ?_
 rintro e u1 ⟨rfl, hr⟩
 have Y2 := Lib.hid (X0.out.call hr)
 clear hr X0 I0
 go_wp2_with fail
 refine (I1.out _ Y2.out.1 (HW.out _ Y2.out.2.2.2.2)).mono ?_
 rintro e u3 ⟨rfl, hr⟩
 have Y4 := Lib.hid (Y2.out.call hr)
 clear hr Y2 I1
 go_wp2_with fail
 refine (I2.out _ Y4.out.1 (HW.out _ Y4.out.2.2.2.2)).mono ?_
 rintro e u5 ⟨rfl, hr⟩
 have Y6 := Lib.hid (Y4.out.call hr)
 clear hr Y4 I2
 have c0 := Y6.out.2.1.cell 0
 have f0 := Y6.out.2.1.free 0
 have c1 := Y6.out.2.1.cell 1
 have f1 := Y6.out.2.1.free 1
 have c2 := Y6.out.2.1.cell 2
 have f2 := Y6.out.2.1.free 2
 simp only [List.getElem?_cons_zero, List.getElem?_cons_succ] at c0 c1 c2
 have Y7 : Hid (Rx w p x (((u5.setCell ⟨x, 0, none⟩ (.int .i64 2)).setCell ⟨x, 1, none⟩ (.int .i64 n1)).setCell ⟨x, 2, none⟩ (.int .i64 n2)) q3 (.int .i64 2 :: .int .i64 n1 :: .int .i64 n2 :: .int .i64 0 :: .int .i64 0 :: .int .i64 0 :: .int .i64 0 :: .int .i64 0 :: .int .i64 0 :: .slice none 0 0 :: .int .i64 0 :: .slice none 0 0 :: .int .i64 0 :: .int .i64 0 :: .int .i64 0 :: .int .i64 0 :: .int .i64 0 :: .slice none 0 0 :: .slice none 0 0 :: .int .i64 0 :: .int .i64 0 :: .int .i64 0 :: .int .i64 0 :: .int .i64 0 :: .int .i64 0 :: .int .i64 0 :: .int .i64 0 :: .string ⟨#[]⟩ :: .string ⟨#[]⟩ :: .slice none 0 0 :: .int .i64 0 :: .int .i64 0 :: .int .i64 0 :: .int .i64 0 :: .int .i64 0 :: .int .i64 0 :: .slice none 0 0 :: .slice none 0 0 :: []) 44) := (((Y6.out.store 0 (.int .i64 2)).store 1 (.int .i64 n1)).store 2 (.int .i64 n2))
 go_upto_region 3 with (fail)
 generalize (((u5.setCell ⟨x, 0, none⟩ (.int .i64 2)).setCell ⟨x, 1, none⟩ (.int .i64 n1)).setCell ⟨x, 2, none⟩ (.int .i64 n2)) = u8 at *
 clear Y6 c0 f0 c1 f1 c2 f2
 have c0 := Y7.out.2.1.cell 0
 simp only [List.getElem?_cons_zero, List.getElem?_cons_succ] at c0
 go_wp2_with fail
 refine (HTL.out _ Y7.out.1 (fun W' k => HW.out _ (Y7.out.2.2.2.2.trans k))).mono ?_
 rintro e ua ⟨pv, v, rfl, ho0, ho1, hr, hk9⟩
 have XA := Lib.hid (Y7.out.own hr hk9)
 have hxl := Y7.out.2.1.lt
 have hbs : x ≤ u8.heap.size := by have := Y7.out.2.2.2.2.size; have := HX.out; omega
 have O0 := Lib.hid ho0
 obtain ⟨a0, cp0, he0⟩ := own_form ho0
 subst he0
 have O1 := Lib.hid ho1
 obtain ⟨a1, cp1, he1⟩ := own_form ho1
 subst he1
 clear hr hk9 HTL Y7 c0 ho0 ho1
 have c30 := XA.out.2.1.cell 30
 have f30 := XA.out.2.1.free 30
 have c31 := XA.out.2.1.cell 31
 have f31 := XA.out.2.1.free 31
 have c32 := XA.out.2.1.cell 32
 have f32 := XA.out.2.1.free 32
 have c33 := XA.out.2.1.cell 33
 have f33 := XA.out.2.1.free 33
 have c34 := XA.out.2.1.cell 34
 have f34 := XA.out.2.1.free 34
 have c35 := XA.out.2.1.cell 35
 have f35 := XA.out.2.1.free 35
 have c36 := XA.out.2.1.cell 36
 have f36 := XA.out.2.1.free 36
 have c37 := XA.out.2.1.cell 37
 have f37 := XA.out.2.1.free 37
 simp only [List.getElem?_cons_zero, List.getElem?_cons_succ] at c30 c31 c32 c33 c34 c35 c36 c37
 have Y9 : Hid (Rx w p x ((((((((ua.setCell ⟨x, 30, none⟩ (.int .i64 rc)).setCell ⟨x, 31, none⟩ (.int .i64 rn)).setCell ⟨x, 32, none⟩ (.int .i64 rk)).setCell ⟨x, 33, none⟩ (.int .i64 ro)).setCell ⟨x, 34, none⟩ (.int .i64 rh)).setCell ⟨x, 35, none⟩ (.int .i64 rg)).setCell ⟨x, 36, none⟩ (.slice a0 rpt.length cp0)).setCell ⟨x, 37, none⟩ (.slice a1 rrs.length cp1)) qz (.int .i64 2 :: .int .i64 n1 :: .int .i64 n2 :: .int .i64 0 :: .int .i64 0 :: .int .i64 0 :: .int .i64 0 :: .int .i64 0 :: .int .i64 0 :: .slice none 0 0 :: .int .i64 0 :: .slice none 0 0 :: .int .i64 0 :: .int .i64 0 :: .int .i64 0 :: .int .i64 0 :: .int .i64 0 :: .slice none 0 0 :: .slice none 0 0 :: .int .i64 0 :: .int .i64 0 :: .int .i64 0 :: .int .i64 0 :: .int .i64 0 :: .int .i64 0 :: .int .i64 0 :: .int .i64 0 :: .string ⟨#[]⟩ :: .string ⟨#[]⟩ :: .slice none 0 0 :: .int .i64 rc :: .int .i64 rn :: .int .i64 rk :: .int .i64 ro :: .int .i64 rh :: .int .i64 rg :: .slice a0 rpt.length cp0 :: .slice a1 rrs.length cp1 :: []) 44) := ((((((((XA.out.store 30 (.int .i64 rc)).store 31 (.int .i64 rn)).store 32 (.int .i64 rk)).store 33 (.int .i64 ro)).store 34 (.int .i64 rh)).store 35 (.int .i64 rg)).store 36 (.slice a0 rpt.length cp0)).store 37 (.slice a1 rrs.length cp1))
 have KK : Hid (Keeps (fun j => j = x) ua ((((((((ua.setCell ⟨x, 30, none⟩ (.int .i64 rc)).setCell ⟨x, 31, none⟩ (.int .i64 rn)).setCell ⟨x, 32, none⟩ (.int .i64 rk)).setCell ⟨x, 33, none⟩ (.int .i64 ro)).setCell ⟨x, 34, none⟩ (.int .i64 rh)).setCell ⟨x, 35, none⟩ (.int .i64 rg)).setCell ⟨x, 36, none⟩ (.slice a0 rpt.length cp0)).setCell ⟨x, 37, none⟩ (.slice a1 rrs.length cp1))) := (((((((((Keeps.refl (fun j => j = x) ua).trans (Keeps.setCell (fun j => j = x) _ ⟨x, 30, none⟩ (.int .i64 rc) rfl)).trans (Keeps.setCell (fun j => j = x) _ ⟨x, 31, none⟩ (.int .i64 rn) rfl)).trans (Keeps.setCell (fun j => j = x) _ ⟨x, 32, none⟩ (.int .i64 rk) rfl)).trans (Keeps.setCell (fun j => j = x) _ ⟨x, 33, none⟩ (.int .i64 ro) rfl)).trans (Keeps.setCell (fun j => j = x) _ ⟨x, 34, none⟩ (.int .i64 rh) rfl)).trans (Keeps.setCell (fun j => j = x) _ ⟨x, 35, none⟩ (.int .i64 rg) rfl)).trans (Keeps.setCell (fun j => j = x) _ ⟨x, 36, none⟩ (.slice a0 rpt.length cp0) rfl)).trans (Keeps.setCell (fun j => j = x) _ ⟨x, 37, none⟩ (.slice a1 rrs.length cp1) rfl))
 go_upto_region 25 with (fail)
 generalize ((((((((ua.setCell ⟨x, 30, none⟩ (.int .i64 rc)).setCell ⟨x, 31, none⟩ (.int .i64 rn)).setCell ⟨x, 32, none⟩ (.int .i64 rk)).setCell ⟨x, 33, none⟩ (.int .i64 ro)).setCell ⟨x, 34, none⟩ (.int .i64 rh)).setCell ⟨x, 35, none⟩ (.int .i64 rg)).setCell ⟨x, 36, none⟩ (.slice a0 rpt.length cp0)).setCell ⟨x, 37, none⟩ (.slice a1 rrs.length cp1)) = u10 at *
 clear XA c30 f30 c31 f31 c32 f32 c33 f33 c34 f34 c35 f35 c36 f36 c37 f37
 have O0 := Lib.hid (ownsRow_keepsS O0.out KK.out (fun j hj e => by have := (O0.out.lt j hj).1; omega))
 have O1 := Lib.hid (ownsRow_keepsS O1.out KK.out (fun j hj e => by have := (O1.out.lt j hj).1; omega))
 clear KK
 obtain ⟨cs, hcs⟩ : ∃ cs : List Value, cs = (.int .i64 2 :: .int .i64 n1 :: .int .i64 n2 :: .int .i64 0 :: .int .i64 0 :: .int .i64 0 :: .int .i64 0 :: .int .i64 0 :: .int .i64 0 :: .slice none 0 0 :: .int .i64 0 :: .slice none 0 0 :: .int .i64 0 :: .int .i64 0 :: .int .i64 0 :: .int .i64 0 :: .int .i64 0 :: .slice none 0 0 :: .slice none 0 0 :: .int .i64 0 :: .int .i64 0 :: .int .i64 0 :: .int .i64 0 :: .int .i64 0 :: .int .i64 0 :: .int .i64 0 :: .int .i64 0 :: .string ⟨#[]⟩ :: .string ⟨#[]⟩ :: .slice none 0 0 :: .int .i64 rc :: .int .i64 rn :: .int .i64 rk :: .int .i64 ro :: .int .i64 rh :: .int .i64 rg :: .slice a0 rpt.length cp0 :: .slice a1 rrs.length cp1 :: []) := ⟨_, rfl⟩
 have HI1 : Hid ((Tryz.prog.info? 44).map (·.size) = some cs.length) := by rw [Hid, hcs]; kernel_rfl
 have HI2 : Hid ((Tryz.prog.info? 44).map (·.size) = some (cs.toArray : Array Value).size) := by rw [Hid, hcs]; kernel_rfl
 have HONE : Hid ((cs.toArray : Array Value).all (·.oneCell') = true) := by rw [Hid, hcs]; simp [Value.oneCell']
 have HSZ : Hid ((cs.toArray : Array Value).size = (cs.toArray : Array Value).size) := rfl
 have HCS := Lib.hid hcs
 rw [← hcs] at Y9
 clear hcs
 have RX := Lib.hid Y9.out.2.1.range
 have CQ : Hid (u10.heap[x]? = some (.cells cs.toArray 44 (0, 0))) := Y9.out.2.1
 have XZ := Lib.hid (Y9.out.rowed cs.toArray)
 have KR : Hid (Keeps (fun i => i = x) u10 (u10.setRow x cs.toArray)) := Keeps.row _ _ _ rfl
 have O0 := Lib.hid (ownsRow_weaken (ownsRow_keepsS O0.out KR.out (fun j hj e => by have := (O0.out.lt j hj).1; omega)) (by have := HX.out; omega : w.heap.size ≤ _))
 have O1 := Lib.hid (ownsRow_weaken (ownsRow_keepsS O1.out KR.out (fun j hj e => by have := (O1.out.lt j hj).1; omega)) (by have := HX.out; omega : w.heap.size ≤ _))
 cases ok with
 | true =>
  go_wp2_with (first
    | (refine wpList_load_mid (by rfl) _ _ (by rfl) x 0 (by rfl) cs _ RX.out Tryz.underlying44 (by rfl) HI1.out ?_)
    | (refine wpList_store_row (by rfl) _ _ _ (by rfl) x cs.toArray (by rfl) (by rfl) 44 _ CQ.out HI2.out HSZ.out HONE.out ?_))
  refine bodyPost_ret (results_cl_tmp rfl _ _ _ _ _ _ rfl XZ.out.2.1 Tryz.underlying44 rfl HI1.out) rfl ?_
  rw [HSR.out]
  refine ⟨⟨.slice none 0 0, .slice none 0 0, .slice none 0 0, .slice none 0 0, .slice none 0 0, .slice a0 rpt.length cp0, .slice a1 rrs.length cp1⟩, ?_, ⟨own_nil _ _ _ _, own_nil _ _ _ _, own_nil _ _ _ _, tab_nil _ _, own_nil _ _ _ _, O0.out, O1.out⟩, msgOk_of (by simp only [List.mem_cons, List.not_mem_nil, or_false, forall_eq_or_imp, forall_eq]; exact ⟨r0, r1, r2, ⟨by decide, by decide⟩, ⟨by decide, by decide⟩, ⟨by decide, by decide⟩, ⟨by decide, by decide⟩, ⟨by decide, by decide⟩, ⟨by decide, by decide⟩, ⟨by decide, by decide⟩⟩) ⟨Nat.zero_le _, fun x hx => by cases hx⟩ ⟨Nat.zero_le _, fun x hx => by cases hx⟩ zBat_ok zTab_ok zReq_ok hqok, XZ.out.1, XZ.out.2.2.2.2⟩
  rw [HCS.out]
  rfl
 | false =>
  go_wp2_with (first
    | (refine wpList_load_mid (by rfl) _ _ (by rfl) x 0 (by rfl) cs _ RX.out Tryz.underlying44 (by rfl) HI1.out ?_)
    | (refine wpList_store_row (by rfl) _ _ _ (by rfl) x cs.toArray (by rfl) (by rfl) 44 _ CQ.out HI2.out HSZ.out HONE.out ?_))
  refine bodyPost_ret (results_cl_tmp rfl _ _ _ _ _ _ rfl XZ.out.2.1 Tryz.underlying44 rfl HI1.out) rfl ?_
  rw [HSR.out]
  refine ⟨⟨.slice none 0 0, .slice none 0 0, .slice none 0 0, .slice none 0 0, .slice none 0 0, .slice a0 rpt.length cp0, .slice a1 rrs.length cp1⟩, ?_, ⟨own_nil _ _ _ _, own_nil _ _ _ _, own_nil _ _ _ _, tab_nil _ _, own_nil _ _ _ _, O0.out, O1.out⟩, msgOk_of (by simp only [List.mem_cons, List.not_mem_nil, or_false, forall_eq_or_imp, forall_eq]; exact ⟨r0, r1, r2, ⟨by decide, by decide⟩, ⟨by decide, by decide⟩, ⟨by decide, by decide⟩, ⟨by decide, by decide⟩, ⟨by decide, by decide⟩, ⟨by decide, by decide⟩, ⟨by decide, by decide⟩⟩) ⟨Nat.zero_le _, fun x hx => by cases hx⟩ ⟨Nat.zero_le _, fun x hx => by cases hx⟩ zBat_ok zTab_ok zReq_ok hqok, XZ.out.1, XZ.out.2.2.2.2⟩
  rw [HCS.out]
  rfl
end Go.Proofs.YtbljbdjmgogknaaGreatDoor
namespace Go.Proofs.YtbljbdjmgogknaaGreatDoor
open Go.RowKit
set_option maxRecDepth 20000 in
set_option maxHeartbeats 12800000 in
theorem wread_k3 (p : Nat) (q : Bd.St) (w : World) (h : Rd w p q) (hl : q.1.length < 4294967281) (hw : ∀ W, Kp w p W → Lw W) (hk : vN q 0 = 3) :
  Calls Tryz.prog 59 #[.pointer (some ⟨p, 0, none⟩)] w (ReadR w p (Wi.sMsg q)) := by
 have HW := Lib.hid hw
 have HN : Hid (∀ k W, Rd W p (stN q k) → Lw W → Calls Tryz.prog 92 #[.pointer (some ⟨p, 0, none⟩)] W (RdV (.int .i64 (vN q k)) W p (stN q (k + 1)))) := fun k W hr hL => int_any p (stN q k) W hr (by have := stN_len q k; omega) hL
 have I0 := Lib.hid (HN.out 0)
 have r0 : Bd.inR (vN q 0) := sInt_inR _
 have I1 := Lib.hid (HN.out 1)
 have r1 : Bd.inR (vN q 1) := sInt_inR _
 have I2 := Lib.hid (HN.out 2)
 have r2 : Bd.inR (vN q 2) := sInt_inR _
 have I3 := Lib.hid (HN.out 3)
 have r3 : Bd.inR (vN q 3) := sInt_inR _
 simp only [Nat.zero_add, Nat.reduceAdd] at I0 I1 I2 I3
 have hh : ¬ 4 ≤ vN q 0 := by omega
 have HS : Hid (Wi.sMsg q = ((⟨vN q 0, vN q 1, vN q 2, 0, 0, 0, 0, vN q 3, 0, [], 0, [], Wi.zBatch, [], Wi.zReq, Wi.zResp⟩, true), stN q 4)) := by
  rw [Hid, Wi.sMsg, sHead_lo q hh]
  unfold Wi.sTail
  dsimp only
  rw [hk]
  rfl
 rw [hk] at I0 HS r0
 clear HN hw
 try dsimp only at *
 generalize vN q 1 = n1 at *
 generalize vN q 2 = n2 at *
 generalize vN q 3 = n3 at *
 generalize stN q 4 = q4 at *
 generalize stN q 3 = q3 at *
 generalize stN q 2 = q2 at *
 generalize stN q 1 = q1 at *
 have HSR := Lib.hid HS.out
 obtain ⟨w0, hw0, X0⟩ := rx_new (q := stN q 0) h (.int .i64 0 :: .int .i64 0 :: .int .i64 0 :: .int .i64 0 :: .int .i64 0 :: .int .i64 0 :: .int .i64 0 :: .int .i64 0 :: .int .i64 0 :: .slice none 0 0 :: .int .i64 0 :: .slice none 0 0 :: .int .i64 0 :: .int .i64 0 :: .int .i64 0 :: .int .i64 0 :: .int .i64 0 :: .slice none 0 0 :: .slice none 0 0 :: .int .i64 0 :: .int .i64 0 :: .int .i64 0 :: .int .i64 0 :: .int .i64 0 :: .int .i64 0 :: .int .i64 0 :: .int .i64 0 :: .string ⟨#[]⟩ :: .string ⟨#[]⟩ :: .slice none 0 0 :: .int .i64 0 :: .int .i64 0 :: .int .i64 0 :: .int .i64 0 :: .int .i64 0 :: .int .i64 0 :: .slice none 0 0 :: .slice none 0 0 :: []) 44
 have HW0 := Lib.hid hw0
 clear hw0
 have hpl := h.lt
 generalize stN q 0 = q0 at *
 clear h
 go_enter Tryz.func59, Tryz.ntmps59
 go_upto_region 2 with (fail)
 rw [HW0.out]
 clear HW0
 generalize hx : w.heap.size = x at *
 have HX := Lib.hid hx
 clear hx
 go_wp2_with fail
 refine (I0.out _ X0.out.1 (HW.out _ X0.out.2.2.2.2)).mono ?_
 rintro e u1 ⟨rfl, hr⟩
 have Y2 := Lib.hid (X0.out.call hr)
 clear hr X0 I0
 go_wp2_with fail
 refine (I1.out _ Y2.out.1 (HW.out _ Y2.out.2.2.2.2)).mono ?_
 rintro e u3 ⟨rfl, hr⟩
 have Y4 := Lib.hid (Y2.out.call hr)
 clear hr Y2 I1
 go_wp2_with fail
 refine (I2.out _ Y4.out.1 (HW.out _ Y4.out.2.2.2.2)).mono ?_
 rintro e u5 ⟨rfl, hr⟩
 have Y6 := Lib.hid (Y4.out.call hr)
 clear hr Y4 I2
 have c0 := Y6.out.2.1.cell 0
 have f0 := Y6.out.2.1.free 0
 have c1 := Y6.out.2.1.cell 1
 have f1 := Y6.out.2.1.free 1
 have c2 := Y6.out.2.1.cell 2
 have f2 := Y6.out.2.1.free 2
 simp only [List.getElem?_cons_zero, List.getElem?_cons_succ] at c0 c1 c2
 have Y7 : Hid (Rx w p x (((u5.setCell ⟨x, 0, none⟩ (.int .i64 3)).setCell ⟨x, 1, none⟩ (.int .i64 n1)).setCell ⟨x, 2, none⟩ (.int .i64 n2)) q3 (.int .i64 3 :: .int .i64 n1 :: .int .i64 n2 :: .int .i64 0 :: .int .i64 0 :: .int .i64 0 :: .int .i64 0 :: .int .i64 0 :: .int .i64 0 :: .slice none 0 0 :: .int .i64 0 :: .slice none 0 0 :: .int .i64 0 :: .int .i64 0 :: .int .i64 0 :: .int .i64 0 :: .int .i64 0 :: .slice none 0 0 :: .slice none 0 0 :: .int .i64 0 :: .int .i64 0 :: .int .i64 0 :: .int .i64 0 :: .int .i64 0 :: .int .i64 0 :: .int .i64 0 :: .int .i64 0 :: .string ⟨#[]⟩ :: .string ⟨#[]⟩ :: .slice none 0 0 :: .int .i64 0 :: .int .i64 0 :: .int .i64 0 :: .int .i64 0 :: .int .i64 0 :: .int .i64 0 :: .slice none 0 0 :: .slice none 0 0 :: []) 44) := (((Y6.out.store 0 (.int .i64 3)).store 1 (.int .i64 n1)).store 2 (.int .i64 n2))
 go_upto_region 3 with (fail)
 generalize (((u5.setCell ⟨x, 0, none⟩ (.int .i64 3)).setCell ⟨x, 1, none⟩ (.int .i64 n1)).setCell ⟨x, 2, none⟩ (.int .i64 n2)) = u8 at *
 clear Y6 c0 f0 c1 f1 c2 f2
 have c0 := Y7.out.2.1.cell 0
 simp only [List.getElem?_cons_zero, List.getElem?_cons_succ] at c0
 go_wp2_with fail
 refine (I3.out _ Y7.out.1 (HW.out _ Y7.out.2.2.2.2)).mono ?_
 rintro e u9 ⟨rfl, hr⟩
 have Y10 := Lib.hid (Y7.out.call hr)
 clear hr Y7 I3
 clear c0
 have c7 := Y10.out.2.1.cell 7
 have f7 := Y10.out.2.1.free 7
 simp only [List.getElem?_cons_zero, List.getElem?_cons_succ] at c7
 have Y11 : Hid (Rx w p x (u9.setCell ⟨x, 7, none⟩ (.int .i64 n3)) q4 (.int .i64 3 :: .int .i64 n1 :: .int .i64 n2 :: .int .i64 0 :: .int .i64 0 :: .int .i64 0 :: .int .i64 0 :: .int .i64 n3 :: .int .i64 0 :: .slice none 0 0 :: .int .i64 0 :: .slice none 0 0 :: .int .i64 0 :: .int .i64 0 :: .int .i64 0 :: .int .i64 0 :: .int .i64 0 :: .slice none 0 0 :: .slice none 0 0 :: .int .i64 0 :: .int .i64 0 :: .int .i64 0 :: .int .i64 0 :: .int .i64 0 :: .int .i64 0 :: .int .i64 0 :: .int .i64 0 :: .string ⟨#[]⟩ :: .string ⟨#[]⟩ :: .slice none 0 0 :: .int .i64 0 :: .int .i64 0 :: .int .i64 0 :: .int .i64 0 :: .int .i64 0 :: .int .i64 0 :: .slice none 0 0 :: .slice none 0 0 :: []) 44) := (Y10.out.store 7 (.int .i64 n3))
 go_upto_region 25 with (fail)
 generalize (u9.setCell ⟨x, 7, none⟩ (.int .i64 n3)) = u12 at *
 clear Y10 c7 f7
 obtain ⟨cs, hcs⟩ : ∃ cs : List Value, cs = (.int .i64 3 :: .int .i64 n1 :: .int .i64 n2 :: .int .i64 0 :: .int .i64 0 :: .int .i64 0 :: .int .i64 0 :: .int .i64 n3 :: .int .i64 0 :: .slice none 0 0 :: .int .i64 0 :: .slice none 0 0 :: .int .i64 0 :: .int .i64 0 :: .int .i64 0 :: .int .i64 0 :: .int .i64 0 :: .slice none 0 0 :: .slice none 0 0 :: .int .i64 0 :: .int .i64 0 :: .int .i64 0 :: .int .i64 0 :: .int .i64 0 :: .int .i64 0 :: .int .i64 0 :: .int .i64 0 :: .string ⟨#[]⟩ :: .string ⟨#[]⟩ :: .slice none 0 0 :: .int .i64 0 :: .int .i64 0 :: .int .i64 0 :: .int .i64 0 :: .int .i64 0 :: .int .i64 0 :: .slice none 0 0 :: .slice none 0 0 :: []) := ⟨_, rfl⟩
 have HI1 : Hid ((Tryz.prog.info? 44).map (·.size) = some cs.length) := by rw [Hid, hcs]; kernel_rfl
 have HI2 : Hid ((Tryz.prog.info? 44).map (·.size) = some (cs.toArray : Array Value).size) := by rw [Hid, hcs]; kernel_rfl
 have HONE : Hid ((cs.toArray : Array Value).all (·.oneCell') = true) := by rw [Hid, hcs]; simp [Value.oneCell']
 have HSZ : Hid ((cs.toArray : Array Value).size = (cs.toArray : Array Value).size) := rfl
 have HCS := Lib.hid hcs
 rw [← hcs] at Y11
 clear hcs
 have RX := Lib.hid Y11.out.2.1.range
 have CQ : Hid (u12.heap[x]? = some (.cells cs.toArray 44 (0, 0))) := Y11.out.2.1
 have XZ := Lib.hid (Y11.out.rowed cs.toArray)
 have KR : Hid (Keeps (fun i => i = x) u12 (u12.setRow x cs.toArray)) := Keeps.row _ _ _ rfl
 go_wp2_with (first
   | (refine wpList_load_mid (by rfl) _ _ (by rfl) x 0 (by rfl) cs _ RX.out Tryz.underlying44 (by rfl) HI1.out ?_)
   | (refine wpList_store_row (by rfl) _ _ _ (by rfl) x cs.toArray (by rfl) (by rfl) 44 _ CQ.out HI2.out HSZ.out HONE.out ?_))
 refine bodyPost_ret (results_cl_tmp rfl _ _ _ _ _ _ rfl XZ.out.2.1 Tryz.underlying44 rfl HI1.out) rfl ?_
 rw [HSR.out]
 refine ⟨⟨.slice none 0 0, .slice none 0 0, .slice none 0 0, .slice none 0 0, .slice none 0 0, .slice none 0 0, .slice none 0 0⟩, ?_, ⟨own_nil _ _ _ _, own_nil _ _ _ _, own_nil _ _ _ _, tab_nil _ _, own_nil _ _ _ _, own_nil _ _ _ _, own_nil _ _ _ _⟩, msgOk_of (by simp only [List.mem_cons, List.not_mem_nil, or_false, forall_eq_or_imp, forall_eq]; exact ⟨r0, r1, r2, ⟨by decide, by decide⟩, ⟨by decide, by decide⟩, ⟨by decide, by decide⟩, ⟨by decide, by decide⟩, r3, ⟨by decide, by decide⟩, ⟨by decide, by decide⟩⟩) ⟨Nat.zero_le _, fun x hx => by cases hx⟩ ⟨Nat.zero_le _, fun x hx => by cases hx⟩ zBat_ok zTab_ok zReq_ok zResp_ok, XZ.out.1, XZ.out.2.2.2.2⟩
 rw [HCS.out]
 rfl
end Go.Proofs.YtbljbdjmgogknaaGreatDoor
namespace Go.Proofs.YtbljbdjmgogknaaGreatDoor
open Go.RowKit
set_option maxRecDepth 20000 in
set_option maxHeartbeats 12800000 in
theorem wread_k4 (p : Nat) (q : Bd.St) (w : World) (h : Rd w p q) (hl : q.1.length < 4294967281) (hw : ∀ W, Kp w p W → Lw W) (hk : vN q 0 = 4) :
  Calls Tryz.prog 59 #[.pointer (some ⟨p, 0, none⟩)] w (ReadR w p (Wi.sMsg q)) := by
 have HW := Lib.hid hw
 have HN : Hid (∀ k W, Rd W p (stN q k) → Lw W → Calls Tryz.prog 92 #[.pointer (some ⟨p, 0, none⟩)] W (RdV (.int .i64 (vN q k)) W p (stN q (k + 1)))) := fun k W hr hL => int_any p (stN q k) W hr (by have := stN_len q k; omega) hL
 have I0 := Lib.hid (HN.out 0)
 have r0 : Bd.inR (vN q 0) := sInt_inR _
 have I1 := Lib.hid (HN.out 1)
 have r1 : Bd.inR (vN q 1) := sInt_inR _
 have I2 := Lib.hid (HN.out 2)
 have r2 : Bd.inR (vN q 2) := sInt_inR _
 have I3 := Lib.hid (HN.out 3)
 have r3 : Bd.inR (vN q 3) := sInt_inR _
 have I4 := Lib.hid (HN.out 4)
 have r4 : Bd.inR (vN q 4) := sInt_inR _
 simp only [Nat.zero_add, Nat.reduceAdd] at I0 I1 I2 I3 I4
 have hlz := stN_len q 5
 have HTL := Lib.hid (fun W (hR : Rd W p (stN q 5)) (hL : ∀ W', Kp W p W' → Lw W') => readPlace_any p (stN q 5) W hR (by omega) hL)
 have hqok := sPlace_ok (stN q 5) (by omega)
 have hh : 4 ≤ vN q 0 := by omega
 have HS : Hid (Wi.sMsg q = ((⟨vN q 0, vN q 1, vN q 2, vN q 3, vN q 4, 0, 0, 0, (Wi.sPlace (stN q 5)).1.1.1, (Wi.sPlace (stN q 5)).1.1.2.1, (Wi.sPlace (stN q 5)).1.1.2.2.1, (Wi.sPlace (stN q 5)).1.1.2.2.2, Wi.zBatch, [], Wi.zReq, Wi.zResp⟩, (Wi.sPlace (stN q 5)).1.2), (Wi.sPlace (stN q 5)).2)) := by
  rw [Hid, Wi.sMsg, sHead_hi q hh]
  unfold Wi.sTail
  dsimp only
  rw [hk]
  rfl
 rw [hk] at I0 HS r0
 generalize hz : Wi.sPlace (stN q 5) = zz at *
 clear hz
 obtain ⟨⟨⟨pe, pch, pl, plv⟩, ok⟩, qz⟩ := zz
 clear HN hw
 try dsimp only at *
 generalize vN q 1 = n1 at *
 generalize vN q 2 = n2 at *
 generalize vN q 3 = n3 at *
 generalize vN q 4 = n4 at *
 generalize stN q 5 = q5 at *
 generalize stN q 4 = q4 at *
 generalize stN q 3 = q3 at *
 generalize stN q 2 = q2 at *
 generalize stN q 1 = q1 at *
 have HSR := Lib.hid HS.out
 obtain ⟨w0, hw0, X0⟩ := rx_new (q := stN q 0) h (.int .i64 0 :: .int .i64 0 :: .int .i64 0 :: .int .i64 0 :: .int .i64 0 :: .int .i64 0 :: .int .i64 0 :: .int .i64 0 :: .int .i64 0 :: .slice none 0 0 :: .int .i64 0 :: .slice none 0 0 :: .int .i64 0 :: .int .i64 0 :: .int .i64 0 :: .int .i64 0 :: .int .i64 0 :: .slice none 0 0 :: .slice none 0 0 :: .int .i64 0 :: .int .i64 0 :: .int .i64 0 :: .int .i64 0 :: .int .i64 0 :: .int .i64 0 :: .int .i64 0 :: .int .i64 0 :: .string ⟨#[]⟩ :: .string ⟨#[]⟩ :: .slice none 0 0 :: .int .i64 0 :: .int .i64 0 :: .int .i64 0 :: .int .i64 0 :: .int .i64 0 :: .int .i64 0 :: .slice none 0 0 :: .slice none 0 0 :: []) 44
 have HW0 := Lib.hid hw0
 clear hw0
 have hpl := h.lt
 generalize stN q 0 = q0 at *
 clear h
 go_enter Tryz.func59, Tryz.ntmps59
 go_upto_region 2 with (fail)
 rw [HW0.out]
 clear HW0
 generalize hx : w.heap.size = x at *
 have HX := Lib.hid hx
 clear hx
 go_wp2_with fail
 refine (I0.out _ X0.out.1 (HW.out _ X0.out.2.2.2.2)).mono ?_
 rintro e u1 ⟨rfl, hr⟩
 have Y2 := Lib.hid (X0.out.call hr)
 clear hr X0 I0
 go_wp2_with fail
 refine (I1.out _ Y2.out.1 (HW.out _ Y2.out.2.2.2.2)).mono ?_
 rintro e u3 ⟨rfl, hr⟩
 have Y4 := Lib.hid (Y2.out.call hr)
 clear hr Y2 I1
 go_wp2_with fail
 refine (I2.out _ Y4.out.1 (HW.out _ Y4.out.2.2.2.2)).mono ?_
 rintro e u5 ⟨rfl, hr⟩
 have Y6 := Lib.hid (Y4.out.call hr)
 clear hr Y4 I2
 have c0 := Y6.out.2.1.cell 0
 have f0 := Y6.out.2.1.free 0
 have c1 := Y6.out.2.1.cell 1
 have f1 := Y6.out.2.1.free 1
 have c2 := Y6.out.2.1.cell 2
 have f2 := Y6.out.2.1.free 2
 simp only [List.getElem?_cons_zero, List.getElem?_cons_succ] at c0 c1 c2
 have Y7 : Hid (Rx w p x (((u5.setCell ⟨x, 0, none⟩ (.int .i64 4)).setCell ⟨x, 1, none⟩ (.int .i64 n1)).setCell ⟨x, 2, none⟩ (.int .i64 n2)) q3 (.int .i64 4 :: .int .i64 n1 :: .int .i64 n2 :: .int .i64 0 :: .int .i64 0 :: .int .i64 0 :: .int .i64 0 :: .int .i64 0 :: .int .i64 0 :: .slice none 0 0 :: .int .i64 0 :: .slice none 0 0 :: .int .i64 0 :: .int .i64 0 :: .int .i64 0 :: .int .i64 0 :: .int .i64 0 :: .slice none 0 0 :: .slice none 0 0 :: .int .i64 0 :: .int .i64 0 :: .int .i64 0 :: .int .i64 0 :: .int .i64 0 :: .int .i64 0 :: .int .i64 0 :: .int .i64 0 :: .string ⟨#[]⟩ :: .string ⟨#[]⟩ :: .slice none 0 0 :: .int .i64 0 :: .int .i64 0 :: .int .i64 0 :: .int .i64 0 :: .int .i64 0 :: .int .i64 0 :: .slice none 0 0 :: .slice none 0 0 :: []) 44) := (((Y6.out.store 0 (.int .i64 4)).store 1 (.int .i64 n1)).store 2 (.int .i64 n2))
 go_upto_region 3 with (fail)
 generalize (((u5.setCell ⟨x, 0, none⟩ (.int .i64 4)).setCell ⟨x, 1, none⟩ (.int .i64 n1)).setCell ⟨x, 2, none⟩ (.int .i64 n2)) = u8 at *
 clear Y6 c0 f0 c1 f1 c2 f2
 have c0 := Y7.out.2.1.cell 0
 simp only [List.getElem?_cons_zero, List.getElem?_cons_succ] at c0
 go_wp2_with fail
 refine (I3.out _ Y7.out.1 (HW.out _ Y7.out.2.2.2.2)).mono ?_
 rintro e u9 ⟨rfl, hr⟩
 have Y10 := Lib.hid (Y7.out.call hr)
 clear hr Y7 I3
 clear c0
 go_wp2_with fail
 refine (I4.out _ Y10.out.1 (HW.out _ Y10.out.2.2.2.2)).mono ?_
 rintro e u11 ⟨rfl, hr⟩
 have Y12 := Lib.hid (Y10.out.call hr)
 clear hr Y10 I4
 have c3 := Y12.out.2.1.cell 3
 have f3 := Y12.out.2.1.free 3
 have c4 := Y12.out.2.1.cell 4
 have f4 := Y12.out.2.1.free 4
 simp only [List.getElem?_cons_zero, List.getElem?_cons_succ] at c3 c4
 have Y13 : Hid (Rx w p x ((u11.setCell ⟨x, 3, none⟩ (.int .i64 n3)).setCell ⟨x, 4, none⟩ (.int .i64 n4)) q5 (.int .i64 4 :: .int .i64 n1 :: .int .i64 n2 :: .int .i64 n3 :: .int .i64 n4 :: .int .i64 0 :: .int .i64 0 :: .int .i64 0 :: .int .i64 0 :: .slice none 0 0 :: .int .i64 0 :: .slice none 0 0 :: .int .i64 0 :: .int .i64 0 :: .int .i64 0 :: .int .i64 0 :: .int .i64 0 :: .slice none 0 0 :: .slice none 0 0 :: .int .i64 0 :: .int .i64 0 :: .int .i64 0 :: .int .i64 0 :: .int .i64 0 :: .int .i64 0 :: .int .i64 0 :: .int .i64 0 :: .string ⟨#[]⟩ :: .string ⟨#[]⟩ :: .slice none 0 0 :: .int .i64 0 :: .int .i64 0 :: .int .i64 0 :: .int .i64 0 :: .int .i64 0 :: .int .i64 0 :: .slice none 0 0 :: .slice none 0 0 :: []) 44) := ((Y12.out.store 3 (.int .i64 n3)).store 4 (.int .i64 n4))
 go_upto_region 5 with (fail)
 generalize ((u11.setCell ⟨x, 3, none⟩ (.int .i64 n3)).setCell ⟨x, 4, none⟩ (.int .i64 n4)) = u14 at *
 clear Y12 c3 f3 c4 f4
 have c0 := Y13.out.2.1.cell 0
 simp only [List.getElem?_cons_zero, List.getElem?_cons_succ] at c0
 go_wp2_with fail
 refine (HTL.out _ Y13.out.1 (fun W' k => HW.out _ (Y13.out.2.2.2.2.trans k))).mono ?_
 rintro e ua ⟨cv, lv, rfl, ho0, ho1, hr, hk9⟩
 have XA := Lib.hid (Y13.out.own hr hk9)
 have hxl := Y13.out.2.1.lt
 have hbs : x ≤ u14.heap.size := by have := Y13.out.2.2.2.2.size; have := HX.out; omega
 have O0 := Lib.hid ho0
 obtain ⟨a0, cp0, he0⟩ := own_form ho0
 subst he0
 have O1 := Lib.hid ho1
 obtain ⟨a1, cp1, he1⟩ := own_form ho1
 subst he1
 clear hr hk9 HTL Y13 c0 ho0 ho1
 have c8 := XA.out.2.1.cell 8
 have f8 := XA.out.2.1.free 8
 have c9 := XA.out.2.1.cell 9
 have f9 := XA.out.2.1.free 9
 have c10 := XA.out.2.1.cell 10
 have f10 := XA.out.2.1.free 10
 have c11 := XA.out.2.1.cell 11
 have f11 := XA.out.2.1.free 11
 simp only [List.getElem?_cons_zero, List.getElem?_cons_succ] at c8 c9 c10 c11
 have Y15 : Hid (Rx w p x ((((ua.setCell ⟨x, 8, none⟩ (.int .i64 pe)).setCell ⟨x, 9, none⟩ (.slice a0 pch.length cp0)).setCell ⟨x, 10, none⟩ (.int .i64 pl)).setCell ⟨x, 11, none⟩ (.slice a1 plv.length cp1)) qz (.int .i64 4 :: .int .i64 n1 :: .int .i64 n2 :: .int .i64 n3 :: .int .i64 n4 :: .int .i64 0 :: .int .i64 0 :: .int .i64 0 :: .int .i64 pe :: .slice a0 pch.length cp0 :: .int .i64 pl :: .slice a1 plv.length cp1 :: .int .i64 0 :: .int .i64 0 :: .int .i64 0 :: .int .i64 0 :: .int .i64 0 :: .slice none 0 0 :: .slice none 0 0 :: .int .i64 0 :: .int .i64 0 :: .int .i64 0 :: .int .i64 0 :: .int .i64 0 :: .int .i64 0 :: .int .i64 0 :: .int .i64 0 :: .string ⟨#[]⟩ :: .string ⟨#[]⟩ :: .slice none 0 0 :: .int .i64 0 :: .int .i64 0 :: .int .i64 0 :: .int .i64 0 :: .int .i64 0 :: .int .i64 0 :: .slice none 0 0 :: .slice none 0 0 :: []) 44) := ((((XA.out.store 8 (.int .i64 pe)).store 9 (.slice a0 pch.length cp0)).store 10 (.int .i64 pl)).store 11 (.slice a1 plv.length cp1))
 have KK : Hid (Keeps (fun j => j = x) ua ((((ua.setCell ⟨x, 8, none⟩ (.int .i64 pe)).setCell ⟨x, 9, none⟩ (.slice a0 pch.length cp0)).setCell ⟨x, 10, none⟩ (.int .i64 pl)).setCell ⟨x, 11, none⟩ (.slice a1 plv.length cp1))) := (((((Keeps.refl (fun j => j = x) ua).trans (Keeps.setCell (fun j => j = x) _ ⟨x, 8, none⟩ (.int .i64 pe) rfl)).trans (Keeps.setCell (fun j => j = x) _ ⟨x, 9, none⟩ (.slice a0 pch.length cp0) rfl)).trans (Keeps.setCell (fun j => j = x) _ ⟨x, 10, none⟩ (.int .i64 pl) rfl)).trans (Keeps.setCell (fun j => j = x) _ ⟨x, 11, none⟩ (.slice a1 plv.length cp1) rfl))
 go_upto_region 25 with (fail)
 generalize ((((ua.setCell ⟨x, 8, none⟩ (.int .i64 pe)).setCell ⟨x, 9, none⟩ (.slice a0 pch.length cp0)).setCell ⟨x, 10, none⟩ (.int .i64 pl)).setCell ⟨x, 11, none⟩ (.slice a1 plv.length cp1)) = u16 at *
 clear XA c8 f8 c9 f9 c10 f10 c11 f11
 have O0 := Lib.hid (ownsRow_keepsS O0.out KK.out (fun j hj e => by have := (O0.out.lt j hj).1; omega))
 have O1 := Lib.hid (ownsRow_keepsS O1.out KK.out (fun j hj e => by have := (O1.out.lt j hj).1; omega))
 clear KK
 obtain ⟨cs, hcs⟩ : ∃ cs : List Value, cs = (.int .i64 4 :: .int .i64 n1 :: .int .i64 n2 :: .int .i64 n3 :: .int .i64 n4 :: .int .i64 0 :: .int .i64 0 :: .int .i64 0 :: .int .i64 pe :: .slice a0 pch.length cp0 :: .int .i64 pl :: .slice a1 plv.length cp1 :: .int .i64 0 :: .int .i64 0 :: .int .i64 0 :: .int .i64 0 :: .int .i64 0 :: .slice none 0 0 :: .slice none 0 0 :: .int .i64 0 :: .int .i64 0 :: .int .i64 0 :: .int .i64 0 :: .int .i64 0 :: .int .i64 0 :: .int .i64 0 :: .int .i64 0 :: .string ⟨#[]⟩ :: .string ⟨#[]⟩ :: .slice none 0 0 :: .int .i64 0 :: .int .i64 0 :: .int .i64 0 :: .int .i64 0 :: .int .i64 0 :: .int .i64 0 :: .slice none 0 0 :: .slice none 0 0 :: []) := ⟨_, rfl⟩
 have HI1 : Hid ((Tryz.prog.info? 44).map (·.size) = some cs.length) := by rw [Hid, hcs]; kernel_rfl
 have HI2 : Hid ((Tryz.prog.info? 44).map (·.size) = some (cs.toArray : Array Value).size) := by rw [Hid, hcs]; kernel_rfl
 have HONE : Hid ((cs.toArray : Array Value).all (·.oneCell') = true) := by rw [Hid, hcs]; simp [Value.oneCell']
 have HSZ : Hid ((cs.toArray : Array Value).size = (cs.toArray : Array Value).size) := rfl
 have HCS := Lib.hid hcs
 rw [← hcs] at Y15
 clear hcs
 have RX := Lib.hid Y15.out.2.1.range
 have CQ : Hid (u16.heap[x]? = some (.cells cs.toArray 44 (0, 0))) := Y15.out.2.1
 have XZ := Lib.hid (Y15.out.rowed cs.toArray)
 have KR : Hid (Keeps (fun i => i = x) u16 (u16.setRow x cs.toArray)) := Keeps.row _ _ _ rfl
 have O0 := Lib.hid (ownsRow_weaken (ownsRow_keepsS O0.out KR.out (fun j hj e => by have := (O0.out.lt j hj).1; omega)) (by have := HX.out; omega : w.heap.size ≤ _))
 have O1 := Lib.hid (ownsRow_weaken (ownsRow_keepsS O1.out KR.out (fun j hj e => by have := (O1.out.lt j hj).1; omega)) (by have := HX.out; omega : w.heap.size ≤ _))
 cases ok with
 | true =>
  go_wp2_with (first
    | (refine wpList_load_mid (by rfl) _ _ (by rfl) x 0 (by rfl) cs _ RX.out Tryz.underlying44 (by rfl) HI1.out ?_)
    | (refine wpList_store_row (by rfl) _ _ _ (by rfl) x cs.toArray (by rfl) (by rfl) 44 _ CQ.out HI2.out HSZ.out HONE.out ?_))
  refine bodyPost_ret (results_cl_tmp rfl _ _ _ _ _ _ rfl XZ.out.2.1 Tryz.underlying44 rfl HI1.out) rfl ?_
  rw [HSR.out]
  refine ⟨⟨.slice a0 pch.length cp0, .slice a1 plv.length cp1, .slice none 0 0, .slice none 0 0, .slice none 0 0, .slice none 0 0, .slice none 0 0⟩, ?_, ⟨O0.out, O1.out, own_nil _ _ _ _, tab_nil _ _, own_nil _ _ _ _, own_nil _ _ _ _, own_nil _ _ _ _⟩, msgOk_of (by simp only [List.mem_cons, List.not_mem_nil, or_false, forall_eq_or_imp, forall_eq]; exact ⟨r0, r1, r2, r3, r4, ⟨by decide, by decide⟩, ⟨by decide, by decide⟩, ⟨by decide, by decide⟩, hqok.1, hqok.2.2.1⟩) hqok.2.1 hqok.2.2.2 zBat_ok zTab_ok zReq_ok zResp_ok, XZ.out.1, XZ.out.2.2.2.2⟩
  rw [HCS.out]
  rfl
 | false =>
  go_wp2_with (first
    | (refine wpList_load_mid (by rfl) _ _ (by rfl) x 0 (by rfl) cs _ RX.out Tryz.underlying44 (by rfl) HI1.out ?_)
    | (refine wpList_store_row (by rfl) _ _ _ (by rfl) x cs.toArray (by rfl) (by rfl) 44 _ CQ.out HI2.out HSZ.out HONE.out ?_))
  refine bodyPost_ret (results_cl_tmp rfl _ _ _ _ _ _ rfl XZ.out.2.1 Tryz.underlying44 rfl HI1.out) rfl ?_
  rw [HSR.out]
  refine ⟨⟨.slice a0 pch.length cp0, .slice a1 plv.length cp1, .slice none 0 0, .slice none 0 0, .slice none 0 0, .slice none 0 0, .slice none 0 0⟩, ?_, ⟨O0.out, O1.out, own_nil _ _ _ _, tab_nil _ _, own_nil _ _ _ _, own_nil _ _ _ _, own_nil _ _ _ _⟩, msgOk_of (by simp only [List.mem_cons, List.not_mem_nil, or_false, forall_eq_or_imp, forall_eq]; exact ⟨r0, r1, r2, r3, r4, ⟨by decide, by decide⟩, ⟨by decide, by decide⟩, ⟨by decide, by decide⟩, hqok.1, hqok.2.2.1⟩) hqok.2.1 hqok.2.2.2 zBat_ok zTab_ok zReq_ok zResp_ok, XZ.out.1, XZ.out.2.2.2.2⟩
  rw [HCS.out]
  rfl
end Go.Proofs.YtbljbdjmgogknaaGreatDoor
