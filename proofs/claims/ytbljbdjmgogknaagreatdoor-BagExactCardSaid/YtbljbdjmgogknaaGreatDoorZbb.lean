/-
  Wn4 / Wn5 / Wn6 / Wn7: texts of one proof, one behind the other.
  Conditions: none of its own.
-/
import Derived.Test.YtbljbdjmgogknaaGreatDoorZba
set_option linter.unusedVariables false
set_option linter.unusedSimpArgs false
set_option maxHeartbeats 12800000
set_option maxRecDepth 20000
namespace Go.Proofs.YtbljbdjmgogknaaGreatDoor
open Go.RowKit
theorem wread_k4 (p : Nat) (q : Bd.St) (w : World) (h : Rd w p q) (hl : q.1.length < 4294967281) (hw : ∀ W,Kp w p W → Lw W) (hk : vN q 0 = 4) :
  Calls Tryz.prog 59 #[.pointer (some ⟨p,0,none⟩)] w (ReadR w p (Wi.sMsg q)) := by
 have HW := hq' hw
 have HN : Hid (∀ k W,Rd W p (stN q k) → Lw W → Calls Tryz.prog 92 #[.pointer (some ⟨p,0,none⟩)] W (RdV (.int .i64 (vN q k)) W p (stN q (k + 1)))) := fun k W hr hL => int_any p (stN q k) W hr (by have := stN_len q k; omega) hL
 have I0 := hq' (HN.out 0)
 have r0 : Bd.inR (vN q 0) := sInt_inR _
 have I1 := hq' (HN.out 1)
 have r1 : Bd.inR (vN q 1) := sInt_inR _
 have I2 := hq' (HN.out 2)
 have r2 : Bd.inR (vN q 2) := sInt_inR _
 have I3 := hq' (HN.out 3)
 have r3 : Bd.inR (vN q 3) := sInt_inR _
 have I4 := hq' (HN.out 4)
 have r4 : Bd.inR (vN q 4) := sInt_inR _
 simp only [Nat.zero_add,Nat.reduceAdd] at I0 I1 I2 I3 I4
 have hlz := stN_len q 5
 have HTL := hq' (fun W (hR : Rd W p (stN q 5)) (hL : ∀ W',Kp W p W' → Lw W') => readPlace_any p (stN q 5) W hR (by omega) hL)
 have hqok := sPlace_ok (stN q 5) (by omega)
 have hh : 4 ≤ vN q 0 := by omega
 have HS : Hid (Wi.sMsg q = ((⟨vN q 0,vN q 1,vN q 2,vN q 3,vN q 4,0,0,0,(Wi.sPlace (stN q 5)).1.1.1,(Wi.sPlace (stN q 5)).1.1.2.1,(Wi.sPlace (stN q 5)).1.1.2.2.1,(Wi.sPlace (stN q 5)).1.1.2.2.2,Wi.zBatch,[],Wi.zReq,Wi.zResp⟩,(Wi.sPlace (stN q 5)).1.2),(Wi.sPlace (stN q 5)).2)) := by
  rw [Hid,Wi.sMsg,sHead_hi q hh]
  unfold Wi.sTail
  dsimp only
  rw [hk]
  rfl
 rw [hk] at I0 HS r0
 generalize hz : Wi.sPlace (stN q 5) = zz at *
 clear hz
 obtain ⟨⟨⟨pe,pch,pl,plv⟩,ok⟩,qz⟩ := zz
 clear HN hw
 try dsimp only at *
 generalize vN q 1 = n1 at *
 generalize vN q 2 = n2 at *
 generalize vN q 3 = n3 at *
 generalize vN q 4 = n4 at *
 generalize stN q 5 = q5 at *
 generalize stN q 4 = q4 at *
 generalize stN q 3 = q3 at *
 generalize stN q 2 = q2 at *
 generalize stN q 1 = q1 at *
 have HSR := hq' HS.out
 obtain ⟨w0,hw0,X0⟩ := rx_new (q := stN q 0) h (zt0) 44
 have HW0 := hq' hw0
 clear hw0
 have hpl := h.lt
 generalize stN q 0 = q0 at *
 clear h
 go_enter Tryz.func59,Tryz.ntmps59
 go_upto_region 2 with (fail)
 rw [HW0.out]
 clear HW0
 generalize hx : w.heap.size = x at *
 have HX := hq' hx
 clear hx
 go_wp2_with fail
 refine (I0.out _ X0.out.1 (HW.out _ X0.out.2.2.2.2)).mono ?_
 rintro e u1 ⟨rfl,hr⟩
 have Y2 := hq' (X0.out.call hr)
 clear hr X0 I0
 go_wp2_with fail
 refine (I1.out _ Y2.out.1 (HW.out _ Y2.out.2.2.2.2)).mono ?_
 rintro e u3 ⟨rfl,hr⟩
 have Y4 := hq' (Y2.out.call hr)
 clear hr Y2 I1
 go_wp2_with fail
 refine (I2.out _ Y4.out.1 (HW.out _ Y4.out.2.2.2.2)).mono ?_
 rintro e u5 ⟨rfl,hr⟩
 have Y6 := hq' (Y4.out.call hr)
 clear hr Y4 I2
 have c0 := Y6.out.2.1.cell 0
 have f0 := Y6.out.2.1.free 0
 have c1 := Y6.out.2.1.cell 1
 have f1 := Y6.out.2.1.free 1
 have c2 := Y6.out.2.1.cell 2
 have f2 := Y6.out.2.1.free 2
 simp only [g0',gs'] at c0 c1 c2
 have Y7 : Hid (Rx w p x (((u5.setCell ⟨x,0,none⟩ (.int .i64 4)).setCell ⟨x,1,none⟩ (.int .i64 n1)).setCell ⟨x,2,none⟩ (.int .i64 n2)) q3 (.int .i64 4::.int .i64 n1::.int .i64 n2::zt3) 44) := (((Y6.out.store 0 (.int .i64 4)).store 1 (.int .i64 n1)).store 2 (.int .i64 n2))
 go_upto_region 3 with (fail)
 generalize (((u5.setCell ⟨x,0,none⟩ (.int .i64 4)).setCell ⟨x,1,none⟩ (.int .i64 n1)).setCell ⟨x,2,none⟩ (.int .i64 n2)) = u8 at *
 clear Y6 c0 f0 c1 f1 c2 f2
 have c0 := Y7.out.2.1.cell 0
 simp only [g0',gs'] at c0
 go_wp2_with fail
 refine (I3.out _ Y7.out.1 (HW.out _ Y7.out.2.2.2.2)).mono ?_
 rintro e u9 ⟨rfl,hr⟩
 have Y10 := hq' (Y7.out.call hr)
 clear hr Y7 I3
 clear c0
 go_wp2_with fail
 refine (I4.out _ Y10.out.1 (HW.out _ Y10.out.2.2.2.2)).mono ?_
 rintro e u11 ⟨rfl,hr⟩
 have Y12 := hq' (Y10.out.call hr)
 clear hr Y10 I4
 have c3 := Y12.out.2.1.cell 3
 have f3 := Y12.out.2.1.free 3
 have c4 := Y12.out.2.1.cell 4
 have f4 := Y12.out.2.1.free 4
 simp only [g0',gs'] at c3 c4
 have Y13 : Hid (Rx w p x ((u11.setCell ⟨x,3,none⟩ (.int .i64 n3)).setCell ⟨x,4,none⟩ (.int .i64 n4)) q5 (.int .i64 4::.int .i64 n1::.int .i64 n2::.int .i64 n3::.int .i64 n4::zt5) 44) := ((Y12.out.store 3 (.int .i64 n3)).store 4 (.int .i64 n4))
 go_upto_region 5 with (fail)
 generalize ((u11.setCell ⟨x,3,none⟩ (.int .i64 n3)).setCell ⟨x,4,none⟩ (.int .i64 n4)) = u14 at *
 clear Y12 c3 f3 c4 f4
 have c0 := Y13.out.2.1.cell 0
 simp only [g0',gs'] at c0
 go_wp2_with fail
 refine (HTL.out _ Y13.out.1 (fun W' k => HW.out _ (Y13.out.2.2.2.2.trans k))).mono ?_
 rintro e ua ⟨cv,lv,rfl,ho0,ho1,hr,hk9⟩
 have XA := hq' (Y13.out.own hr hk9)
 have hxl := Y13.out.2.1.lt
 have hbs : x ≤ u14.heap.size := by have := Y13.out.2.2.2.2.size; have := HX.out; omega
 have O0 := hq' ho0
 obtain ⟨a0,cp0,he0⟩ := own_form ho0
 subst he0
 have O1 := hq' ho1
 obtain ⟨a1,cp1,he1⟩ := own_form ho1
 subst he1
 clear hr hk9 HTL Y13 c0 ho0 ho1
 have c8 := XA.out.2.1.cell 8
 have f8 := XA.out.2.1.free 8
 have c9 := XA.out.2.1.cell 9
 have f9 := XA.out.2.1.free 9
 have c10 := XA.out.2.1.cell 10
 have f10 := XA.out.2.1.free 10
 have c11 := XA.out.2.1.cell 11
 have f11 := XA.out.2.1.free 11
 simp only [g0',gs'] at c8 c9 c10 c11
 have Y15 : Hid (Rx w p x ((((ua.setCell ⟨x,8,none⟩ (.int .i64 pe)).setCell ⟨x,9,none⟩ (.slice a0 pch.length cp0)).setCell ⟨x,10,none⟩ (.int .i64 pl)).setCell ⟨x,11,none⟩ (.slice a1 plv.length cp1)) qz (.int .i64 4::.int .i64 n1::.int .i64 n2::.int .i64 n3::.int .i64 n4::.int .i64 0::.int .i64 0::.int .i64 0::.int .i64 pe::.slice a0 pch.length cp0::.int .i64 pl::.slice a1 plv.length cp1::zt12) 44) := ((((XA.out.store 8 (.int .i64 pe)).store 9 (.slice a0 pch.length cp0)).store 10 (.int .i64 pl)).store 11 (.slice a1 plv.length cp1))
 have KK : Hid (Keeps (fun j => j = x) ua ((((ua.setCell ⟨x,8,none⟩ (.int .i64 pe)).setCell ⟨x,9,none⟩ (.slice a0 pch.length cp0)).setCell ⟨x,10,none⟩ (.int .i64 pl)).setCell ⟨x,11,none⟩ (.slice a1 plv.length cp1))) := (((((Keeps.refl (fun j => j = x) ua).trans (Keeps.setCell (fun j => j = x) _ ⟨x,8,none⟩ (.int .i64 pe) rfl)).trans (Keeps.setCell (fun j => j = x) _ ⟨x,9,none⟩ (.slice a0 pch.length cp0) rfl)).trans (Keeps.setCell (fun j => j = x) _ ⟨x,10,none⟩ (.int .i64 pl) rfl)).trans (Keeps.setCell (fun j => j = x) _ ⟨x,11,none⟩ (.slice a1 plv.length cp1) rfl))
 go_upto_region 25 with (fail)
 generalize ((((ua.setCell ⟨x,8,none⟩ (.int .i64 pe)).setCell ⟨x,9,none⟩ (.slice a0 pch.length cp0)).setCell ⟨x,10,none⟩ (.int .i64 pl)).setCell ⟨x,11,none⟩ (.slice a1 plv.length cp1)) = u16 at *
 clear XA c8 f8 c9 f9 c10 f10 c11 f11
 have O0 := hq' (ownsRow_keepsS O0.out KK.out (fun j hj e => by have := (O0.out.lt j hj).1; omega))
 have O1 := hq' (ownsRow_keepsS O1.out KK.out (fun j hj e => by have := (O1.out.lt j hj).1; omega))
 clear KK
 obtain ⟨cs,hcs⟩ : ∃ cs : List Value,cs = (.int .i64 4::.int .i64 n1::.int .i64 n2::.int .i64 n3::.int .i64 n4::.int .i64 0::.int .i64 0::.int .i64 0::.int .i64 pe::.slice a0 pch.length cp0::.int .i64 pl::.slice a1 plv.length cp1::zt12) := ⟨_,rfl⟩
 have HI1 : Hid ((Tryz.prog.info? 44).map (·.size) = some cs.length) := by rw [Hid,hcs]; kernel_rfl
 have HI2 : Hid ((Tryz.prog.info? 44).map (·.size) = some (cs.toArray : Array Value).size) := by rw [Hid,hcs]; kernel_rfl
 have HONE : Hid ((cs.toArray : Array Value).all (·.oneCell') = true) := by rw [Hid,hcs]; simp [Value.oneCell']
 have HSZ : Hid ((cs.toArray : Array Value).size = (cs.toArray : Array Value).size) := rfl
 have HCS := hq' hcs
 rw [← hcs] at Y15
 clear hcs
 have RX := hq' Y15.out.2.1.range
 have CQ : Hid (u16.heap[x]? = some (.cells cs.toArray 44 (0,0))) := Y15.out.2.1
 have XZ := hq' (Y15.out.rowed cs.toArray)
 have KR : Hid (Keeps (fun i => i = x) u16 (u16.setRow x cs.toArray)) := Keeps.row _ _ _ rfl
 have O0 := hq' (ownsRow_weaken (ownsRow_keepsS O0.out KR.out (fun j hj e => by have := (O0.out.lt j hj).1; omega)) (by have := HX.out; omega : w.heap.size ≤ _))
 have O1 := hq' (ownsRow_weaken (ownsRow_keepsS O1.out KR.out (fun j hj e => by have := (O1.out.lt j hj).1; omega)) (by have := HX.out; omega : w.heap.size ≤ _))
 cases ok with
 | true =>
  go_wp2_with (first
    | (refine wpList_load_mid (by rfl) _ _ (by rfl) x 0 (by rfl) cs _ RX.out Tryz.underlying44 (by rfl) HI1.out ?_)
    | (refine wpList_store_row (by rfl) _ _ _ (by rfl) x cs.toArray (by rfl) (by rfl) 44 _ CQ.out HI2.out HSZ.out HONE.out ?_))
  refine bodyPost_ret (results_cl_tmp rfl _ _ _ _ _ _ rfl XZ.out.2.1 Tryz.underlying44 rfl HI1.out) rfl ?_
  rw [HSR.out]
  refine ⟨⟨.slice a0 pch.length cp0,.slice a1 plv.length cp1,.slice none 0 0,.slice none 0 0,.slice none 0 0,.slice none 0 0,.slice none 0 0⟩,?_,⟨O0.out,O1.out,own_nil _ _ _ _,tab_nil _ _,own_nil _ _ _ _,own_nil _ _ _ _,own_nil _ _ _ _⟩,msgOk_of (by simp only [List.mem_cons,List.not_mem_nil,or_false,forall_eq_or_imp,forall_eq]; exact ⟨r0,r1,r2,r3,r4,⟨by decide,by decide⟩,⟨by decide,by decide⟩,⟨by decide,by decide⟩,hqok.1,hqok.2.2.1⟩) hqok.2.1 hqok.2.2.2 zBat_ok zTab_ok zReq_ok zResp_ok,XZ.out.1,XZ.out.2.2.2.2⟩
  rw [HCS.out]
  rfl
 | false =>
  go_wp2_with (first
    | (refine wpList_load_mid (by rfl) _ _ (by rfl) x 0 (by rfl) cs _ RX.out Tryz.underlying44 (by rfl) HI1.out ?_)
    | (refine wpList_store_row (by rfl) _ _ _ (by rfl) x cs.toArray (by rfl) (by rfl) 44 _ CQ.out HI2.out HSZ.out HONE.out ?_))
  refine bodyPost_ret (results_cl_tmp rfl _ _ _ _ _ _ rfl XZ.out.2.1 Tryz.underlying44 rfl HI1.out) rfl ?_
  rw [HSR.out]
  refine ⟨⟨.slice a0 pch.length cp0,.slice a1 plv.length cp1,.slice none 0 0,.slice none 0 0,.slice none 0 0,.slice none 0 0,.slice none 0 0⟩,?_,⟨O0.out,O1.out,own_nil _ _ _ _,tab_nil _ _,own_nil _ _ _ _,own_nil _ _ _ _,own_nil _ _ _ _⟩,msgOk_of (by simp only [List.mem_cons,List.not_mem_nil,or_false,forall_eq_or_imp,forall_eq]; exact ⟨r0,r1,r2,r3,r4,⟨by decide,by decide⟩,⟨by decide,by decide⟩,⟨by decide,by decide⟩,hqok.1,hqok.2.2.1⟩) hqok.2.1 hqok.2.2.2 zBat_ok zTab_ok zReq_ok zResp_ok,XZ.out.1,XZ.out.2.2.2.2⟩
  rw [HCS.out]
  rfl
theorem wread_k5 (p : Nat) (q : Bd.St) (w : World) (h : Rd w p q) (hl : q.1.length < 4294967281) (hw : ∀ W,Kp w p W → Lw W) (hk : vN q 0 = 5) :
  Calls Tryz.prog 59 #[.pointer (some ⟨p,0,none⟩)] w (ReadR w p (Wi.sMsg q)) := by
 have HW := hq' hw
 have HN : Hid (∀ k W,Rd W p (stN q k) → Lw W → Calls Tryz.prog 92 #[.pointer (some ⟨p,0,none⟩)] W (RdV (.int .i64 (vN q k)) W p (stN q (k + 1)))) := fun k W hr hL => int_any p (stN q k) W hr (by have := stN_len q k; omega) hL
 have I0 := hq' (HN.out 0)
 have r0 : Bd.inR (vN q 0) := sInt_inR _
 have I1 := hq' (HN.out 1)
 have r1 : Bd.inR (vN q 1) := sInt_inR _
 have I2 := hq' (HN.out 2)
 have r2 : Bd.inR (vN q 2) := sInt_inR _
 have I3 := hq' (HN.out 3)
 have r3 : Bd.inR (vN q 3) := sInt_inR _
 have I4 := hq' (HN.out 4)
 have r4 : Bd.inR (vN q 4) := sInt_inR _
 simp only [Nat.zero_add,Nat.reduceAdd] at I0 I1 I2 I3 I4
 have hlz := stN_len q 5
 have hlt := sText_le 16384 (stN q 5)
 have HTX := hq' (fun W (hR : Rd W p (stN q 5)) (hL : Lw W) => text_any p 16384 (stN q 5) W hR (by omega) hL)
 have HDC := hq' (fun W (hL : Lw W) => decode_own (Bd.sText 16384 (stN q 5)).1 (by omega) W hL)
 have hh : 4 ≤ vN q 0 := by omega
 have HS : Hid (Wi.sMsg q = ((⟨vN q 0,vN q 1,vN q 2,vN q 3,vN q 4,0,0,0,0,[],0,[],(Cr.dec (Bd.sText 16384 (stN q 5)).1).getD Wi.zBatch,[],Wi.zReq,Wi.zResp⟩,(Cr.dec (Bd.sText 16384 (stN q 5)).1).isSome),(Bd.sText 16384 (stN q 5)).2)) := by
  rw [Hid,Wi.sMsg,sHead_hi q hh]
  unfold Wi.sTail
  dsimp only
  rw [hk]
  rfl
 rw [hk] at I0 HS r0
 generalize (Bd.sText 16384 (stN q 5)).2 = qz at *
 generalize (Bd.sText 16384 (stN q 5)).1 = tx at *
 generalize Cr.dec tx = od at *
 clear HN hw
 try dsimp only at *
 generalize vN q 1 = n1 at *
 generalize vN q 2 = n2 at *
 generalize vN q 3 = n3 at *
 generalize vN q 4 = n4 at *
 generalize stN q 5 = q5 at *
 generalize stN q 4 = q4 at *
 generalize stN q 3 = q3 at *
 generalize stN q 2 = q2 at *
 generalize stN q 1 = q1 at *
 have HSR := hq' HS.out
 obtain ⟨w0,hw0,X0⟩ := rx_new (q := stN q 0) h (zt0) 44
 have HW0 := hq' hw0
 clear hw0
 have hpl := h.lt
 generalize stN q 0 = q0 at *
 clear h
 go_enter Tryz.func59,Tryz.ntmps59
 go_upto_region 2 with (fail)
 rw [HW0.out]
 clear HW0
 generalize hx : w.heap.size = x at *
 have HX := hq' hx
 clear hx
 go_wp2_with fail
 refine (I0.out _ X0.out.1 (HW.out _ X0.out.2.2.2.2)).mono ?_
 rintro e u1 ⟨rfl,hr⟩
 have Y2 := hq' (X0.out.call hr)
 clear hr X0 I0
 go_wp2_with fail
 refine (I1.out _ Y2.out.1 (HW.out _ Y2.out.2.2.2.2)).mono ?_
 rintro e u3 ⟨rfl,hr⟩
 have Y4 := hq' (Y2.out.call hr)
 clear hr Y2 I1
 go_wp2_with fail
 refine (I2.out _ Y4.out.1 (HW.out _ Y4.out.2.2.2.2)).mono ?_
 rintro e u5 ⟨rfl,hr⟩
 have Y6 := hq' (Y4.out.call hr)
 clear hr Y4 I2
 have c0 := Y6.out.2.1.cell 0
 have f0 := Y6.out.2.1.free 0
 have c1 := Y6.out.2.1.cell 1
 have f1 := Y6.out.2.1.free 1
 have c2 := Y6.out.2.1.cell 2
 have f2 := Y6.out.2.1.free 2
 simp only [g0',gs'] at c0 c1 c2
 have Y7 : Hid (Rx w p x (((u5.setCell ⟨x,0,none⟩ (.int .i64 5)).setCell ⟨x,1,none⟩ (.int .i64 n1)).setCell ⟨x,2,none⟩ (.int .i64 n2)) q3 (.int .i64 5::.int .i64 n1::.int .i64 n2::zt3) 44) := (((Y6.out.store 0 (.int .i64 5)).store 1 (.int .i64 n1)).store 2 (.int .i64 n2))
 go_upto_region 3 with (fail)
 generalize (((u5.setCell ⟨x,0,none⟩ (.int .i64 5)).setCell ⟨x,1,none⟩ (.int .i64 n1)).setCell ⟨x,2,none⟩ (.int .i64 n2)) = u8 at *
 clear Y6 c0 f0 c1 f1 c2 f2
 have c0 := Y7.out.2.1.cell 0
 simp only [g0',gs'] at c0
 go_wp2_with fail
 refine (I3.out _ Y7.out.1 (HW.out _ Y7.out.2.2.2.2)).mono ?_
 rintro e u9 ⟨rfl,hr⟩
 have Y10 := hq' (Y7.out.call hr)
 clear hr Y7 I3
 clear c0
 go_wp2_with fail
 refine (I4.out _ Y10.out.1 (HW.out _ Y10.out.2.2.2.2)).mono ?_
 rintro e u11 ⟨rfl,hr⟩
 have Y12 := hq' (Y10.out.call hr)
 clear hr Y10 I4
 have c3 := Y12.out.2.1.cell 3
 have f3 := Y12.out.2.1.free 3
 have c4 := Y12.out.2.1.cell 4
 have f4 := Y12.out.2.1.free 4
 simp only [g0',gs'] at c3 c4
 have Y13 : Hid (Rx w p x ((u11.setCell ⟨x,3,none⟩ (.int .i64 n3)).setCell ⟨x,4,none⟩ (.int .i64 n4)) q5 (.int .i64 5::.int .i64 n1::.int .i64 n2::.int .i64 n3::.int .i64 n4::zt5) 44) := ((Y12.out.store 3 (.int .i64 n3)).store 4 (.int .i64 n4))
 go_upto_region 5 with (fail)
 generalize ((u11.setCell ⟨x,3,none⟩ (.int .i64 n3)).setCell ⟨x,4,none⟩ (.int .i64 n4)) = u14 at *
 clear Y12 c3 f3 c4 f4
 have c0 := Y13.out.2.1.cell 0
 simp only [g0',gs'] at c0
 go_wp2_with fail
 refine (HTX.out _ Y13.out.1 (HW.out _ Y13.out.2.2.2.2)).mono ?_
 rintro e ub ⟨rfl,hr⟩
 have XB := hq' (Y13.out.call hr)
 clear hr Y13 HTX c0
 have hxl := XB.out.2.1.lt
 have hbs : x ≤ ub.heap.size := by have := XB.out.2.2.2.2.size; have := HX.out; omega
 have HD9 := hq' (HDC.out ub (HW.out _ XB.out.2.2.2.2))
 clear HDC
 obtain ⟨ee,hee⟩ : ∃ ee : Int,ee = if od.isSome then 0 else 3 := ⟨_,rfl⟩
 unfold BatO at HD9
 rw [← hee] at HD9
 have HEE := hq' hee
 clear hee
 obtain ⟨ob,hob⟩ : ∃ ob : Cr.Batch,ob = od.getD zeroBat := ⟨_,rfl⟩
 rw [← hob] at HD9
 have HOB : Hid (od.getD Wi.zBatch = ob) := hob.symm
 clear hob
 obtain ⟨bb,bc,bp,bs,bt9,brs⟩ := ob
 unfold batV at HD9
 dsimp only at HD9
 go_wp2_with fail
 refine HD9.out.mono ?_
 rintro e uc ⟨rv,rfl,ho,hbok,hb9⟩
 have XC := hq' (XB.out.below hb9)
 have O0 := hq' ho
 have BK := hq' hbok
 obtain ⟨a0,cp0,he0⟩ := own_form ho
 subst he0
 clear ho hbok hb9 HD9 XB
 have c12 := XC.out.2.1.cell 12
 have f12 := XC.out.2.1.free 12
 have c13 := XC.out.2.1.cell 13
 have f13 := XC.out.2.1.free 13
 have c14 := XC.out.2.1.cell 14
 have f14 := XC.out.2.1.free 14
 have c15 := XC.out.2.1.cell 15
 have f15 := XC.out.2.1.free 15
 have c16 := XC.out.2.1.cell 16
 have f16 := XC.out.2.1.free 16
 have c17 := XC.out.2.1.cell 17
 have f17 := XC.out.2.1.free 17
 simp only [g0',gs'] at c12 c13 c14 c15 c16 c17
 have Y15 : Hid (Rx w p x ((((((uc.setCell ⟨x,12,none⟩ (.int .i64 bb)).setCell ⟨x,13,none⟩ (.int .i64 bc)).setCell ⟨x,14,none⟩ (.int .i64 bp)).setCell ⟨x,15,none⟩ (.int .i64 bs)).setCell ⟨x,16,none⟩ (.int .i64 bt9)).setCell ⟨x,17,none⟩ (.slice a0 brs.length cp0)) qz (.int .i64 5::.int .i64 n1::.int .i64 n2::.int .i64 n3::.int .i64 n4::.int .i64 0::.int .i64 0::.int .i64 0::.int .i64 0::.slice none 0 0::.int .i64 0::.slice none 0 0::.int .i64 bb::.int .i64 bc::.int .i64 bp::.int .i64 bs::.int .i64 bt9::.slice a0 brs.length cp0::zt18) 44) := ((((((XC.out.store 12 (.int .i64 bb)).store 13 (.int .i64 bc)).store 14 (.int .i64 bp)).store 15 (.int .i64 bs)).store 16 (.int .i64 bt9)).store 17 (.slice a0 brs.length cp0))
 have KK : Hid (Keeps (fun j => j = x) uc ((((((uc.setCell ⟨x,12,none⟩ (.int .i64 bb)).setCell ⟨x,13,none⟩ (.int .i64 bc)).setCell ⟨x,14,none⟩ (.int .i64 bp)).setCell ⟨x,15,none⟩ (.int .i64 bs)).setCell ⟨x,16,none⟩ (.int .i64 bt9)).setCell ⟨x,17,none⟩ (.slice a0 brs.length cp0))) := (((((((Keeps.refl (fun j => j = x) uc).trans (Keeps.setCell (fun j => j = x) _ ⟨x,12,none⟩ (.int .i64 bb) rfl)).trans (Keeps.setCell (fun j => j = x) _ ⟨x,13,none⟩ (.int .i64 bc) rfl)).trans (Keeps.setCell (fun j => j = x) _ ⟨x,14,none⟩ (.int .i64 bp) rfl)).trans (Keeps.setCell (fun j => j = x) _ ⟨x,15,none⟩ (.int .i64 bs) rfl)).trans (Keeps.setCell (fun j => j = x) _ ⟨x,16,none⟩ (.int .i64 bt9) rfl)).trans (Keeps.setCell (fun j => j = x) _ ⟨x,17,none⟩ (.slice a0 brs.length cp0) rfl))
 go_upto_region 25 with (fail)
 generalize ((((((uc.setCell ⟨x,12,none⟩ (.int .i64 bb)).setCell ⟨x,13,none⟩ (.int .i64 bc)).setCell ⟨x,14,none⟩ (.int .i64 bp)).setCell ⟨x,15,none⟩ (.int .i64 bs)).setCell ⟨x,16,none⟩ (.int .i64 bt9)).setCell ⟨x,17,none⟩ (.slice a0 brs.length cp0)) = u16 at *
 clear XC c12 f12 c13 f13 c14 f14 c15 f15 c16 f16 c17 f17
 have O0 := hq' (ownsRow_keepsS O0.out KK.out (fun j hj e => by have := (O0.out.lt j hj).1; omega))
 clear KK
 obtain ⟨cs,hcs⟩ : ∃ cs : List Value,cs = (.int .i64 5::.int .i64 n1::.int .i64 n2::.int .i64 n3::.int .i64 n4::.int .i64 0::.int .i64 0::.int .i64 0::.int .i64 0::.slice none 0 0::.int .i64 0::.slice none 0 0::.int .i64 bb::.int .i64 bc::.int .i64 bp::.int .i64 bs::.int .i64 bt9::.slice a0 brs.length cp0::zt18) := ⟨_,rfl⟩
 have HI1 : Hid ((Tryz.prog.info? 44).map (·.size) = some cs.length) := by rw [Hid,hcs]; kernel_rfl
 have HI2 : Hid ((Tryz.prog.info? 44).map (·.size) = some (cs.toArray : Array Value).size) := by rw [Hid,hcs]; kernel_rfl
 have HONE : Hid ((cs.toArray : Array Value).all (·.oneCell') = true) := by rw [Hid,hcs]; simp [Value.oneCell']
 have HSZ : Hid ((cs.toArray : Array Value).size = (cs.toArray : Array Value).size) := rfl
 have HCS := hq' hcs
 rw [← hcs] at Y15
 clear hcs
 have RX := hq' Y15.out.2.1.range
 have CQ : Hid (u16.heap[x]? = some (.cells cs.toArray 44 (0,0))) := Y15.out.2.1
 have XZ := hq' (Y15.out.rowed cs.toArray)
 have KR : Hid (Keeps (fun i => i = x) u16 (u16.setRow x cs.toArray)) := Keeps.row _ _ _ rfl
 have O0 := hq' (ownsRow_weaken (ownsRow_keepsS O0.out KR.out (fun j hj e => by have := (O0.out.lt j hj).1; omega)) (by have := HX.out; omega : w.heap.size ≤ _))
 rw [HOB.out] at HSR
 have he9 : (ee == 0) = od.isSome := by rw [HEE.out]; cases od <;> rfl
 clear HEE HOB HS
 generalize od.isSome = oks at *
 cases oks with
 | true =>
  go_wp2_with (first
    | (refine wpList_load_mid (by rfl) _ _ (by rfl) x 0 (by rfl) cs _ RX.out Tryz.underlying44 (by rfl) HI1.out ?_)
    | (refine wpList_store_row (by rfl) _ _ _ (by rfl) x cs.toArray (by rfl) (by rfl) 44 _ CQ.out HI2.out HSZ.out HONE.out ?_))
  refine bodyPost_ret (results_cl_tmp rfl _ _ _ _ _ _ rfl XZ.out.2.1 Tryz.underlying44 rfl HI1.out) rfl ?_
  rw [HSR.out]
  refine ⟨⟨.slice none 0 0,.slice none 0 0,.slice a0 brs.length cp0,.slice none 0 0,.slice none 0 0,.slice none 0 0,.slice none 0 0⟩,?_,⟨own_nil _ _ _ _,own_nil _ _ _ _,O0.out,tab_nil _ _,own_nil _ _ _ _,own_nil _ _ _ _,own_nil _ _ _ _⟩,msgOk_of (by simp only [List.mem_cons,List.not_mem_nil,or_false,forall_eq_or_imp,forall_eq]; exact ⟨r0,r1,r2,r3,r4,⟨by decide,by decide⟩,⟨by decide,by decide⟩,⟨by decide,by decide⟩,⟨by decide,by decide⟩,⟨by decide,by decide⟩⟩) ⟨Nat.zero_le _,fun x hx => by cases hx⟩ ⟨Nat.zero_le _,fun x hx => by cases hx⟩ BK.out zTab_ok zReq_ok zResp_ok,XZ.out.1,XZ.out.2.2.2.2⟩
  rw [HCS.out]
  rfl
 | false =>
  go_wp2_with (first
    | (refine wpList_load_mid (by rfl) _ _ (by rfl) x 0 (by rfl) cs _ RX.out Tryz.underlying44 (by rfl) HI1.out ?_)
    | (refine wpList_store_row (by rfl) _ _ _ (by rfl) x cs.toArray (by rfl) (by rfl) 44 _ CQ.out HI2.out HSZ.out HONE.out ?_))
  refine bodyPost_ret (results_cl_tmp rfl _ _ _ _ _ _ rfl XZ.out.2.1 Tryz.underlying44 rfl HI1.out) rfl ?_
  rw [HSR.out]
  refine ⟨⟨.slice none 0 0,.slice none 0 0,.slice a0 brs.length cp0,.slice none 0 0,.slice none 0 0,.slice none 0 0,.slice none 0 0⟩,?_,⟨own_nil _ _ _ _,own_nil _ _ _ _,O0.out,tab_nil _ _,own_nil _ _ _ _,own_nil _ _ _ _,own_nil _ _ _ _⟩,msgOk_of (by simp only [List.mem_cons,List.not_mem_nil,or_false,forall_eq_or_imp,forall_eq]; exact ⟨r0,r1,r2,r3,r4,⟨by decide,by decide⟩,⟨by decide,by decide⟩,⟨by decide,by decide⟩,⟨by decide,by decide⟩,⟨by decide,by decide⟩⟩) ⟨Nat.zero_le _,fun x hx => by cases hx⟩ ⟨Nat.zero_le _,fun x hx => by cases hx⟩ BK.out zTab_ok zReq_ok zResp_ok,XZ.out.1,XZ.out.2.2.2.2⟩
  rw [HCS.out]
  rfl
theorem wread_k6 (p : Nat) (q : Bd.St) (w : World) (h : Rd w p q) (hl : q.1.length < 4294967281) (hw : ∀ W,Kp w p W → Lw W) (hk : vN q 0 = 6) :
  Calls Tryz.prog 59 #[.pointer (some ⟨p,0,none⟩)] w (ReadR w p (Wi.sMsg q)) := by
 have HW := hq' hw
 have HN : Hid (∀ k W,Rd W p (stN q k) → Lw W → Calls Tryz.prog 92 #[.pointer (some ⟨p,0,none⟩)] W (RdV (.int .i64 (vN q k)) W p (stN q (k + 1)))) := fun k W hr hL => int_any p (stN q k) W hr (by have := stN_len q k; omega) hL
 have I0 := hq' (HN.out 0)
 have r0 : Bd.inR (vN q 0) := sInt_inR _
 have I1 := hq' (HN.out 1)
 have r1 : Bd.inR (vN q 1) := sInt_inR _
 have I2 := hq' (HN.out 2)
 have r2 : Bd.inR (vN q 2) := sInt_inR _
 have I3 := hq' (HN.out 3)
 have r3 : Bd.inR (vN q 3) := sInt_inR _
 have I4 := hq' (HN.out 4)
 have r4 : Bd.inR (vN q 4) := sInt_inR _
 have I5 := hq' (HN.out 5)
 have r5 : Bd.inR (vN q 5) := sInt_inR _
 have I6 := hq' (HN.out 6)
 have r6 : Bd.inR (vN q 6) := sInt_inR _
 simp only [Nat.zero_add,Nat.reduceAdd] at I0 I1 I2 I3 I4 I5 I6
 have hh : 4 ≤ vN q 0 := by omega
 have HS : Hid (Wi.sMsg q = ((⟨vN q 0,vN q 1,vN q 2,vN q 3,vN q 4,vN q 5,vN q 6,0,0,[],0,[],Wi.zBatch,[],Wi.zReq,Wi.zResp⟩,true),stN q 7)) := by
  rw [Hid,Wi.sMsg,sHead_hi q hh]
  unfold Wi.sTail
  dsimp only
  rw [hk]
  rfl
 rw [hk] at I0 HS r0
 clear HN hw
 try dsimp only at *
 generalize vN q 1 = n1 at *
 generalize vN q 2 = n2 at *
 generalize vN q 3 = n3 at *
 generalize vN q 4 = n4 at *
 generalize vN q 5 = n5 at *
 generalize vN q 6 = n6 at *
 generalize stN q 7 = q7 at *
 generalize stN q 6 = q6 at *
 generalize stN q 5 = q5 at *
 generalize stN q 4 = q4 at *
 generalize stN q 3 = q3 at *
 generalize stN q 2 = q2 at *
 generalize stN q 1 = q1 at *
 have HSR := hq' HS.out
 obtain ⟨w0,hw0,X0⟩ := rx_new (q := stN q 0) h (zt0) 44
 have HW0 := hq' hw0
 clear hw0
 have hpl := h.lt
 generalize stN q 0 = q0 at *
 clear h
 go_enter Tryz.func59,Tryz.ntmps59
 go_upto_region 2 with (fail)
 rw [HW0.out]
 clear HW0
 generalize hx : w.heap.size = x at *
 have HX := hq' hx
 clear hx
 go_wp2_with fail
 refine (I0.out _ X0.out.1 (HW.out _ X0.out.2.2.2.2)).mono ?_
 rintro e u1 ⟨rfl,hr⟩
 have Y2 := hq' (X0.out.call hr)
 clear hr X0 I0
 go_wp2_with fail
 refine (I1.out _ Y2.out.1 (HW.out _ Y2.out.2.2.2.2)).mono ?_
 rintro e u3 ⟨rfl,hr⟩
 have Y4 := hq' (Y2.out.call hr)
 clear hr Y2 I1
 go_wp2_with fail
 refine (I2.out _ Y4.out.1 (HW.out _ Y4.out.2.2.2.2)).mono ?_
 rintro e u5 ⟨rfl,hr⟩
 have Y6 := hq' (Y4.out.call hr)
 clear hr Y4 I2
 have c0 := Y6.out.2.1.cell 0
 have f0 := Y6.out.2.1.free 0
 have c1 := Y6.out.2.1.cell 1
 have f1 := Y6.out.2.1.free 1
 have c2 := Y6.out.2.1.cell 2
 have f2 := Y6.out.2.1.free 2
 simp only [g0',gs'] at c0 c1 c2
 have Y7 : Hid (Rx w p x (((u5.setCell ⟨x,0,none⟩ (.int .i64 6)).setCell ⟨x,1,none⟩ (.int .i64 n1)).setCell ⟨x,2,none⟩ (.int .i64 n2)) q3 (.int .i64 6::.int .i64 n1::.int .i64 n2::zt3) 44) := (((Y6.out.store 0 (.int .i64 6)).store 1 (.int .i64 n1)).store 2 (.int .i64 n2))
 go_upto_region 3 with (fail)
 generalize (((u5.setCell ⟨x,0,none⟩ (.int .i64 6)).setCell ⟨x,1,none⟩ (.int .i64 n1)).setCell ⟨x,2,none⟩ (.int .i64 n2)) = u8 at *
 clear Y6 c0 f0 c1 f1 c2 f2
 have c0 := Y7.out.2.1.cell 0
 simp only [g0',gs'] at c0
 go_wp2_with fail
 refine (I3.out _ Y7.out.1 (HW.out _ Y7.out.2.2.2.2)).mono ?_
 rintro e u9 ⟨rfl,hr⟩
 have Y10 := hq' (Y7.out.call hr)
 clear hr Y7 I3
 clear c0
 go_wp2_with fail
 refine (I4.out _ Y10.out.1 (HW.out _ Y10.out.2.2.2.2)).mono ?_
 rintro e u11 ⟨rfl,hr⟩
 have Y12 := hq' (Y10.out.call hr)
 clear hr Y10 I4
 have c3 := Y12.out.2.1.cell 3
 have f3 := Y12.out.2.1.free 3
 have c4 := Y12.out.2.1.cell 4
 have f4 := Y12.out.2.1.free 4
 simp only [g0',gs'] at c3 c4
 have Y13 : Hid (Rx w p x ((u11.setCell ⟨x,3,none⟩ (.int .i64 n3)).setCell ⟨x,4,none⟩ (.int .i64 n4)) q5 (.int .i64 6::.int .i64 n1::.int .i64 n2::.int .i64 n3::.int .i64 n4::zt5) 44) := ((Y12.out.store 3 (.int .i64 n3)).store 4 (.int .i64 n4))
 go_upto_region 5 with (fail)
 generalize ((u11.setCell ⟨x,3,none⟩ (.int .i64 n3)).setCell ⟨x,4,none⟩ (.int .i64 n4)) = u14 at *
 clear Y12 c3 f3 c4 f4
 have c0 := Y13.out.2.1.cell 0
 simp only [g0',gs'] at c0
 go_wp2_with fail
 refine (I5.out _ Y13.out.1 (HW.out _ Y13.out.2.2.2.2)).mono ?_
 rintro e u15 ⟨rfl,hr⟩
 have Y16 := hq' (Y13.out.call hr)
 clear hr Y13 I5
 go_wp2_with fail
 refine (I6.out _ Y16.out.1 (HW.out _ Y16.out.2.2.2.2)).mono ?_
 rintro e u17 ⟨rfl,hr⟩
 have Y18 := hq' (Y16.out.call hr)
 clear hr Y16 I6
 clear c0
 have c5 := Y18.out.2.1.cell 5
 have f5 := Y18.out.2.1.free 5
 have c6 := Y18.out.2.1.cell 6
 have f6 := Y18.out.2.1.free 6
 simp only [g0',gs'] at c5 c6
 have Y19 : Hid (Rx w p x ((u17.setCell ⟨x,5,none⟩ (.int .i64 n5)).setCell ⟨x,6,none⟩ (.int .i64 n6)) q7 (.int .i64 6::.int .i64 n1::.int .i64 n2::.int .i64 n3::.int .i64 n4::.int .i64 n5::.int .i64 n6::zt7) 44) := ((Y18.out.store 5 (.int .i64 n5)).store 6 (.int .i64 n6))
 go_upto_region 25 with (fail)
 generalize ((u17.setCell ⟨x,5,none⟩ (.int .i64 n5)).setCell ⟨x,6,none⟩ (.int .i64 n6)) = u20 at *
 clear Y18 c5 f5 c6 f6
 obtain ⟨cs,hcs⟩ : ∃ cs : List Value,cs = (.int .i64 6::.int .i64 n1::.int .i64 n2::.int .i64 n3::.int .i64 n4::.int .i64 n5::.int .i64 n6::zt7) := ⟨_,rfl⟩
 have HI1 : Hid ((Tryz.prog.info? 44).map (·.size) = some cs.length) := by rw [Hid,hcs]; kernel_rfl
 have HI2 : Hid ((Tryz.prog.info? 44).map (·.size) = some (cs.toArray : Array Value).size) := by rw [Hid,hcs]; kernel_rfl
 have HONE : Hid ((cs.toArray : Array Value).all (·.oneCell') = true) := by rw [Hid,hcs]; simp [Value.oneCell']
 have HSZ : Hid ((cs.toArray : Array Value).size = (cs.toArray : Array Value).size) := rfl
 have HCS := hq' hcs
 rw [← hcs] at Y19
 clear hcs
 have RX := hq' Y19.out.2.1.range
 have CQ : Hid (u20.heap[x]? = some (.cells cs.toArray 44 (0,0))) := Y19.out.2.1
 have XZ := hq' (Y19.out.rowed cs.toArray)
 have KR : Hid (Keeps (fun i => i = x) u20 (u20.setRow x cs.toArray)) := Keeps.row _ _ _ rfl
 go_wp2_with (first
   | (refine wpList_load_mid (by rfl) _ _ (by rfl) x 0 (by rfl) cs _ RX.out Tryz.underlying44 (by rfl) HI1.out ?_)
   | (refine wpList_store_row (by rfl) _ _ _ (by rfl) x cs.toArray (by rfl) (by rfl) 44 _ CQ.out HI2.out HSZ.out HONE.out ?_))
 refine bodyPost_ret (results_cl_tmp rfl _ _ _ _ _ _ rfl XZ.out.2.1 Tryz.underlying44 rfl HI1.out) rfl ?_
 rw [HSR.out]
 refine ⟨⟨.slice none 0 0,.slice none 0 0,.slice none 0 0,.slice none 0 0,.slice none 0 0,.slice none 0 0,.slice none 0 0⟩,?_,⟨own_nil _ _ _ _,own_nil _ _ _ _,own_nil _ _ _ _,tab_nil _ _,own_nil _ _ _ _,own_nil _ _ _ _,own_nil _ _ _ _⟩,msgOk_of (by simp only [List.mem_cons,List.not_mem_nil,or_false,forall_eq_or_imp,forall_eq]; exact ⟨r0,r1,r2,r3,r4,r5,r6,⟨by decide,by decide⟩,⟨by decide,by decide⟩,⟨by decide,by decide⟩⟩) ⟨Nat.zero_le _,fun x hx => by cases hx⟩ ⟨Nat.zero_le _,fun x hx => by cases hx⟩ zBat_ok zTab_ok zReq_ok zResp_ok,XZ.out.1,XZ.out.2.2.2.2⟩
 rw [HCS.out]
 rfl
theorem wread_k7 (p : Nat) (q : Bd.St) (w : World) (h : Rd w p q) (hl : q.1.length < 4294967281) (hw : ∀ W,Kp w p W → Lw W) (hk : vN q 0 = 7) :
  Calls Tryz.prog 59 #[.pointer (some ⟨p,0,none⟩)] w (ReadR w p (Wi.sMsg q)) := by
 have HW := hq' hw
 have HN : Hid (∀ k W,Rd W p (stN q k) → Lw W → Calls Tryz.prog 92 #[.pointer (some ⟨p,0,none⟩)] W (RdV (.int .i64 (vN q k)) W p (stN q (k + 1)))) := fun k W hr hL => int_any p (stN q k) W hr (by have := stN_len q k; omega) hL
 have I0 := hq' (HN.out 0)
 have r0 : Bd.inR (vN q 0) := sInt_inR _
 have I1 := hq' (HN.out 1)
 have r1 : Bd.inR (vN q 1) := sInt_inR _
 have I2 := hq' (HN.out 2)
 have r2 : Bd.inR (vN q 2) := sInt_inR _
 have I3 := hq' (HN.out 3)
 have r3 : Bd.inR (vN q 3) := sInt_inR _
 have I4 := hq' (HN.out 4)
 have r4 : Bd.inR (vN q 4) := sInt_inR _
 simp only [Nat.zero_add,Nat.reduceAdd] at I0 I1 I2 I3 I4
 have hlz := stN_len q 5
 have HTL := hq' (fun W (hR : Rd W p (stN q 5)) (hL : ∀ W',Kp W p W' → Lw W') => readReq_any p (stN q 5) W hR (by omega) hL)
 have hqok := sReq_ok (stN q 5) (by omega)
 have hh : 4 ≤ vN q 0 := by omega
 have HS : Hid (Wi.sMsg q = ((⟨vN q 0,vN q 1,vN q 2,vN q 3,vN q 4,0,0,0,0,[],0,[],Wi.zBatch,[],(Wi.sReq (stN q 5)).1.1,Wi.zResp⟩,(Wi.sReq (stN q 5)).1.2),(Wi.sReq (stN q 5)).2)) := by
  rw [Hid,Wi.sMsg,sHead_hi q hh]
  unfold Wi.sTail
  dsimp only
  rw [hk]
  rfl
 rw [hk] at I0 HS r0
 generalize hz : Wi.sReq (stN q 5) = zz at *
 clear hz
 obtain ⟨⟨⟨rc,rn,rk,rp,rs,ro,rm,rg,rgr,rme,rrs⟩,ok⟩,qz⟩ := zz
 clear HN hw
 try dsimp only at *
 unfold wreqC at HTL
 try dsimp only at HTL
 generalize vN q 1 = n1 at *
 generalize vN q 2 = n2 at *
 generalize vN q 3 = n3 at *
 generalize vN q 4 = n4 at *
 generalize stN q 5 = q5 at *
 generalize stN q 4 = q4 at *
 generalize stN q 3 = q3 at *
 generalize stN q 2 = q2 at *
 generalize stN q 1 = q1 at *
 have HSR := hq' HS.out
 obtain ⟨w0,hw0,X0⟩ := rx_new (q := stN q 0) h (zt0) 44
 have HW0 := hq' hw0
 clear hw0
 have hpl := h.lt
 generalize stN q 0 = q0 at *
 clear h
 go_enter Tryz.func59,Tryz.ntmps59
 go_upto_region 2 with (fail)
 rw [HW0.out]
 clear HW0
 generalize hx : w.heap.size = x at *
 have HX := hq' hx
 clear hx
 go_wp2_with fail
 refine (I0.out _ X0.out.1 (HW.out _ X0.out.2.2.2.2)).mono ?_
 rintro e u1 ⟨rfl,hr⟩
 have Y2 := hq' (X0.out.call hr)
 clear hr X0 I0
 go_wp2_with fail
 refine (I1.out _ Y2.out.1 (HW.out _ Y2.out.2.2.2.2)).mono ?_
 rintro e u3 ⟨rfl,hr⟩
 have Y4 := hq' (Y2.out.call hr)
 clear hr Y2 I1
 go_wp2_with fail
 refine (I2.out _ Y4.out.1 (HW.out _ Y4.out.2.2.2.2)).mono ?_
 rintro e u5 ⟨rfl,hr⟩
 have Y6 := hq' (Y4.out.call hr)
 clear hr Y4 I2
 have c0 := Y6.out.2.1.cell 0
 have f0 := Y6.out.2.1.free 0
 have c1 := Y6.out.2.1.cell 1
 have f1 := Y6.out.2.1.free 1
 have c2 := Y6.out.2.1.cell 2
 have f2 := Y6.out.2.1.free 2
 simp only [g0',gs'] at c0 c1 c2
 have Y7 : Hid (Rx w p x (((u5.setCell ⟨x,0,none⟩ (.int .i64 7)).setCell ⟨x,1,none⟩ (.int .i64 n1)).setCell ⟨x,2,none⟩ (.int .i64 n2)) q3 (.int .i64 7::.int .i64 n1::.int .i64 n2::zt3) 44) := (((Y6.out.store 0 (.int .i64 7)).store 1 (.int .i64 n1)).store 2 (.int .i64 n2))
 go_upto_region 3 with (fail)
 generalize (((u5.setCell ⟨x,0,none⟩ (.int .i64 7)).setCell ⟨x,1,none⟩ (.int .i64 n1)).setCell ⟨x,2,none⟩ (.int .i64 n2)) = u8 at *
 clear Y6 c0 f0 c1 f1 c2 f2
 have c0 := Y7.out.2.1.cell 0
 simp only [g0',gs'] at c0
 go_wp2_with fail
 refine (I3.out _ Y7.out.1 (HW.out _ Y7.out.2.2.2.2)).mono ?_
 rintro e u9 ⟨rfl,hr⟩
 have Y10 := hq' (Y7.out.call hr)
 clear hr Y7 I3
 clear c0
 go_wp2_with fail
 refine (I4.out _ Y10.out.1 (HW.out _ Y10.out.2.2.2.2)).mono ?_
 rintro e u11 ⟨rfl,hr⟩
 have Y12 := hq' (Y10.out.call hr)
 clear hr Y10 I4
 have c3 := Y12.out.2.1.cell 3
 have f3 := Y12.out.2.1.free 3
 have c4 := Y12.out.2.1.cell 4
 have f4 := Y12.out.2.1.free 4
 simp only [g0',gs'] at c3 c4
 have Y13 : Hid (Rx w p x ((u11.setCell ⟨x,3,none⟩ (.int .i64 n3)).setCell ⟨x,4,none⟩ (.int .i64 n4)) q5 (.int .i64 7::.int .i64 n1::.int .i64 n2::.int .i64 n3::.int .i64 n4::zt5) 44) := ((Y12.out.store 3 (.int .i64 n3)).store 4 (.int .i64 n4))
 go_upto_region 5 with (fail)
 generalize ((u11.setCell ⟨x,3,none⟩ (.int .i64 n3)).setCell ⟨x,4,none⟩ (.int .i64 n4)) = u14 at *
 clear Y12 c3 f3 c4 f4
 have c0 := Y13.out.2.1.cell 0
 simp only [g0',gs'] at c0
 go_wp2_with fail
 refine (HTL.out _ Y13.out.1 (fun W' k => HW.out _ (Y13.out.2.2.2.2.trans k))).mono ?_
 rintro e ua ⟨v,rfl,ho0,hr,hk9⟩
 have XA := hq' (Y13.out.own hr hk9)
 have hxl := Y13.out.2.1.lt
 have hbs : x ≤ u14.heap.size := by have := Y13.out.2.2.2.2.size; have := HX.out; omega
 have O0 := hq' ho0
 obtain ⟨a0,cp0,he0⟩ := own_form ho0
 subst he0
 clear hr hk9 HTL Y13 c0 ho0
 have c19 := XA.out.2.1.cell 19
 have f19 := XA.out.2.1.free 19
 have c20 := XA.out.2.1.cell 20
 have f20 := XA.out.2.1.free 20
 have c21 := XA.out.2.1.cell 21
 have f21 := XA.out.2.1.free 21
 have c22 := XA.out.2.1.cell 22
 have f22 := XA.out.2.1.free 22
 have c23 := XA.out.2.1.cell 23
 have f23 := XA.out.2.1.free 23
 have c24 := XA.out.2.1.cell 24
 have f24 := XA.out.2.1.free 24
 have c25 := XA.out.2.1.cell 25
 have f25 := XA.out.2.1.free 25
 have c26 := XA.out.2.1.cell 26
 have f26 := XA.out.2.1.free 26
 have c27 := XA.out.2.1.cell 27
 have f27 := XA.out.2.1.free 27
 have c28 := XA.out.2.1.cell 28
 have f28 := XA.out.2.1.free 28
 have c29 := XA.out.2.1.cell 29
 have f29 := XA.out.2.1.free 29
 simp only [g0',gs'] at c19 c20 c21 c22 c23 c24 c25 c26 c27 c28 c29
 have Y15 : Hid (Rx w p x (((((((((((ua.setCell ⟨x,19,none⟩ (.int .i64 rc)).setCell ⟨x,20,none⟩ (.int .i64 rn)).setCell ⟨x,21,none⟩ (.int .i64 rk)).setCell ⟨x,22,none⟩ (.int .i64 rp)).setCell ⟨x,23,none⟩ (.int .i64 rs)).setCell ⟨x,24,none⟩ (.int .i64 ro)).setCell ⟨x,25,none⟩ (.int .i64 rm)).setCell ⟨x,26,none⟩ (.int .i64 rg)).setCell ⟨x,27,none⟩ (.string ⟨rgr.toArray⟩)).setCell ⟨x,28,none⟩ (.string ⟨rme.toArray⟩)).setCell ⟨x,29,none⟩ (.slice a0 rrs.length cp0)) qz (.int .i64 7::.int .i64 n1::.int .i64 n2::.int .i64 n3::.int .i64 n4::.int .i64 0::.int .i64 0::.int .i64 0::.int .i64 0::.slice none 0 0::.int .i64 0::.slice none 0 0::.int .i64 0::.int .i64 0::.int .i64 0::.int .i64 0::.int .i64 0::.slice none 0 0::.slice none 0 0::.int .i64 rc::.int .i64 rn::.int .i64 rk::.int .i64 rp::.int .i64 rs::.int .i64 ro::.int .i64 rm::.int .i64 rg::.string ⟨rgr.toArray⟩::.string ⟨rme.toArray⟩::.slice a0 rrs.length cp0::zt30) 44) := (((((((((((XA.out.store 19 (.int .i64 rc)).store 20 (.int .i64 rn)).store 21 (.int .i64 rk)).store 22 (.int .i64 rp)).store 23 (.int .i64 rs)).store 24 (.int .i64 ro)).store 25 (.int .i64 rm)).store 26 (.int .i64 rg)).store 27 (.string ⟨rgr.toArray⟩)).store 28 (.string ⟨rme.toArray⟩)).store 29 (.slice a0 rrs.length cp0))
 have KK : Hid (Keeps (fun j => j = x) ua (((((((((((ua.setCell ⟨x,19,none⟩ (.int .i64 rc)).setCell ⟨x,20,none⟩ (.int .i64 rn)).setCell ⟨x,21,none⟩ (.int .i64 rk)).setCell ⟨x,22,none⟩ (.int .i64 rp)).setCell ⟨x,23,none⟩ (.int .i64 rs)).setCell ⟨x,24,none⟩ (.int .i64 ro)).setCell ⟨x,25,none⟩ (.int .i64 rm)).setCell ⟨x,26,none⟩ (.int .i64 rg)).setCell ⟨x,27,none⟩ (.string ⟨rgr.toArray⟩)).setCell ⟨x,28,none⟩ (.string ⟨rme.toArray⟩)).setCell ⟨x,29,none⟩ (.slice a0 rrs.length cp0))) := ((((((((((((Keeps.refl (fun j => j = x) ua).trans (Keeps.setCell (fun j => j = x) _ ⟨x,19,none⟩ (.int .i64 rc) rfl)).trans (Keeps.setCell (fun j => j = x) _ ⟨x,20,none⟩ (.int .i64 rn) rfl)).trans (Keeps.setCell (fun j => j = x) _ ⟨x,21,none⟩ (.int .i64 rk) rfl)).trans (Keeps.setCell (fun j => j = x) _ ⟨x,22,none⟩ (.int .i64 rp) rfl)).trans (Keeps.setCell (fun j => j = x) _ ⟨x,23,none⟩ (.int .i64 rs) rfl)).trans (Keeps.setCell (fun j => j = x) _ ⟨x,24,none⟩ (.int .i64 ro) rfl)).trans (Keeps.setCell (fun j => j = x) _ ⟨x,25,none⟩ (.int .i64 rm) rfl)).trans (Keeps.setCell (fun j => j = x) _ ⟨x,26,none⟩ (.int .i64 rg) rfl)).trans (Keeps.setCell (fun j => j = x) _ ⟨x,27,none⟩ (.string ⟨rgr.toArray⟩) rfl)).trans (Keeps.setCell (fun j => j = x) _ ⟨x,28,none⟩ (.string ⟨rme.toArray⟩) rfl)).trans (Keeps.setCell (fun j => j = x) _ ⟨x,29,none⟩ (.slice a0 rrs.length cp0) rfl))
 go_upto_region 25 with (fail)
 generalize (((((((((((ua.setCell ⟨x,19,none⟩ (.int .i64 rc)).setCell ⟨x,20,none⟩ (.int .i64 rn)).setCell ⟨x,21,none⟩ (.int .i64 rk)).setCell ⟨x,22,none⟩ (.int .i64 rp)).setCell ⟨x,23,none⟩ (.int .i64 rs)).setCell ⟨x,24,none⟩ (.int .i64 ro)).setCell ⟨x,25,none⟩ (.int .i64 rm)).setCell ⟨x,26,none⟩ (.int .i64 rg)).setCell ⟨x,27,none⟩ (.string ⟨rgr.toArray⟩)).setCell ⟨x,28,none⟩ (.string ⟨rme.toArray⟩)).setCell ⟨x,29,none⟩ (.slice a0 rrs.length cp0)) = u16 at *
 clear XA c19 f19 c20 f20 c21 f21 c22 f22 c23 f23 c24 f24 c25 f25 c26 f26 c27 f27 c28 f28 c29 f29
 have O0 := hq' (ownsRow_keepsS O0.out KK.out (fun j hj e => by have := (O0.out.lt j hj).1; omega))
 clear KK
 obtain ⟨cs,hcs⟩ : ∃ cs : List Value,cs = (.int .i64 7::.int .i64 n1::.int .i64 n2::.int .i64 n3::.int .i64 n4::.int .i64 0::.int .i64 0::.int .i64 0::.int .i64 0::.slice none 0 0::.int .i64 0::.slice none 0 0::.int .i64 0::.int .i64 0::.int .i64 0::.int .i64 0::.int .i64 0::.slice none 0 0::.slice none 0 0::.int .i64 rc::.int .i64 rn::.int .i64 rk::.int .i64 rp::.int .i64 rs::.int .i64 ro::.int .i64 rm::.int .i64 rg::.string ⟨rgr.toArray⟩::.string ⟨rme.toArray⟩::.slice a0 rrs.length cp0::zt30) := ⟨_,rfl⟩
 have HI1 : Hid ((Tryz.prog.info? 44).map (·.size) = some cs.length) := by rw [Hid,hcs]; kernel_rfl
 have HI2 : Hid ((Tryz.prog.info? 44).map (·.size) = some (cs.toArray : Array Value).size) := by rw [Hid,hcs]; kernel_rfl
 have HONE : Hid ((cs.toArray : Array Value).all (·.oneCell') = true) := by rw [Hid,hcs]; simp [Value.oneCell']
 have HSZ : Hid ((cs.toArray : Array Value).size = (cs.toArray : Array Value).size) := rfl
 have HCS := hq' hcs
 rw [← hcs] at Y15
 clear hcs
 have RX := hq' Y15.out.2.1.range
 have CQ : Hid (u16.heap[x]? = some (.cells cs.toArray 44 (0,0))) := Y15.out.2.1
 have XZ := hq' (Y15.out.rowed cs.toArray)
 have KR : Hid (Keeps (fun i => i = x) u16 (u16.setRow x cs.toArray)) := Keeps.row _ _ _ rfl
 have O0 := hq' (ownsRow_weaken (ownsRow_keepsS O0.out KR.out (fun j hj e => by have := (O0.out.lt j hj).1; omega)) (by have := HX.out; omega : w.heap.size ≤ _))
 cases ok with
 | true =>
  go_wp2_with (first
    | (refine wpList_load_mid (by rfl) _ _ (by rfl) x 0 (by rfl) cs _ RX.out Tryz.underlying44 (by rfl) HI1.out ?_)
    | (refine wpList_store_row (by rfl) _ _ _ (by rfl) x cs.toArray (by rfl) (by rfl) 44 _ CQ.out HI2.out HSZ.out HONE.out ?_))
  refine bodyPost_ret (results_cl_tmp rfl _ _ _ _ _ _ rfl XZ.out.2.1 Tryz.underlying44 rfl HI1.out) rfl ?_
  rw [HSR.out]
  refine ⟨⟨.slice none 0 0,.slice none 0 0,.slice none 0 0,.slice none 0 0,.slice a0 rrs.length cp0,.slice none 0 0,.slice none 0 0⟩,?_,⟨own_nil _ _ _ _,own_nil _ _ _ _,own_nil _ _ _ _,tab_nil _ _,O0.out,own_nil _ _ _ _,own_nil _ _ _ _⟩,msgOk_of (by simp only [List.mem_cons,List.not_mem_nil,or_false,forall_eq_or_imp,forall_eq]; exact ⟨r0,r1,r2,r3,r4,⟨by decide,by decide⟩,⟨by decide,by decide⟩,⟨by decide,by decide⟩,⟨by decide,by decide⟩,⟨by decide,by decide⟩⟩) ⟨Nat.zero_le _,fun x hx => by cases hx⟩ ⟨Nat.zero_le _,fun x hx => by cases hx⟩ zBat_ok zTab_ok hqok zResp_ok,XZ.out.1,XZ.out.2.2.2.2⟩
  rw [HCS.out]
  rfl
 | false =>
  go_wp2_with (first
    | (refine wpList_load_mid (by rfl) _ _ (by rfl) x 0 (by rfl) cs _ RX.out Tryz.underlying44 (by rfl) HI1.out ?_)
    | (refine wpList_store_row (by rfl) _ _ _ (by rfl) x cs.toArray (by rfl) (by rfl) 44 _ CQ.out HI2.out HSZ.out HONE.out ?_))
  refine bodyPost_ret (results_cl_tmp rfl _ _ _ _ _ _ rfl XZ.out.2.1 Tryz.underlying44 rfl HI1.out) rfl ?_
  rw [HSR.out]
  refine ⟨⟨.slice none 0 0,.slice none 0 0,.slice none 0 0,.slice none 0 0,.slice a0 rrs.length cp0,.slice none 0 0,.slice none 0 0⟩,?_,⟨own_nil _ _ _ _,own_nil _ _ _ _,own_nil _ _ _ _,tab_nil _ _,O0.out,own_nil _ _ _ _,own_nil _ _ _ _⟩,msgOk_of (by simp only [List.mem_cons,List.not_mem_nil,or_false,forall_eq_or_imp,forall_eq]; exact ⟨r0,r1,r2,r3,r4,⟨by decide,by decide⟩,⟨by decide,by decide⟩,⟨by decide,by decide⟩,⟨by decide,by decide⟩,⟨by decide,by decide⟩⟩) ⟨Nat.zero_le _,fun x hx => by cases hx⟩ ⟨Nat.zero_le _,fun x hx => by cases hx⟩ zBat_ok zTab_ok hqok zResp_ok,XZ.out.1,XZ.out.2.2.2.2⟩
  rw [HCS.out]
  rfl
end Go.Proofs.YtbljbdjmgogknaaGreatDoor
