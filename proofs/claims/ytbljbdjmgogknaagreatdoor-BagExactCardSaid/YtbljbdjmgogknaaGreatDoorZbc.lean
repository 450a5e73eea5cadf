/-
  Wn8 / Wn9 / Wn10 / Wna / Wnb / Wra: texts of one proof, one behind the other.
  Conditions: none of its own.
-/
import Derived.Test.YtbljbdjmgogknaaGreatDoorZbb
set_option linter.unusedVariables false
set_option linter.unusedSimpArgs false
set_option maxHeartbeats 25600000
set_option maxRecDepth 20000
namespace Go.Proofs.YtbljbdjmgogknaaGreatDoor
open Go.RowKit
theorem wread_k8 (p : Nat) (q : Bd.St) (w : World) (h : Rd w p q) (hl : q.1.length < 4294967281) (hw : ∀ W,Kp w p W → Lw W) (hk : vN q 0 = 8) :
  Calls Tryz.prog 59 #[.pointer (some ⟨p,0,none⟩)] w (ReadR w p (Wi.sMsg q)) := by
 have HW := hq' hw
 have HN : Hid (∀ k W,Rd W p (stN q k) → Lw W → Calls Tryz.prog 92 #[.pointer (some ⟨p,0,none⟩)] W (RdV (.int .i64 (vN q k)) W p (stN q (k + 1)))) := fun k W hr hL => int_any p (stN q k) W hr (by have := stN_len q k; omega) hL
 have I0 := hq' (HN.out 0)
 have r0 : Bd.inR (vN q 0) := sInt_inR _
 have I1 := hq' (HN.out 1)
 have r1 : Bd.inR (vN q 1) := sInt_inR _
 have I2 := hq' (HN.out 2)
 have r2 : Bd.inR (vN q 2) := sInt_inR _
 have I3 := hq' (HN.out 3)
 have r3 : Bd.inR (vN q 3) := sInt_inR _
 have I4 := hq' (HN.out 4)
 have r4 : Bd.inR (vN q 4) := sInt_inR _
 have I5 := hq' (HN.out 5)
 have r5 : Bd.inR (vN q 5) := sInt_inR _
 simp only [Nat.zero_add,Nat.reduceAdd] at I0 I1 I2 I3 I4 I5
 have hlz := stN_len q 6
 have hlt := sText_le 16384 (stN q 6)
 have HTX := hq' (fun W (hR : Rd W p (stN q 6)) (hL : Lw W) => text_any p 16384 (stN q 6) W hR (by omega) hL)
 have HDC := hq' (fun W (hL : Lw W) => ldec_any (Bd.sText 16384 (stN q 6)).1 (by omega) W hL)
 have hh : 4 ≤ vN q 0 := by omega
 have HS : Hid (Wi.sMsg q = ((⟨vN q 0,vN q 1,vN q 2,vN q 3,vN q 4,vN q 5,0,0,0,[],0,[],Wi.zBatch,(Wi.decTable (Bd.sText 16384 (stN q 6)).1).getD [],Wi.zReq,Wi.zResp⟩,(Wi.decTable (Bd.sText 16384 (stN q 6)).1).isSome),(Bd.sText 16384 (stN q 6)).2)) := by
  rw [Hid,Wi.sMsg,sHead_hi q hh]
  unfold Wi.sTail
  dsimp only
  rw [hk]
  rfl
 rw [hk] at I0 HS r0
 generalize (Bd.sText 16384 (stN q 6)).2 = qz at *
 generalize (Bd.sText 16384 (stN q 6)).1 = tx at *
 generalize Wi.decTable tx = od at *
 clear HN hw
 try dsimp only at *
 generalize vN q 1 = n1 at *
 generalize vN q 2 = n2 at *
 generalize vN q 3 = n3 at *
 generalize vN q 4 = n4 at *
 generalize vN q 5 = n5 at *
 generalize stN q 6 = q6 at *
 generalize stN q 5 = q5 at *
 generalize stN q 4 = q4 at *
 generalize stN q 3 = q3 at *
 generalize stN q 2 = q2 at *
 generalize stN q 1 = q1 at *
 have HSR := hq' HS.out
 obtain ⟨w0,hw0,X0⟩ := rx_new (q := stN q 0) h (zt0) 44
 have HW0 := hq' hw0
 clear hw0
 have hpl := h.lt
 generalize stN q 0 = q0 at *
 clear h
 go_enter Tryz.func59,Tryz.ntmps59
 go_upto_region 2 with (fail)
 rw [HW0.out]
 clear HW0
 generalize hx : w.heap.size = x at *
 have HX := hq' hx
 clear hx
 go_wp2_with fail
 refine (I0.out _ X0.out.1 (HW.out _ X0.out.2.2.2.2)).mono ?_
 rintro e u1 ⟨rfl,hr⟩
 have Y2 := hq' (X0.out.call hr)
 clear hr X0 I0
 go_wp2_with fail
 refine (I1.out _ Y2.out.1 (HW.out _ Y2.out.2.2.2.2)).mono ?_
 rintro e u3 ⟨rfl,hr⟩
 have Y4 := hq' (Y2.out.call hr)
 clear hr Y2 I1
 go_wp2_with fail
 refine (I2.out _ Y4.out.1 (HW.out _ Y4.out.2.2.2.2)).mono ?_
 rintro e u5 ⟨rfl,hr⟩
 have Y6 := hq' (Y4.out.call hr)
 clear hr Y4 I2
 have c0 := Y6.out.2.1.cell 0
 have f0 := Y6.out.2.1.free 0
 have c1 := Y6.out.2.1.cell 1
 have f1 := Y6.out.2.1.free 1
 have c2 := Y6.out.2.1.cell 2
 have f2 := Y6.out.2.1.free 2
 simp only [g0',gs'] at c0 c1 c2
 have Y7 : Hid (Rx w p x (((u5.setCell ⟨x,0,none⟩ (.int .i64 8)).setCell ⟨x,1,none⟩ (.int .i64 n1)).setCell ⟨x,2,none⟩ (.int .i64 n2)) q3 (.int .i64 8::.int .i64 n1::.int .i64 n2::zt3) 44) := (((Y6.out.store 0 (.int .i64 8)).store 1 (.int .i64 n1)).store 2 (.int .i64 n2))
 go_upto_region 3 with (fail)
 generalize (((u5.setCell ⟨x,0,none⟩ (.int .i64 8)).setCell ⟨x,1,none⟩ (.int .i64 n1)).setCell ⟨x,2,none⟩ (.int .i64 n2)) = u8 at *
 clear Y6 c0 f0 c1 f1 c2 f2
 have c0 := Y7.out.2.1.cell 0
 simp only [g0',gs'] at c0
 go_wp2_with fail
 refine (I3.out _ Y7.out.1 (HW.out _ Y7.out.2.2.2.2)).mono ?_
 rintro e u9 ⟨rfl,hr⟩
 have Y10 := hq' (Y7.out.call hr)
 clear hr Y7 I3
 clear c0
 go_wp2_with fail
 refine (I4.out _ Y10.out.1 (HW.out _ Y10.out.2.2.2.2)).mono ?_
 rintro e u11 ⟨rfl,hr⟩
 have Y12 := hq' (Y10.out.call hr)
 clear hr Y10 I4
 have c3 := Y12.out.2.1.cell 3
 have f3 := Y12.out.2.1.free 3
 have c4 := Y12.out.2.1.cell 4
 have f4 := Y12.out.2.1.free 4
 simp only [g0',gs'] at c3 c4
 have Y13 : Hid (Rx w p x ((u11.setCell ⟨x,3,none⟩ (.int .i64 n3)).setCell ⟨x,4,none⟩ (.int .i64 n4)) q5 (.int .i64 8::.int .i64 n1::.int .i64 n2::.int .i64 n3::.int .i64 n4::zt5) 44) := ((Y12.out.store 3 (.int .i64 n3)).store 4 (.int .i64 n4))
 go_upto_region 5 with (fail)
 generalize ((u11.setCell ⟨x,3,none⟩ (.int .i64 n3)).setCell ⟨x,4,none⟩ (.int .i64 n4)) = u14 at *
 clear Y12 c3 f3 c4 f4
 have c0 := Y13.out.2.1.cell 0
 simp only [g0',gs'] at c0
 go_wp2_with fail
 refine (I5.out _ Y13.out.1 (HW.out _ Y13.out.2.2.2.2)).mono ?_
 rintro e u15 ⟨rfl,hr⟩
 have Y16 := hq' (Y13.out.call hr)
 clear hr Y13 I5
 clear c0
 have c5 := Y16.out.2.1.cell 5
 have f5 := Y16.out.2.1.free 5
 simp only [g0',gs'] at c5
 have Y17 : Hid (Rx w p x (u15.setCell ⟨x,5,none⟩ (.int .i64 n5)) q6 (.int .i64 8::.int .i64 n1::.int .i64 n2::.int .i64 n3::.int .i64 n4::.int .i64 n5::zt6) 44) := (Y16.out.store 5 (.int .i64 n5))
 go_upto_region 22 with (fail)
 generalize (u15.setCell ⟨x,5,none⟩ (.int .i64 n5)) = u18 at *
 clear Y16 c5 f5
 go_wp2_with fail
 refine (HTX.out _ Y17.out.1 (HW.out _ Y17.out.2.2.2.2)).mono ?_
 rintro e ub ⟨rfl,hr⟩
 have XB := hq' (Y17.out.call hr)
 clear hr Y17 HTX
 have hxl := XB.out.2.1.lt
 have hbs : x ≤ ub.heap.size := by have := XB.out.2.2.2.2.size; have := HX.out; omega
 have HD9 := hq' (HDC.out ub (HW.out _ XB.out.2.2.2.2))
 clear HDC
 obtain ⟨ee,hee⟩ : ∃ ee : Int,ee = if od.isSome then 0 else 3 := ⟨_,rfl⟩
 unfold LedR at HD9
 rw [← hee] at HD9
 have HEE := hq' hee
 clear hee
 obtain ⟨tb,htb⟩ : ∃ tb : List Wi.Seen,tb = od.getD [] := ⟨_,rfl⟩
 rw [← htb] at HD9
 have HOB : Hid (od.getD [] = tb) := htb.symm
 clear htb
 go_wp2_with fail
 refine HD9.out.mono ?_
 rintro e uc ⟨rv,rfl,ho,hbok,hb9⟩
 have XC := hq' (XB.out.below hb9)
 have O0 := hq' ho
 have BK := hq' hbok
 obtain ⟨a0,cp0,he0⟩ := ho.tbl.form
 subst he0
 clear ho hbok hb9 HD9 XB
 have c18 := XC.out.2.1.cell 18
 have f18 := XC.out.2.1.free 18
 simp only [g0',gs'] at c18
 have Y19 : Hid (Rx w p x (uc.setCell ⟨x,18,none⟩ (.slice a0 tb.length cp0)) qz (.int .i64 8::.int .i64 n1::.int .i64 n2::.int .i64 n3::.int .i64 n4::.int .i64 n5::.int .i64 0::.int .i64 0::.int .i64 0::.slice none 0 0::.int .i64 0::.slice none 0 0::.int .i64 0::.int .i64 0::.int .i64 0::.int .i64 0::.int .i64 0::.slice none 0 0::.slice a0 tb.length cp0::zt19) 44) := (XC.out.store 18 (.slice a0 tb.length cp0))
 have KK : Hid (Keeps (fun j => j = x) uc (uc.setCell ⟨x,18,none⟩ (.slice a0 tb.length cp0))) := ((Keeps.refl (fun j => j = x) uc).trans (Keeps.setCell (fun j => j = x) _ ⟨x,18,none⟩ (.slice a0 tb.length cp0) rfl))
 go_upto_region 25 with (fail)
 generalize (uc.setCell ⟨x,18,none⟩ (.slice a0 tb.length cp0)) = u20 at *
 clear XC c18 f18
 have O0 := hq' (TabO.keepsS O0.out KK.out (fun j hj e => by omega))
 clear KK
 obtain ⟨cs,hcs⟩ : ∃ cs : List Value,cs = (.int .i64 8::.int .i64 n1::.int .i64 n2::.int .i64 n3::.int .i64 n4::.int .i64 n5::.int .i64 0::.int .i64 0::.int .i64 0::.slice none 0 0::.int .i64 0::.slice none 0 0::.int .i64 0::.int .i64 0::.int .i64 0::.int .i64 0::.int .i64 0::.slice none 0 0::.slice a0 tb.length cp0::zt19) := ⟨_,rfl⟩
 have HI1 : Hid ((Tryz.prog.info? 44).map (·.size) = some cs.length) := by rw [Hid,hcs]; kernel_rfl
 have HI2 : Hid ((Tryz.prog.info? 44).map (·.size) = some (cs.toArray : Array Value).size) := by rw [Hid,hcs]; kernel_rfl
 have HONE : Hid ((cs.toArray : Array Value).all (·.oneCell') = true) := by rw [Hid,hcs]; simp [Value.oneCell']
 have HSZ : Hid ((cs.toArray : Array Value).size = (cs.toArray : Array Value).size) := rfl
 have HCS := hq' hcs
 rw [← hcs] at Y19
 clear hcs
 have RX := hq' Y19.out.2.1.range
 have CQ : Hid (u20.heap[x]? = some (.cells cs.toArray 44 (0,0))) := Y19.out.2.1
 have XZ := hq' (Y19.out.rowed cs.toArray)
 have KR : Hid (Keeps (fun i => i = x) u20 (u20.setRow x cs.toArray)) := Keeps.row _ _ _ rfl
 have O0 := hq' ((TabO.keepsS O0.out KR.out (fun j hj e => by omega)).weaken (by have := HX.out; omega : w.heap.size ≤ _))
 rw [HOB.out] at HSR
 have he9 : (ee == 0) = od.isSome := by rw [HEE.out]; cases od <;> rfl
 clear HEE HOB HS
 generalize od.isSome = oks at *
 cases oks with
 | true =>
  go_wp2_with (first
    | (refine wpList_load_mid (by rfl) _ _ (by rfl) x 0 (by rfl) cs _ RX.out Tryz.underlying44 (by rfl) HI1.out ?_)
    | (refine wpList_store_row (by rfl) _ _ _ (by rfl) x cs.toArray (by rfl) (by rfl) 44 _ CQ.out HI2.out HSZ.out HONE.out ?_))
  refine bodyPost_ret (results_cl_tmp rfl _ _ _ _ _ _ rfl XZ.out.2.1 Tryz.underlying44 rfl HI1.out) rfl ?_
  rw [HSR.out]
  refine ⟨⟨.slice none 0 0,.slice none 0 0,.slice none 0 0,.slice a0 tb.length cp0,.slice none 0 0,.slice none 0 0,.slice none 0 0⟩,?_,⟨own_nil _ _ _ _,own_nil _ _ _ _,own_nil _ _ _ _,O0.out,own_nil _ _ _ _,own_nil _ _ _ _,own_nil _ _ _ _⟩,msgOk_of (by simp only [List.mem_cons,List.not_mem_nil,or_false,forall_eq_or_imp,forall_eq]; exact ⟨r0,r1,r2,r3,r4,r5,⟨by decide,by decide⟩,⟨by decide,by decide⟩,⟨by decide,by decide⟩,⟨by decide,by decide⟩⟩) ⟨Nat.zero_le _,fun x hx => by cases hx⟩ ⟨Nat.zero_le _,fun x hx => by cases hx⟩ zBat_ok BK.out zReq_ok zResp_ok,XZ.out.1,XZ.out.2.2.2.2⟩
  rw [HCS.out]
  rfl
 | false =>
  go_wp2_with (first
    | (refine wpList_load_mid (by rfl) _ _ (by rfl) x 0 (by rfl) cs _ RX.out Tryz.underlying44 (by rfl) HI1.out ?_)
    | (refine wpList_store_row (by rfl) _ _ _ (by rfl) x cs.toArray (by rfl) (by rfl) 44 _ CQ.out HI2.out HSZ.out HONE.out ?_))
  refine bodyPost_ret (results_cl_tmp rfl _ _ _ _ _ _ rfl XZ.out.2.1 Tryz.underlying44 rfl HI1.out) rfl ?_
  rw [HSR.out]
  refine ⟨⟨.slice none 0 0,.slice none 0 0,.slice none 0 0,.slice a0 tb.length cp0,.slice none 0 0,.slice none 0 0,.slice none 0 0⟩,?_,⟨own_nil _ _ _ _,own_nil _ _ _ _,own_nil _ _ _ _,O0.out,own_nil _ _ _ _,own_nil _ _ _ _,own_nil _ _ _ _⟩,msgOk_of (by simp only [List.mem_cons,List.not_mem_nil,or_false,forall_eq_or_imp,forall_eq]; exact ⟨r0,r1,r2,r3,r4,r5,⟨by decide,by decide⟩,⟨by decide,by decide⟩,⟨by decide,by decide⟩,⟨by decide,by decide⟩⟩) ⟨Nat.zero_le _,fun x hx => by cases hx⟩ ⟨Nat.zero_le _,fun x hx => by cases hx⟩ zBat_ok BK.out zReq_ok zResp_ok,XZ.out.1,XZ.out.2.2.2.2⟩
  rw [HCS.out]
  rfl
theorem wread_k9 (p : Nat) (q : Bd.St) (w : World) (h : Rd w p q) (hl : q.1.length < 4294967281) (hw : ∀ W,Kp w p W → Lw W) (hk : vN q 0 = 9) :
  Calls Tryz.prog 59 #[.pointer (some ⟨p,0,none⟩)] w (ReadR w p (Wi.sMsg q)) := by
 have HW := hq' hw
 have HN : Hid (∀ k W,Rd W p (stN q k) → Lw W → Calls Tryz.prog 92 #[.pointer (some ⟨p,0,none⟩)] W (RdV (.int .i64 (vN q k)) W p (stN q (k + 1)))) := fun k W hr hL => int_any p (stN q k) W hr (by have := stN_len q k; omega) hL
 have I0 := hq' (HN.out 0)
 have r0 : Bd.inR (vN q 0) := sInt_inR _
 have I1 := hq' (HN.out 1)
 have r1 : Bd.inR (vN q 1) := sInt_inR _
 have I2 := hq' (HN.out 2)
 have r2 : Bd.inR (vN q 2) := sInt_inR _
 have I3 := hq' (HN.out 3)
 have r3 : Bd.inR (vN q 3) := sInt_inR _
 have I4 := hq' (HN.out 4)
 have r4 : Bd.inR (vN q 4) := sInt_inR _
 have I5 := hq' (HN.out 5)
 have r5 : Bd.inR (vN q 5) := sInt_inR _
 simp only [Nat.zero_add,Nat.reduceAdd] at I0 I1 I2 I3 I4 I5
 have hh : 4 ≤ vN q 0 := by omega
 have HS : Hid (Wi.sMsg q = ((⟨vN q 0,vN q 1,vN q 2,vN q 3,vN q 4,vN q 5,0,0,0,[],0,[],Wi.zBatch,[],Wi.zReq,Wi.zResp⟩,true),stN q 6)) := by
  rw [Hid,Wi.sMsg,sHead_hi q hh]
  unfold Wi.sTail
  dsimp only
  rw [hk]
  rfl
 rw [hk] at I0 HS r0
 clear HN hw
 try dsimp only at *
 generalize vN q 1 = n1 at *
 generalize vN q 2 = n2 at *
 generalize vN q 3 = n3 at *
 generalize vN q 4 = n4 at *
 generalize vN q 5 = n5 at *
 generalize stN q 6 = q6 at *
 generalize stN q 5 = q5 at *
 generalize stN q 4 = q4 at *
 generalize stN q 3 = q3 at *
 generalize stN q 2 = q2 at *
 generalize stN q 1 = q1 at *
 have HSR := hq' HS.out
 obtain ⟨w0,hw0,X0⟩ := rx_new (q := stN q 0) h (zt0) 44
 have HW0 := hq' hw0
 clear hw0
 have hpl := h.lt
 generalize stN q 0 = q0 at *
 clear h
 go_enter Tryz.func59,Tryz.ntmps59
 go_upto_region 2 with (fail)
 rw [HW0.out]
 clear HW0
 generalize hx : w.heap.size = x at *
 have HX := hq' hx
 clear hx
 go_wp2_with fail
 refine (I0.out _ X0.out.1 (HW.out _ X0.out.2.2.2.2)).mono ?_
 rintro e u1 ⟨rfl,hr⟩
 have Y2 := hq' (X0.out.call hr)
 clear hr X0 I0
 go_wp2_with fail
 refine (I1.out _ Y2.out.1 (HW.out _ Y2.out.2.2.2.2)).mono ?_
 rintro e u3 ⟨rfl,hr⟩
 have Y4 := hq' (Y2.out.call hr)
 clear hr Y2 I1
 go_wp2_with fail
 refine (I2.out _ Y4.out.1 (HW.out _ Y4.out.2.2.2.2)).mono ?_
 rintro e u5 ⟨rfl,hr⟩
 have Y6 := hq' (Y4.out.call hr)
 clear hr Y4 I2
 have c0 := Y6.out.2.1.cell 0
 have f0 := Y6.out.2.1.free 0
 have c1 := Y6.out.2.1.cell 1
 have f1 := Y6.out.2.1.free 1
 have c2 := Y6.out.2.1.cell 2
 have f2 := Y6.out.2.1.free 2
 simp only [g0',gs'] at c0 c1 c2
 have Y7 : Hid (Rx w p x (((u5.setCell ⟨x,0,none⟩ (.int .i64 9)).setCell ⟨x,1,none⟩ (.int .i64 n1)).setCell ⟨x,2,none⟩ (.int .i64 n2)) q3 (.int .i64 9::.int .i64 n1::.int .i64 n2::zt3) 44) := (((Y6.out.store 0 (.int .i64 9)).store 1 (.int .i64 n1)).store 2 (.int .i64 n2))
 go_upto_region 3 with (fail)
 generalize (((u5.setCell ⟨x,0,none⟩ (.int .i64 9)).setCell ⟨x,1,none⟩ (.int .i64 n1)).setCell ⟨x,2,none⟩ (.int .i64 n2)) = u8 at *
 clear Y6 c0 f0 c1 f1 c2 f2
 have c0 := Y7.out.2.1.cell 0
 simp only [g0',gs'] at c0
 go_wp2_with fail
 refine (I3.out _ Y7.out.1 (HW.out _ Y7.out.2.2.2.2)).mono ?_
 rintro e u9 ⟨rfl,hr⟩
 have Y10 := hq' (Y7.out.call hr)
 clear hr Y7 I3
 clear c0
 go_wp2_with fail
 refine (I4.out _ Y10.out.1 (HW.out _ Y10.out.2.2.2.2)).mono ?_
 rintro e u11 ⟨rfl,hr⟩
 have Y12 := hq' (Y10.out.call hr)
 clear hr Y10 I4
 have c3 := Y12.out.2.1.cell 3
 have f3 := Y12.out.2.1.free 3
 have c4 := Y12.out.2.1.cell 4
 have f4 := Y12.out.2.1.free 4
 simp only [g0',gs'] at c3 c4
 have Y13 : Hid (Rx w p x ((u11.setCell ⟨x,3,none⟩ (.int .i64 n3)).setCell ⟨x,4,none⟩ (.int .i64 n4)) q5 (.int .i64 9::.int .i64 n1::.int .i64 n2::.int .i64 n3::.int .i64 n4::zt5) 44) := ((Y12.out.store 3 (.int .i64 n3)).store 4 (.int .i64 n4))
 go_upto_region 5 with (fail)
 generalize ((u11.setCell ⟨x,3,none⟩ (.int .i64 n3)).setCell ⟨x,4,none⟩ (.int .i64 n4)) = u14 at *
 clear Y12 c3 f3 c4 f4
 have c0 := Y13.out.2.1.cell 0
 simp only [g0',gs'] at c0
 go_wp2_with fail
 refine (I5.out _ Y13.out.1 (HW.out _ Y13.out.2.2.2.2)).mono ?_
 rintro e u15 ⟨rfl,hr⟩
 have Y16 := hq' (Y13.out.call hr)
 clear hr Y13 I5
 clear c0
 have c5 := Y16.out.2.1.cell 5
 have f5 := Y16.out.2.1.free 5
 simp only [g0',gs'] at c5
 have Y17 : Hid (Rx w p x (u15.setCell ⟨x,5,none⟩ (.int .i64 n5)) q6 (.int .i64 9::.int .i64 n1::.int .i64 n2::.int .i64 n3::.int .i64 n4::.int .i64 n5::zt6) 44) := (Y16.out.store 5 (.int .i64 n5))
 go_upto_region 25 with (fail)
 generalize (u15.setCell ⟨x,5,none⟩ (.int .i64 n5)) = u18 at *
 clear Y16 c5 f5
 obtain ⟨cs,hcs⟩ : ∃ cs : List Value,cs = (.int .i64 9::.int .i64 n1::.int .i64 n2::.int .i64 n3::.int .i64 n4::.int .i64 n5::zt6) := ⟨_,rfl⟩
 have HI1 : Hid ((Tryz.prog.info? 44).map (·.size) = some cs.length) := by rw [Hid,hcs]; kernel_rfl
 have HI2 : Hid ((Tryz.prog.info? 44).map (·.size) = some (cs.toArray : Array Value).size) := by rw [Hid,hcs]; kernel_rfl
 have HONE : Hid ((cs.toArray : Array Value).all (·.oneCell') = true) := by rw [Hid,hcs]; simp [Value.oneCell']
 have HSZ : Hid ((cs.toArray : Array Value).size = (cs.toArray : Array Value).size) := rfl
 have HCS := hq' hcs
 rw [← hcs] at Y17
 clear hcs
 have RX := hq' Y17.out.2.1.range
 have CQ : Hid (u18.heap[x]? = some (.cells cs.toArray 44 (0,0))) := Y17.out.2.1
 have XZ := hq' (Y17.out.rowed cs.toArray)
 have KR : Hid (Keeps (fun i => i = x) u18 (u18.setRow x cs.toArray)) := Keeps.row _ _ _ rfl
 go_wp2_with (first
   | (refine wpList_load_mid (by rfl) _ _ (by rfl) x 0 (by rfl) cs _ RX.out Tryz.underlying44 (by rfl) HI1.out ?_)
   | (refine wpList_store_row (by rfl) _ _ _ (by rfl) x cs.toArray (by rfl) (by rfl) 44 _ CQ.out HI2.out HSZ.out HONE.out ?_))
 refine bodyPost_ret (results_cl_tmp rfl _ _ _ _ _ _ rfl XZ.out.2.1 Tryz.underlying44 rfl HI1.out) rfl ?_
 rw [HSR.out]
 refine ⟨⟨.slice none 0 0,.slice none 0 0,.slice none 0 0,.slice none 0 0,.slice none 0 0,.slice none 0 0,.slice none 0 0⟩,?_,⟨own_nil _ _ _ _,own_nil _ _ _ _,own_nil _ _ _ _,tab_nil _ _,own_nil _ _ _ _,own_nil _ _ _ _,own_nil _ _ _ _⟩,msgOk_of (by simp only [List.mem_cons,List.not_mem_nil,or_false,forall_eq_or_imp,forall_eq]; exact ⟨r0,r1,r2,r3,r4,r5,⟨by decide,by decide⟩,⟨by decide,by decide⟩,⟨by decide,by decide⟩,⟨by decide,by decide⟩⟩) ⟨Nat.zero_le _,fun x hx => by cases hx⟩ ⟨Nat.zero_le _,fun x hx => by cases hx⟩ zBat_ok zTab_ok zReq_ok zResp_ok,XZ.out.1,XZ.out.2.2.2.2⟩
 rw [HCS.out]
 rfl
theorem wread_hi (p : Nat) (q : Bd.St) (w : World) (h : Rd w p q) (hl : q.1.length < 4294967281) (hw : ∀ W,Kp w p W → Lw W) (hk : 10 ≤ vN q 0) :
  Calls Tryz.prog 59 #[.pointer (some ⟨p,0,none⟩)] w (ReadR w p (Wi.sMsg q)) := by
 have HW := hq' hw
 have HN : Hid (∀ k W,Rd W p (stN q k) → Lw W → Calls Tryz.prog 92 #[.pointer (some ⟨p,0,none⟩)] W (RdV (.int .i64 (vN q k)) W p (stN q (k + 1)))) := fun k W hr hL => int_any p (stN q k) W hr (by have := stN_len q k; omega) hL
 have I0 := hq' (HN.out 0)
 have r0 : Bd.inR (vN q 0) := sInt_inR _
 have I1 := hq' (HN.out 1)
 have r1 : Bd.inR (vN q 1) := sInt_inR _
 have I2 := hq' (HN.out 2)
 have r2 : Bd.inR (vN q 2) := sInt_inR _
 have I3 := hq' (HN.out 3)
 have r3 : Bd.inR (vN q 3) := sInt_inR _
 have I4 := hq' (HN.out 4)
 have r4 : Bd.inR (vN q 4) := sInt_inR _
 simp only [Nat.zero_add,Nat.reduceAdd] at I0 I1 I2 I3 I4
 have hh : 4 ≤ vN q 0 := by omega
 have HS : Hid (Wi.sMsg q = ((⟨vN q 0,vN q 1,vN q 2,vN q 3,vN q 4,0,0,0,0,[],0,[],Wi.zBatch,[],Wi.zReq,Wi.zResp⟩,true),stN q 5)) := by
  rw [Hid,Wi.sMsg,sHead_hi q hh]
  unfold Wi.sTail
  dsimp only
  rw [if_neg (by omega),if_neg (by omega),if_neg (by omega),if_neg (by omega),if_neg (by omega),if_neg (by omega),if_neg (by omega),if_neg (by omega)]
 clear HN hw
 try dsimp only at *
 generalize vN q 0 = n0 at *
 generalize vN q 1 = n1 at *
 generalize vN q 2 = n2 at *
 generalize vN q 3 = n3 at *
 generalize vN q 4 = n4 at *
 generalize stN q 5 = q5 at *
 generalize stN q 4 = q4 at *
 generalize stN q 3 = q3 at *
 generalize stN q 2 = q2 at *
 generalize stN q 1 = q1 at *
 have HSR := hq' HS.out
 obtain ⟨w0,hw0,X0⟩ := rx_new (q := stN q 0) h (zt0) 44
 have HW0 := hq' hw0
 clear hw0
 have hpl := h.lt
 generalize stN q 0 = q0 at *
 clear h
 have t4 : decide (4 ≤ n0) = true := by simp; omega
 have t1b : (n0 == 1) = false := by simp; omega
 have t7b : (n0 == 7) = false := by simp; omega
 have t2b : (n0 == 2) = false := by simp; omega
 have t3b : (n0 == 3) = false := by simp; omega
 have t4b : (n0 == 4) = false := by simp; omega
 have t5b : (n0 == 5) = false := by simp; omega
 have t6b : (n0 == 6) = false := by simp; omega
 have t8b : (n0 == 8) = false := by simp; omega
 have t9b : (n0 == 9) = false := by simp; omega
 go_enter Tryz.func59,Tryz.ntmps59
 go_upto_region 2 with (fail)
 rw [HW0.out]
 clear HW0
 generalize hx : w.heap.size = x at *
 have HX := hq' hx
 clear hx
 go_wp2_with fail
 refine (I0.out _ X0.out.1 (HW.out _ X0.out.2.2.2.2)).mono ?_
 rintro e u1 ⟨rfl,hr⟩
 have Y2 := hq' (X0.out.call hr)
 clear hr X0 I0
 go_wp2_with fail
 refine (I1.out _ Y2.out.1 (HW.out _ Y2.out.2.2.2.2)).mono ?_
 rintro e u3 ⟨rfl,hr⟩
 have Y4 := hq' (Y2.out.call hr)
 clear hr Y2 I1
 go_wp2_with fail
 refine (I2.out _ Y4.out.1 (HW.out _ Y4.out.2.2.2.2)).mono ?_
 rintro e u5 ⟨rfl,hr⟩
 have Y6 := hq' (Y4.out.call hr)
 clear hr Y4 I2
 have c0 := Y6.out.2.1.cell 0
 have f0 := Y6.out.2.1.free 0
 have c1 := Y6.out.2.1.cell 1
 have f1 := Y6.out.2.1.free 1
 have c2 := Y6.out.2.1.cell 2
 have f2 := Y6.out.2.1.free 2
 simp only [g0',gs'] at c0 c1 c2
 have Y7 : Hid (Rx w p x (((u5.setCell ⟨x,0,none⟩ (.int .i64 n0)).setCell ⟨x,1,none⟩ (.int .i64 n1)).setCell ⟨x,2,none⟩ (.int .i64 n2)) q3 (.int .i64 n0::.int .i64 n1::.int .i64 n2::zt3) 44) := (((Y6.out.store 0 (.int .i64 n0)).store 1 (.int .i64 n1)).store 2 (.int .i64 n2))
 go_upto_region 3 with (fail)
 generalize (((u5.setCell ⟨x,0,none⟩ (.int .i64 n0)).setCell ⟨x,1,none⟩ (.int .i64 n1)).setCell ⟨x,2,none⟩ (.int .i64 n2)) = u8 at *
 clear Y6 c0 f0 c1 f1 c2 f2
 have c0 := Y7.out.2.1.cell 0
 simp only [g0',gs'] at c0
 go_wp2_with fail
 refine (I3.out _ Y7.out.1 (HW.out _ Y7.out.2.2.2.2)).mono ?_
 rintro e u9 ⟨rfl,hr⟩
 have Y10 := hq' (Y7.out.call hr)
 clear hr Y7 I3
 clear c0
 go_wp2_with fail
 refine (I4.out _ Y10.out.1 (HW.out _ Y10.out.2.2.2.2)).mono ?_
 rintro e u11 ⟨rfl,hr⟩
 have Y12 := hq' (Y10.out.call hr)
 clear hr Y10 I4
 have c3 := Y12.out.2.1.cell 3
 have f3 := Y12.out.2.1.free 3
 have c4 := Y12.out.2.1.cell 4
 have f4 := Y12.out.2.1.free 4
 simp only [g0',gs'] at c3 c4
 have Y13 : Hid (Rx w p x ((u11.setCell ⟨x,3,none⟩ (.int .i64 n3)).setCell ⟨x,4,none⟩ (.int .i64 n4)) q5 (.int .i64 n0::.int .i64 n1::.int .i64 n2::.int .i64 n3::.int .i64 n4::zt5) 44) := ((Y12.out.store 3 (.int .i64 n3)).store 4 (.int .i64 n4))
 go_upto_region 5 with (fail)
 generalize ((u11.setCell ⟨x,3,none⟩ (.int .i64 n3)).setCell ⟨x,4,none⟩ (.int .i64 n4)) = u14 at *
 clear Y12 c3 f3 c4 f4
 have c0 := Y13.out.2.1.cell 0
 simp only [g0',gs'] at c0
 go_upto_region 25 with (fail)
 clear c0
 obtain ⟨cs,hcs⟩ : ∃ cs : List Value,cs = (.int .i64 n0::.int .i64 n1::.int .i64 n2::.int .i64 n3::.int .i64 n4::zt5) := ⟨_,rfl⟩
 have HI1 : Hid ((Tryz.prog.info? 44).map (·.size) = some cs.length) := by rw [Hid,hcs]; kernel_rfl
 have HI2 : Hid ((Tryz.prog.info? 44).map (·.size) = some (cs.toArray : Array Value).size) := by rw [Hid,hcs]; kernel_rfl
 have HONE : Hid ((cs.toArray : Array Value).all (·.oneCell') = true) := by rw [Hid,hcs]; simp [Value.oneCell']
 have HSZ : Hid ((cs.toArray : Array Value).size = (cs.toArray : Array Value).size) := rfl
 have HCS := hq' hcs
 rw [← hcs] at Y13
 clear hcs
 have RX := hq' Y13.out.2.1.range
 have CQ : Hid (u14.heap[x]? = some (.cells cs.toArray 44 (0,0))) := Y13.out.2.1
 have XZ := hq' (Y13.out.rowed cs.toArray)
 have KR : Hid (Keeps (fun i => i = x) u14 (u14.setRow x cs.toArray)) := Keeps.row _ _ _ rfl
 go_wp2_with (first
   | (refine wpList_load_mid (by rfl) _ _ (by rfl) x 0 (by rfl) cs _ RX.out Tryz.underlying44 (by rfl) HI1.out ?_)
   | (refine wpList_store_row (by rfl) _ _ _ (by rfl) x cs.toArray (by rfl) (by rfl) 44 _ CQ.out HI2.out HSZ.out HONE.out ?_))
 refine bodyPost_ret (results_cl_tmp rfl _ _ _ _ _ _ rfl XZ.out.2.1 Tryz.underlying44 rfl HI1.out) rfl ?_
 rw [HSR.out]
 refine ⟨⟨.slice none 0 0,.slice none 0 0,.slice none 0 0,.slice none 0 0,.slice none 0 0,.slice none 0 0,.slice none 0 0⟩,?_,⟨own_nil _ _ _ _,own_nil _ _ _ _,own_nil _ _ _ _,tab_nil _ _,own_nil _ _ _ _,own_nil _ _ _ _,own_nil _ _ _ _⟩,msgOk_of (by simp only [List.mem_cons,List.not_mem_nil,or_false,forall_eq_or_imp,forall_eq]; exact ⟨r0,r1,r2,r3,r4,⟨by decide,by decide⟩,⟨by decide,by decide⟩,⟨by decide,by decide⟩,⟨by decide,by decide⟩,⟨by decide,by decide⟩⟩) ⟨Nat.zero_le _,fun x hx => by cases hx⟩ ⟨Nat.zero_le _,fun x hx => by cases hx⟩ zBat_ok zTab_ok zReq_ok zResp_ok,XZ.out.1,XZ.out.2.2.2.2⟩
 rw [HCS.out]
 rfl
theorem wread_any (p : Nat) (q : Bd.St) (w : World) (h : Rd w p q) (hl : q.1.length < 4294967281) (hw : ∀ W,Kp w p W → Lw W) :
  Calls Tryz.prog 59 #[.pointer (some ⟨p,0,none⟩)] w (ReadR w p (Wi.sMsg q)) := by
 by_cases h0 : vN q 0 ≤ 0
 ·exact wread_lo p q w h hl hw h0
 by_cases h1 : vN q 0 = 1
 ·exact wread_k1 p q w h hl hw h1
 by_cases h2 : vN q 0 = 2
 ·exact wread_k2 p q w h hl hw h2
 by_cases h3 : vN q 0 = 3
 ·exact wread_k3 p q w h hl hw h3
 by_cases h4 : vN q 0 = 4
 ·exact wread_k4 p q w h hl hw h4
 by_cases h5 : vN q 0 = 5
 ·exact wread_k5 p q w h hl hw h5
 by_cases h6 : vN q 0 = 6
 ·exact wread_k6 p q w h hl hw h6
 by_cases h7 : vN q 0 = 7
 ·exact wread_k7 p q w h hl hw h7
 by_cases h8 : vN q 0 = 8
 ·exact wread_k8 p q w h hl hw h8
 by_cases h9 : vN q 0 = 9
 ·exact wread_k9 p q w h hl hw h9
 exact wread_hi p q w h hl hw (by omega)
def decM (s : List UInt8) : Option Wi.Msg × Int :=
 if (Frm.next s 0).2.2 ≠ 0 then (none,(Frm.next s 0).2.2) else
 if (Wi.sMsg (Bd.sSign 108 ((Frm.next s 0).1,false))).1.2 && (decide ((Frm.next s 0).2.1 = s.length) && (decide (Bd.sDone (Bd.sSign 101 (Wi.sMsg (Bd.sSign 108 ((Frm.next s 0).1,false))).2) = 0) && Wi.good (Wi.sMsg (Bd.sSign 108 ((Frm.next s 0).1,false))).1.1))
 then (some (Wi.sMsg (Bd.sSign 108 ((Frm.next s 0).1,false))).1.1,0) else (none,3)
def DecR (w : World) (r : Option Wi.Msg × Int) (e : Ending) (w' : World) : Prop :=
 ∃ v,e = .returned (.tuple #[msgV (r.1.getD Wi.zMsg) v,.int .i64 r.2]) ∧ MsgO w' w.heap.size (r.1.getD Wi.zMsg) v ∧ MsgOk (r.1.getD Wi.zMsg) ∧ Below w.heap.size w w'
theorem zMsg_ok : MsgOk Wi.zMsg := msgOk_of (by simp only [Wi.zMsg,List.mem_cons,List.not_mem_nil,or_false,forall_eq_or_imp,forall_eq,and_self]; exact ⟨by decide,by decide⟩) ⟨Nat.zero_le _,fun x hx => by cases hx⟩ ⟨Nat.zero_le _,fun x hx => by cases hx⟩ zBat_ok zTab_ok zReq_ok zResp_ok
theorem DecR.no {w w' : World} {n : Int} (h : Below w.heap.size w w') : DecR w (none,n) (.returned (.tuple #[.agg (zt0).toArray,.int .i64 n])) w' :=
 ⟨zeroV,rfl,⟨own_nil _ _ _ _,own_nil _ _ _ _,own_nil _ _ _ _,tab_nil _ _,own_nil _ _ _ _,own_nil _ _ _ _,own_nil _ _ _ _⟩,zMsg_ok,h⟩
theorem MsgO.weaken {w : World} {B B' : Nat} {m : Wi.Msg} {v : MsgV} (h : MsgO w B m v) (hb : B' ≤ B) : MsgO w B' m v :=
 ⟨ownsRow_weaken h.chain hb,ownsRow_weaken h.lives hb,ownsRow_weaken h.brecs hb,h.table.weaken hb,ownsRow_weaken h.qrecs hb,ownsRow_weaken h.parts hb,ownsRow_weaken h.arecs hb⟩
theorem next_most (s : List UInt8) (h : (Frm.next s 0).2.2 = 0) : (Frm.next s 0).1.length ≤ 16384 := by
 obtain ⟨_,h2,_,_,_,h6⟩ := Frm.next_zero (l := s) (k := 0) h
 exact Nat.le_trans (Nat.le_of_eq h6) h2
theorem no_row {W9 w : World} {pr : Nat} (c : Cl W9 pr (zt0) 44) (b : Below w.heap.size w W9) (h : w.heap.size ≤ pr) : ∃ wf,W9.setRow pr (zt0).toArray = wf ∧ Hid (Cl wf pr (zt0) 44) ∧ Hid (Below w.heap.size w wf) ∧ Hid (W9.heap[pr]? = some (.cells (zt0).toArray 44 (0,0))) :=
 ⟨_,rfl,c.row _,b.trans ((Keeps.row (S := fun j => j = pr) W9 pr _ rfl).toBelow b.size (fun k hk e => by omega)),c⟩
theorem wdecode_most (s : List UInt8) (hs : s.length ≤ maxLen) (w : World) (hw : Lw w) :
  Calls Tryz.prog 26 #[.string ⟨s.toArray⟩] w (DecR w (decM s)) := by
 have HW := hq' hw
 have HN : Hid (∀ W,Calls Tryz.prog 56 #[.string ⟨s.toArray⟩,.int .i64 0] W fun e w' => e = .returned (.tuple #[.string ⟨(Frm.next s 0).1.toArray⟩,.int .i64 (Frm.next s 0).2.1,.int .i64 (Frm.next s 0).2.2]) ∧ Below W.heap.size W w') := fun W => next_any s 0 W hs
 have HD : Hid (decM s = if (Frm.next s 0).2.2 ≠ 0 then (none,(Frm.next s 0).2.2) else if (Wi.sMsg (Bd.sSign 108 ((Frm.next s 0).1,false))).1.2 && (decide ((Frm.next s 0).2.1 = s.length) && (decide (Bd.sDone (Bd.sSign 101 (Wi.sMsg (Bd.sSign 108 ((Frm.next s 0).1,false))).2) = 0) && Wi.good (Wi.sMsg (Bd.sSign 108 ((Frm.next s 0).1,false))).1.1))
  then (some (Wi.sMsg (Bd.sSign 108 ((Frm.next s 0).1,false))).1.1,0) else (none,3)) := rfl
 have hs9 : s.length ≤ 9223372036854775807 := hs
 clear hs
 have hbl : (Frm.next s 0).2.2 = 0 → (Frm.next s 0).1.length ≤ 16384 := next_most s
 have HIL : Hid ((Tryz.prog.info? 44).map (·.size) = some ((zt0) : List Value).length) := by rw [Hid]; kernel_rfl
 have HIA : Hid ((Tryz.prog.info? 44).map (·.size) = some ((zt0).toArray : Array Value).size) := by rw [Hid]; kernel_rfl
 have HONE : Hid (((zt0).toArray : Array Value).all (·.oneCell') = true) := by simp [Hid,Value.oneCell']
 have HSZ : Hid (((zt0).toArray : Array Value).size = ((zt0).toArray : Array Value).size) := rfl
 have C1 : Hid (Cl (w.alloc (.cells (zt0).toArray 44)) w.heap.size (zt0) 44) := Cl.new w (zt0) _
 have B1 : Hid (Below w.heap.size w (w.alloc (.cells (zt0).toArray 44))) := (Below.refl _ _).alloc (Nat.le_refl _) _
 clear hw
 generalize (Frm.next s 0).2.2 = er at *
 generalize (Frm.next s 0).2.1 = pos at *
 generalize (Frm.next s 0).1 = bb at *
 go_enter Tryz.func26,Tryz.ntmps26
 go_upto_region 1 with (fail)
 generalize w.alloc (.cells (zt0).toArray 44) = w1 at *
 obtain ⟨pr,hpr⟩ : ∃ pr,pr = w.heap.size := ⟨_,rfl⟩
 rw [← hpr] at C1 ⊢
 have HPR := hq' hpr
 clear hpr
 by_cases her : er = 0
 rotate_left
 ·have HR : Hid (decM s = (none,er)) := by rw [Hid,HD.out,if_pos her]
  have her2 : (er != 0) = true := by simpa using her
  clear HD hbl her
  go_wp2_with fail
  refine (HN.out _).mono ?_
  rintro e W9 ⟨rfl,hb⟩
  have B9 := hq' (bt B1.out hb)
  have CR9 := hq' (C1.out.below hb)
  clear hb B1 C1 HN
  obtain ⟨wf,hwf,CF,BF,CQ⟩ := no_row (pr := pr) CR9.out B9.out (Nat.le_of_eq HPR.out.symm)
  have HWF := hq' hwf
  clear hwf
  go_wp2_with (first
   | (refine wpList_store_row (by rfl) _ _ _ (by rfl) pr (zt0).toArray (by rfl) (by rfl) 44 _ CQ.out HIA.out rfl HONE.out ?_)
   | fail)
  first | rw [HWF.out] | skip
  refine bodyPost_ret (results_cl_tmp rfl _ _ _ _ _ _ rfl CF.out Tryz.underlying44 rfl HIL.out) rfl ?_
  rw [HR.out]
  exact DecR.no BF.out
 subst her
 have hbl2 := hbl rfl
 have HD1 : Hid (decM s = if (Wi.sMsg (Bd.sSign 108 (bb,false))).1.2 && (decide (pos = s.length) && (decide (Bd.sDone (Bd.sSign 101 (Wi.sMsg (Bd.sSign 108 (bb,false))).2) = 0) && Wi.good (Wi.sMsg (Bd.sSign 108 (bb,false))).1.1)) then (some (Wi.sMsg (Bd.sSign 108 (bb,false))).1.1,0) else (none,3)) := by rw [Hid,HD.out,if_neg (by simp)]
 have hq1 := sSign_len 108 (bb,false)
 have HOP := hq' (fun (p : Nat) (W : World) (h : Rd W p (bb,false)) => open_any p (bb,false) W h)
 have HRD := hq' (fun (p : Nat) (W : World) (h : Rd W p (Bd.sSign 108 (bb,false))) (hL : ∀ W',Kp W p W' → Lw W') => wread_any p (Bd.sSign 108 (bb,false)) W h (by simp only at hq1; omega) hL)
 clear HD hbl hq1
 generalize Bd.sSign 108 (bb,false) = q1 at *
 unfold ReadR at HRD
 generalize (Wi.sMsg q1).1.1 = m at *
 generalize (Wi.sMsg q1).1.2 = ok at *
 generalize (Wi.sMsg q1).2 = q2 at *
 go_wp2_with fail
 refine (HN.out _).mono ?_
 rintro e w2 ⟨rfl,hb⟩
 have B2 := hq' (bt B1.out hb)
 have C2 := hq' (C1.out.below hb)
 have L2 := hq' (HW.out.below B2.out)
 clear hb B1 C1 HN
 go_wp2_with fail
 refine (new_any bb w2).mono ?_
 rintro e w3 ⟨rfl,hw3⟩
 have D3 : Hid (Rd w3 w2.heap.size (bb,false)) := by rw [hw3]; exact Rd.new bb w2
 have b3 : Below w2.heap.size w2 w3 := by rw [hw3]; exact (Below.refl _ _).alloc (Nat.le_refl _) _
 have C3 := hq' (C2.out.below b3)
 have b23 := hq' b3
 have hpp : pr ≠ w2.heap.size := Nat.ne_of_lt C2.out.lt
 have hs2 := B2.out.size
 clear hw3 b3
 obtain ⟨p,hp⟩ : ∃ p,p = w2.heap.size := ⟨_,rfl⟩
 rw [← hp] at D3 hpp ⊢
 have HP := hq' hp
 have hp2 : w.heap.size ≤ p := by omega
 clear hp
 go_wp2_with fail
 refine (HOP.out p w3 D3.out).mono ?_
 rintro e w4 ⟨rfl,hr⟩
 have D4 := hq' hr.1
 have C4 := hq' (Cl.keep C3.out hr.2 hpp)
 have b24 : Hid (Below w2.heap.size w2 w4) := b23.out.trans (hr.2.toBelow b23.out.size (fun j hj e => by have := HP.out; omega))
 clear hr D3 C3 b23 HOP
 have hpl4 := D4.out.lt
 have hpr4 := C4.out.lt
 go_wp2_with fail
 refine (HRD.out p w4 D4.out (fun W' k => L2.out.below (b24.out.trans (k.toBelow b24.out.size (fun j hj e => by have := HP.out; omega))))).mono ?_
 rintro e w5 ⟨v,rfl,hmo,hmk,hr,hk⟩
 have D5 := hq' hr
 have C5 := hq' (Cl.keep C4.out hk (fun e => e.elim hpp (fun e => by omega)))
 have b25 : Hid (Below w2.heap.size w2 w5) := b24.out.trans (hk.toBelow b24.out.size (fun j hj e => by have := HP.out; omega))
 have M5 := hq' hmo
 have MK := hq' hmk
 have h45 := hk.size
 clear hr hk hmo hmk D4 C4 b24 HRD
 obtain ⟨cs,hcs⟩ : ∃ cs : List Value,cs = msgC m v := ⟨_,rfl⟩
 have hmv : msgV m v = .agg cs.toArray := by rw [msgV,hcs]
 have HIL2 : Hid ((Tryz.prog.info? 44).map (·.size) = some cs.length) := by rw [Hid,hcs]; kernel_rfl
 have HIA2 : Hid ((Tryz.prog.info? 44).map (·.size) = some (cs.toArray : Array Value).size) := by rw [Hid,hcs]; kernel_rfl
 have HONE2 : Hid ((cs.toArray : Array Value).all (·.oneCell') = true) := by
  obtain ⟨_,_,e1⟩ := own_form M5.out.chain
  obtain ⟨_,_,e2⟩ := own_form M5.out.lives
  obtain ⟨_,_,e3⟩ := own_form M5.out.brecs
  obtain ⟨_,_,e4⟩ := M5.out.table.tbl.form
  obtain ⟨_,_,e5⟩ := own_form M5.out.qrecs
  obtain ⟨_,_,e6⟩ := own_form M5.out.parts
  obtain ⟨_,_,e7⟩ := own_form M5.out.arecs
  rw [Hid,hcs,msgC,e1,e2,e3,e4,e5,e6,e7]
  simp [Value.oneCell']
 have HSZ2 : Hid (((zt0).toArray : Array Value).size = (cs.toArray : Array Value).size) := by rw [Hid,hcs]; rfl
 have HMV := hq' hmv
 rw [hmv]
 have HCS := hq' hcs
 clear hmv hcs
 have CM : Hid ((w5.alloc (.cells (zt0).toArray 44)).heap[w5.heap.size]? = some (.cells (zt0).toArray 44 (0,0))) := Cl.new w5 (zt0) _
 have C6 : Hid (Cl ((w5.alloc (.cells (zt0).toArray 44)).setRow w5.heap.size cs.toArray) w5.heap.size cs 44) := by
  have := Cl.row (Cl.new w5 (zt0) 44) cs.toArray
  rwa [List.toList_toArray] at this
 have b56 : Hid (Below w5.heap.size w5 ((w5.alloc (.cells (zt0).toArray 44)).setRow w5.heap.size cs.toArray)) := ((Below.refl _ _).alloc (Nat.le_refl _) _).trans ((Keeps.row (S := fun j => j = w5.heap.size) _ w5.heap.size _ rfl).toBelow (by simp) (fun k hk e => by omega))
 go_upto_region 7 with (refine wpList_store_row (by rfl) _ _ _ (by rfl) w5.heap.size cs.toArray (by rfl) (by rfl) 44 _ CM.out HIA2.out HSZ2.out HONE2.out ?_)
 clear CM
 generalize (w5.alloc (.cells (zt0).toArray 44)).setRow w5.heap.size cs.toArray = w6 at *
 have D6 := hq' (D5.out.below b56.out)
 have CR6 := hq' (C5.out.below b56.out)
 have b26 : Hid (Below w2.heap.size w2 w6) := bt b25.out b56.out
 have M6 : Hid (MsgO w6 w4.heap.size m v) := M5.out.keepsS (Keeps.below (fun _ => False) b56.out) (fun _ _ => id)
 have hpm : w5.heap.size ≠ p := by have := D5.out.lt; omega
 have hpm2 : w5.heap.size ≠ pr := by have := C5.out.lt; omega
 clear D5 C5 b25 b56 M5
 generalize w5.heap.size = pm at *
 go_wp2_with fail
 refine (close_any p _ w6 D6.out).mono ?_
 rintro e w7 ⟨rfl,hr⟩
 have D7 := hq' hr.1
 have CR7 := hq' (Cl.keep CR6.out hr.2 hpp)
 have CM7 := hq' (Cl.keep C6.out hr.2 hpm)
 have M7 : Hid (MsgO w7 w4.heap.size m v) := M6.out.keepsS hr.2 (fun j hj e => by omega)
 have b27 : Hid (Below w2.heap.size w2 w7) := b26.out.trans (hr.2.toBelow b26.out.size (fun j hj e => by have := HP.out; omega))
 have HDN := hq' (done_any p _ w7 D7.out)
 have HG := hq' (wgood_any m v w7 M7.out.at MK.out M7.out.cap (L2.out.below b27.out))
 rw [HMV.out] at HG
 have B7 := hq' (bt B2.out b27.out)
 generalize Bd.sSign 101 q2 = q3 at *
 have R7 := hq' CM7.out.range
 clear hr D6 C6 CR6 b26 M6 D7
 cases ok with
 | false =>
  have HR : Hid (decM s = (none,3)) := by rw [Hid,HD1.out]; rfl
  clear HD1 HG HDN
  generalize w7 = W9 at *
  have B9 := B7
  have CR9 := CR7
  obtain ⟨wf,hwf,CF,BF,CQ⟩ := no_row (pr := pr) CR9.out B9.out (Nat.le_of_eq HPR.out.symm)
  have HWF := hq' hwf
  clear hwf
  go_wp2_with (first
   | (refine wpList_store_row (by rfl) _ _ _ (by rfl) pr (zt0).toArray (by rfl) (by rfl) 44 _ CQ.out HIA.out rfl HONE.out ?_)
   | fail)
  first | rw [HWF.out] | skip
  refine bodyPost_ret (results_cl_tmp rfl _ _ _ _ _ _ rfl CF.out Tryz.underlying44 rfl HIL.out) rfl ?_
  rw [HR.out]
  exact DecR.no BF.out
 | true =>
  by_cases hat : pos = s.length
  rotate_left
  ·have HR : Hid (decM s = (none,3)) := by rw [Hid,HD1.out,decide_eq_false hat]; rfl
   have hat2 : (pos != (s.length : Int)) = true := by simpa using hat
   clear HD1 HG HDN hat
   generalize w7 = W9 at *
   have B9 := B7
   have CR9 := CR7
   obtain ⟨wf,hwf,CF,BF,CQ⟩ := no_row (pr := pr) CR9.out B9.out (Nat.le_of_eq HPR.out.symm)
   have HWF := hq' hwf
   clear hwf
   go_wp2_with (first
    | (refine wpList_store_row (by rfl) _ _ _ (by rfl) pr (zt0).toArray (by rfl) (by rfl) 44 _ CQ.out HIA.out rfl HONE.out ?_)
    | fail)
   first | rw [HWF.out] | skip
   refine bodyPost_ret (results_cl_tmp rfl _ _ _ _ _ _ rfl CF.out Tryz.underlying44 rfl HIL.out) rfl ?_
   rw [HR.out]
   exact DecR.no BF.out
  have hat2 : (pos != (s.length : Int)) = false := by simpa using hat
  rw [decide_eq_true hat] at HD1
  clear hat
  by_cases hd : Bd.sDone q3 = 0
  rotate_left
  ·have HR : Hid (decM s = (none,3)) := by rw [Hid,HD1.out,decide_eq_false hd]; rfl
   have hd2 : (Bd.sDone q3 != 0) = true := by simpa using hd
   clear HD1 HG hd
   generalize Bd.sDone q3 = dn at *
   go_wp2_with fail
   refine HDN.out.mono ?_
   rintro e W9 ⟨rfl,hw9⟩
   subst hw9
   generalize w7 = W9 at *
   have B9 := B7
   have CR9 := CR7
   obtain ⟨wf,hwf,CF,BF,CQ⟩ := no_row (pr := pr) CR9.out B9.out (Nat.le_of_eq HPR.out.symm)
   have HWF := hq' hwf
   clear hwf
   go_wp2_with (first
    | (refine wpList_store_row (by rfl) _ _ _ (by rfl) pr (zt0).toArray (by rfl) (by rfl) 44 _ CQ.out HIA.out rfl HONE.out ?_)
    | fail)
   first | rw [HWF.out] | skip
   refine bodyPost_ret (results_cl_tmp rfl _ _ _ _ _ _ rfl CF.out Tryz.underlying44 rfl HIL.out) rfl ?_
   rw [HR.out]
   exact DecR.no BF.out
  rw [decide_eq_true hd] at HD1
  rw [hd] at HDN
  clear hd
  cases hg : Wi.good m with
  | false =>
   rw [hg] at HG HD1
   have HR : Hid (decM s = (none,3)) := HD1.out
   clear HD1 hg
   go_wp2_with fail
   refine HDN.out.mono ?_
   rintro e w8 ⟨rfl,hw8⟩
   subst hw8
   go_wp2_with (refine wpList_load_yes (by rfl) _ _ (by rfl) pm 0 (by rfl) cs _ R7.out Tryz.underlying44 (by rfl) HIL2.out ?_)
   refine HG.out.mono ?_
   rintro e W9 ⟨rfl,hb⟩
   have CR9 := hq' (CR7.out.below hb)
   have B9 := hq' (bt B7.out hb)
   clear hb HG CR7 CM7 R7 M7
   obtain ⟨wf,hwf,CF,BF,CQ⟩ := no_row (pr := pr) CR9.out B9.out (Nat.le_of_eq HPR.out.symm)
   have HWF := hq' hwf
   clear hwf
   go_wp2_with (first
    | (refine wpList_store_row (by rfl) _ _ _ (by rfl) pr (zt0).toArray (by rfl) (by rfl) 44 _ CQ.out HIA.out rfl HONE.out ?_)
    | fail)
   first | rw [HWF.out] | skip
   refine bodyPost_ret (results_cl_tmp rfl _ _ _ _ _ _ rfl CF.out Tryz.underlying44 rfl HIL.out) rfl ?_
   rw [HR.out]
   exact DecR.no BF.out
  | true =>
   rw [hg] at HG HD1
   have HR : Hid (decM s = (some m,0)) := HD1.out
   clear HD1 hg
   go_wp2_with fail
   refine HDN.out.mono ?_
   rintro e w8 ⟨rfl,hw8⟩
   subst hw8
   go_wp2_with (refine wpList_load_yes (by rfl) _ _ (by rfl) pm 0 (by rfl) cs _ R7.out Tryz.underlying44 (by rfl) HIL2.out ?_)
   refine HG.out.mono ?_
   rintro e W9 ⟨rfl,hb⟩
   have CR9 := hq' (CR7.out.below hb)
   have B9 := hq' (bt B7.out hb)
   have R9 := hq' (CM7.out.below hb).range
   have M9 : Hid (MsgO W9 w4.heap.size m v) := M7.out.keepsS (Keeps.below (fun _ => False) hb) (fun _ _ => id)
   clear hb HG CR7 CM7 R7 M7
   have CQ : Hid (W9.heap[pr]? = some (.cells (zt0).toArray 44 (0,0))) := CR9.out
   have CF : Hid (Cl (W9.setRow pr cs.toArray) pr cs 44) := by
    have := CR9.out.row cs.toArray
    rwa [List.toList_toArray] at this
   have KF : Keeps (fun j => j = pr) W9 (W9.setRow pr cs.toArray) := Keeps.row _ _ _ rfl
   have BF : Hid (Below w.heap.size w (W9.setRow pr cs.toArray)) := B9.out.trans (KF.toBelow B9.out.size (fun k hk e => by have := HPR.out; omega))
   have MF : Hid (MsgO (W9.setRow pr cs.toArray) w4.heap.size m v) := M9.out.keepsS KF (fun j hj e => by omega)
   go_wp2_with (first
    | (refine wpList_load_mid (by rfl) _ _ (by rfl) pm 0 (by rfl) cs _ R9.out Tryz.underlying44 (by rfl) HIL2.out ?_)
    | (refine wpList_store_row (by rfl) _ _ _ (by rfl) pr cs.toArray (by rfl) (by rfl) 44 _ CQ.out HIA2.out HSZ2.out HONE2.out ?_))
   refine bodyPost_ret (results_cl_tmp rfl _ _ _ _ _ _ rfl CF.out Tryz.underlying44 rfl HIL2.out) rfl ?_
   rw [HR.out]
   refine ⟨v,?_,MF.out.weaken (by have := HPR.out; omega),MK.out,BF.out⟩
   show _ = Ending.returned (.tuple #[msgV m v,.int .i64 0])
   rw [HMV.out]
   rfl
theorem wdecode_any (s : List UInt8) (hs : s.length < 4294967281) (w : World) (hw : Lw w) :
  Calls Tryz.prog 26 #[.string ⟨s.toArray⟩] w (DecR w (decM s)) := wdecode_most s (by unfold maxLen; omega) w hw
theorem enc_eq (m : Wi.Msg) : Wi.enc m = 108::((Wi.fieldsL m).flatten ++ [101]) := rfl
theorem read_enc {m : Wi.Msg} (h : Wi.good m = true) (r : List UInt8) : Wi.sMsg (Bd.sSign 108 (Wi.enc m ++ r,false)) = ((m,true),(101::r,false)) := by
 rw [enc_eq,List.cons_append,Bd.sSign_of,List.append_assoc,List.singleton_append,Wi.sMsg_of h]
theorem next_of {b : List UInt8} (r : List UInt8) (h : b.length ≤ 16384) : Frm.next (Frm.put b ++ r) 0 = (b,((8 + b.length : Nat) : Int),0) := Frm.next_put b r h
theorem decM_put {m : Wi.Msg} (h : Wi.good m = true) : decM (Frm.put (Wi.enc m)) = (some m,0) := by
 have hl := Wi.enc_le h
 have hn := next_of [] hl
 rw [List.append_nil] at hn
 have hr := read_enc h []
 rw [List.append_nil] at hr
 unfold decM
 rw [hn]
 dsimp only
 rw [hr,if_neg (by simp)]
 dsimp only
 rw [Bd.sSign_of,h,Frm.put_length]
 simp [Bd.sDone]
end Go.Proofs.YtbljbdjmgogknaaGreatDoor
