/-
  Wn9 / Wn10 / Wna / Ast / Frma / Wr3: texts of one proof, one behind the other.
  Conditions: none of its own.
-/
import Derived.Test.YtjfpbeccpcbpcaaGreatDoorZac
import Derived.Test.YtjfpbeccpcbpcaaGreatDoorZah
import Derived.Test.YtjfpbeccpcbpcaaGreatDoorZbf
import Derived.Test.YtjfpbeccpcbpcaaGreatDoorZbp
import Derived.Test.YtjfpbeccpcbpcaaGreatDoorZbq
import Derived.Test.YtjfpbeccpcbpcaaGreatDoorZbr
import Derived.Test.YtjfpbeccpcbpcaaGreatDoorZbs
import Derived.Deep.AppendLies
set_option linter.unusedVariables false
set_option linter.unusedSimpArgs false
namespace Go.Proofs.YtjfpbeccpcbpcaaGreatDoor
open Go.RowKit
set_option maxRecDepth 20000 in
set_option maxHeartbeats 12800000 in
theorem wread_k9 (p : Nat) (q : Bd.St) (w : World) (h : Rd w p q) (hl : q.1.length < 4294967281) (hw : ∀ W, Kp w p W → Lw W) (hk : vN q 0 = 9) :
    Calls Tryz.prog 63 #[.pointer (some ⟨p, 0, none⟩)] w (ReadR w p (Wi.sMsg q)) := by
  have HW := Lib.hid hw
  have HN : Hid (∀ k W, Rd W p (stN q k) → Lw W → Calls Tryz.prog 111 #[.pointer (some ⟨p, 0, none⟩)] W (RdV (.int .i64 (vN q k)) W p (stN q (k + 1)))) := fun k W hr hL => int_any p (stN q k) W hr (by have := stN_len q k; omega) hL
  have I0 := Lib.hid (HN.out 0)
  have r0 : Bd.inR (vN q 0) := sInt_inR _
  have I1 := Lib.hid (HN.out 1)
  have r1 : Bd.inR (vN q 1) := sInt_inR _
  have I2 := Lib.hid (HN.out 2)
  have r2 : Bd.inR (vN q 2) := sInt_inR _
  have I3 := Lib.hid (HN.out 3)
  have r3 : Bd.inR (vN q 3) := sInt_inR _
  have I4 := Lib.hid (HN.out 4)
  have r4 : Bd.inR (vN q 4) := sInt_inR _
  have I5 := Lib.hid (HN.out 5)
  have r5 : Bd.inR (vN q 5) := sInt_inR _
  simp only [Nat.zero_add, Nat.reduceAdd] at I0 I1 I2 I3 I4 I5
  have hh : 4 ≤ vN q 0 := by omega
  have HS : Hid (Wi.sMsg q = ((⟨vN q 0, vN q 1, vN q 2, vN q 3, vN q 4, vN q 5, 0, 0, 0, [], 0, [], Wi.zBatch, [], Wi.zReq, Wi.zResp⟩, true), stN q 6)) := by
    rw [Hid, Wi.sMsg, sHead_hi q hh]
    unfold Wi.sTail
    dsimp only
    rw [hk]
    rfl
  rw [hk] at I0 HS r0
  clear HN hw
  try dsimp only at *
  generalize vN q 1 = n1 at *
  generalize vN q 2 = n2 at *
  generalize vN q 3 = n3 at *
  generalize vN q 4 = n4 at *
  generalize vN q 5 = n5 at *
  generalize stN q 6 = q6 at *
  generalize stN q 5 = q5 at *
  generalize stN q 4 = q4 at *
  generalize stN q 3 = q3 at *
  generalize stN q 2 = q2 at *
  generalize stN q 1 = q1 at *
  have HSR := Lib.hid HS.out
  obtain ⟨w0, hw0, X0⟩ := rx_new (q := stN q 0) h (.int .i64 0 :: .int .i64 0 :: .int .i64 0 :: .int .i64 0 :: .int .i64 0 :: .int .i64 0 :: .int .i64 0 :: .int .i64 0 :: .int .i64 0 :: .slice none 0 0 :: .int .i64 0 :: .slice none 0 0 :: .int .i64 0 :: .int .i64 0 :: .int .i64 0 :: .int .i64 0 :: .int .i64 0 :: .slice none 0 0 :: .slice none 0 0 :: .int .i64 0 :: .int .i64 0 :: .int .i64 0 :: .int .i64 0 :: .int .i64 0 :: .int .i64 0 :: .int .i64 0 :: .int .i64 0 :: .string ⟨#[]⟩ :: .string ⟨#[]⟩ :: .slice none 0 0 :: .int .i64 0 :: .int .i64 0 :: .int .i64 0 :: .int .i64 0 :: .int .i64 0 :: .int .i64 0 :: .slice none 0 0 :: .slice none 0 0 :: []) 36
  have HW0 := Lib.hid hw0
  clear hw0
  have hpl := h.lt
  generalize stN q 0 = q0 at *
  clear h
  go_enter Tryz.func63, Tryz.ntmps63
  go_upto_region 2 with (fail)
  rw [HW0.out]
  clear HW0
  generalize hx : w.heap.size = x at *
  have HX := Lib.hid hx
  clear hx
  go_wp2_with fail
  refine (I0.out _ X0.out.1 (HW.out _ X0.out.2.2.2.2)).mono ?_
  rintro e u1 ⟨rfl, hr⟩
  have Y2 := Lib.hid (X0.out.call hr)
  clear hr X0 I0
  go_wp2_with fail
  refine (I1.out _ Y2.out.1 (HW.out _ Y2.out.2.2.2.2)).mono ?_
  rintro e u3 ⟨rfl, hr⟩
  have Y4 := Lib.hid (Y2.out.call hr)
  clear hr Y2 I1
  go_wp2_with fail
  refine (I2.out _ Y4.out.1 (HW.out _ Y4.out.2.2.2.2)).mono ?_
  rintro e u5 ⟨rfl, hr⟩
  have Y6 := Lib.hid (Y4.out.call hr)
  clear hr Y4 I2
  have c0 := Y6.out.2.1.cell 0
  have f0 := Y6.out.2.1.free 0
  have c1 := Y6.out.2.1.cell 1
  have f1 := Y6.out.2.1.free 1
  have c2 := Y6.out.2.1.cell 2
  have f2 := Y6.out.2.1.free 2
  simp only [List.getElem?_cons_zero, List.getElem?_cons_succ] at c0 c1 c2
  have Y7 : Hid (Rx w p x (((u5.setCell ⟨x, 0, none⟩ (.int .i64 9)).setCell ⟨x, 1, none⟩ (.int .i64 n1)).setCell ⟨x, 2, none⟩ (.int .i64 n2)) q3 (.int .i64 9 :: .int .i64 n1 :: .int .i64 n2 :: .int .i64 0 :: .int .i64 0 :: .int .i64 0 :: .int .i64 0 :: .int .i64 0 :: .int .i64 0 :: .slice none 0 0 :: .int .i64 0 :: .slice none 0 0 :: .int .i64 0 :: .int .i64 0 :: .int .i64 0 :: .int .i64 0 :: .int .i64 0 :: .slice none 0 0 :: .slice none 0 0 :: .int .i64 0 :: .int .i64 0 :: .int .i64 0 :: .int .i64 0 :: .int .i64 0 :: .int .i64 0 :: .int .i64 0 :: .int .i64 0 :: .string ⟨#[]⟩ :: .string ⟨#[]⟩ :: .slice none 0 0 :: .int .i64 0 :: .int .i64 0 :: .int .i64 0 :: .int .i64 0 :: .int .i64 0 :: .int .i64 0 :: .slice none 0 0 :: .slice none 0 0 :: []) 36) := (((Y6.out.store 0 (.int .i64 9)).store 1 (.int .i64 n1)).store 2 (.int .i64 n2))
  go_upto_region 3 with (fail)
  generalize (((u5.setCell ⟨x, 0, none⟩ (.int .i64 9)).setCell ⟨x, 1, none⟩ (.int .i64 n1)).setCell ⟨x, 2, none⟩ (.int .i64 n2)) = u8 at *
  clear Y6 c0 f0 c1 f1 c2 f2
  have c0 := Y7.out.2.1.cell 0
  simp only [List.getElem?_cons_zero, List.getElem?_cons_succ] at c0
  go_wp2_with fail
  refine (I3.out _ Y7.out.1 (HW.out _ Y7.out.2.2.2.2)).mono ?_
  rintro e u9 ⟨rfl, hr⟩
  have Y10 := Lib.hid (Y7.out.call hr)
  clear hr Y7 I3
  clear c0
  go_wp2_with fail
  refine (I4.out _ Y10.out.1 (HW.out _ Y10.out.2.2.2.2)).mono ?_
  rintro e u11 ⟨rfl, hr⟩
  have Y12 := Lib.hid (Y10.out.call hr)
  clear hr Y10 I4
  have c3 := Y12.out.2.1.cell 3
  have f3 := Y12.out.2.1.free 3
  have c4 := Y12.out.2.1.cell 4
  have f4 := Y12.out.2.1.free 4
  simp only [List.getElem?_cons_zero, List.getElem?_cons_succ] at c3 c4
  have Y13 : Hid (Rx w p x ((u11.setCell ⟨x, 3, none⟩ (.int .i64 n3)).setCell ⟨x, 4, none⟩ (.int .i64 n4)) q5 (.int .i64 9 :: .int .i64 n1 :: .int .i64 n2 :: .int .i64 n3 :: .int .i64 n4 :: .int .i64 0 :: .int .i64 0 :: .int .i64 0 :: .int .i64 0 :: .slice none 0 0 :: .int .i64 0 :: .slice none 0 0 :: .int .i64 0 :: .int .i64 0 :: .int .i64 0 :: .int .i64 0 :: .int .i64 0 :: .slice none 0 0 :: .slice none 0 0 :: .int .i64 0 :: .int .i64 0 :: .int .i64 0 :: .int .i64 0 :: .int .i64 0 :: .int .i64 0 :: .int .i64 0 :: .int .i64 0 :: .string ⟨#[]⟩ :: .string ⟨#[]⟩ :: .slice none 0 0 :: .int .i64 0 :: .int .i64 0 :: .int .i64 0 :: .int .i64 0 :: .int .i64 0 :: .int .i64 0 :: .slice none 0 0 :: .slice none 0 0 :: []) 36) := ((Y12.out.store 3 (.int .i64 n3)).store 4 (.int .i64 n4))
  go_upto_region 5 with (fail)
  generalize ((u11.setCell ⟨x, 3, none⟩ (.int .i64 n3)).setCell ⟨x, 4, none⟩ (.int .i64 n4)) = u14 at *
  clear Y12 c3 f3 c4 f4
  have c0 := Y13.out.2.1.cell 0
  simp only [List.getElem?_cons_zero, List.getElem?_cons_succ] at c0
  go_wp2_with fail
  refine (I5.out _ Y13.out.1 (HW.out _ Y13.out.2.2.2.2)).mono ?_
  rintro e u15 ⟨rfl, hr⟩
  have Y16 := Lib.hid (Y13.out.call hr)
  clear hr Y13 I5
  clear c0
  have c5 := Y16.out.2.1.cell 5
  have f5 := Y16.out.2.1.free 5
  simp only [List.getElem?_cons_zero, List.getElem?_cons_succ] at c5
  have Y17 : Hid (Rx w p x (u15.setCell ⟨x, 5, none⟩ (.int .i64 n5)) q6 (.int .i64 9 :: .int .i64 n1 :: .int .i64 n2 :: .int .i64 n3 :: .int .i64 n4 :: .int .i64 n5 :: .int .i64 0 :: .int .i64 0 :: .int .i64 0 :: .slice none 0 0 :: .int .i64 0 :: .slice none 0 0 :: .int .i64 0 :: .int .i64 0 :: .int .i64 0 :: .int .i64 0 :: .int .i64 0 :: .slice none 0 0 :: .slice none 0 0 :: .int .i64 0 :: .int .i64 0 :: .int .i64 0 :: .int .i64 0 :: .int .i64 0 :: .int .i64 0 :: .int .i64 0 :: .int .i64 0 :: .string ⟨#[]⟩ :: .string ⟨#[]⟩ :: .slice none 0 0 :: .int .i64 0 :: .int .i64 0 :: .int .i64 0 :: .int .i64 0 :: .int .i64 0 :: .int .i64 0 :: .slice none 0 0 :: .slice none 0 0 :: []) 36) := (Y16.out.store 5 (.int .i64 n5))
  go_upto_region 25 with (fail)
  generalize (u15.setCell ⟨x, 5, none⟩ (.int .i64 n5)) = u18 at *
  clear Y16 c5 f5
  obtain ⟨cs, hcs⟩ : ∃ cs : List Value, cs = (.int .i64 9 :: .int .i64 n1 :: .int .i64 n2 :: .int .i64 n3 :: .int .i64 n4 :: .int .i64 n5 :: .int .i64 0 :: .int .i64 0 :: .int .i64 0 :: .slice none 0 0 :: .int .i64 0 :: .slice none 0 0 :: .int .i64 0 :: .int .i64 0 :: .int .i64 0 :: .int .i64 0 :: .int .i64 0 :: .slice none 0 0 :: .slice none 0 0 :: .int .i64 0 :: .int .i64 0 :: .int .i64 0 :: .int .i64 0 :: .int .i64 0 :: .int .i64 0 :: .int .i64 0 :: .int .i64 0 :: .string ⟨#[]⟩ :: .string ⟨#[]⟩ :: .slice none 0 0 :: .int .i64 0 :: .int .i64 0 :: .int .i64 0 :: .int .i64 0 :: .int .i64 0 :: .int .i64 0 :: .slice none 0 0 :: .slice none 0 0 :: []) := ⟨_, rfl⟩
  have HI1 : Hid ((Tryz.prog.info? 36).map (·.size) = some cs.length) := by rw [Hid, hcs]; kernel_rfl
  have HI2 : Hid ((Tryz.prog.info? 36).map (·.size) = some (cs.toArray : Array Value).size) := by rw [Hid, hcs]; kernel_rfl
  have HONE : Hid ((cs.toArray : Array Value).all (·.oneCell') = true) := by rw [Hid, hcs]; simp [Value.oneCell']
  have HSZ : Hid ((cs.toArray : Array Value).size = (cs.toArray : Array Value).size) := rfl
  have HCS := Lib.hid hcs
  rw [← hcs] at Y17
  clear hcs
  have RX := Lib.hid Y17.out.2.1.range
  have CQ : Hid (u18.heap[x]? = some (.cells cs.toArray 36 (0, 0))) := Y17.out.2.1
  have XZ := Lib.hid (Y17.out.rowed cs.toArray)
  have KR : Hid (Keeps (fun i => i = x) u18 (u18.setRow x cs.toArray)) := Keeps.row _ _ _ rfl
  go_wp2_with (first
      | (refine wpList_load_mid (by rfl) _ _ (by rfl) x 0 (by rfl) cs _ RX.out Tryz.underlying36 (by rfl) HI1.out ?_)
      | (refine wpList_store_row (by rfl) _ _ _ (by rfl) x cs.toArray (by rfl) (by rfl) 36 _ CQ.out HI2.out HSZ.out HONE.out ?_))
  refine bodyPost_ret (results_cl_tmp rfl _ _ _ _ _ _ rfl XZ.out.2.1 Tryz.underlying36 rfl HI1.out) rfl ?_
  rw [HSR.out]
  refine ⟨⟨.slice none 0 0, .slice none 0 0, .slice none 0 0, .slice none 0 0, .slice none 0 0, .slice none 0 0, .slice none 0 0⟩, ?_, ⟨own_nil _ _ _ _, own_nil _ _ _ _, own_nil _ _ _ _, tab_nil _ _, own_nil _ _ _ _, own_nil _ _ _ _, own_nil _ _ _ _⟩, msgOk_of (by simp only [List.mem_cons, List.not_mem_nil, or_false, forall_eq_or_imp, forall_eq]; exact ⟨r0, r1, r2, r3, r4, r5, ⟨by decide, by decide⟩, ⟨by decide, by decide⟩, ⟨by decide, by decide⟩, ⟨by decide, by decide⟩⟩) ⟨Nat.zero_le _, fun x hx => by cases hx⟩ ⟨Nat.zero_le _, fun x hx => by cases hx⟩ zBat_ok zTab_ok zReq_ok zResp_ok, XZ.out.1, XZ.out.2.2.2.2⟩
  rw [HCS.out]
  rfl
end Go.Proofs.YtjfpbeccpcbpcaaGreatDoor
namespace Go.Proofs.YtjfpbeccpcbpcaaGreatDoor
open Go.RowKit
set_option maxRecDepth 20000 in
set_option maxHeartbeats 12800000 in
theorem wread_hi (p : Nat) (q : Bd.St) (w : World) (h : Rd w p q) (hl : q.1.length < 4294967281) (hw : ∀ W, Kp w p W → Lw W) (hk : 10 ≤ vN q 0) :
    Calls Tryz.prog 63 #[.pointer (some ⟨p, 0, none⟩)] w (ReadR w p (Wi.sMsg q)) := by
  have HW := Lib.hid hw
  have HN : Hid (∀ k W, Rd W p (stN q k) → Lw W → Calls Tryz.prog 111 #[.pointer (some ⟨p, 0, none⟩)] W (RdV (.int .i64 (vN q k)) W p (stN q (k + 1)))) := fun k W hr hL => int_any p (stN q k) W hr (by have := stN_len q k; omega) hL
  have I0 := Lib.hid (HN.out 0)
  have r0 : Bd.inR (vN q 0) := sInt_inR _
  have I1 := Lib.hid (HN.out 1)
  have r1 : Bd.inR (vN q 1) := sInt_inR _
  have I2 := Lib.hid (HN.out 2)
  have r2 : Bd.inR (vN q 2) := sInt_inR _
  have I3 := Lib.hid (HN.out 3)
  have r3 : Bd.inR (vN q 3) := sInt_inR _
  have I4 := Lib.hid (HN.out 4)
  have r4 : Bd.inR (vN q 4) := sInt_inR _
  simp only [Nat.zero_add, Nat.reduceAdd] at I0 I1 I2 I3 I4
  have hh : 4 ≤ vN q 0 := by omega
  have HS : Hid (Wi.sMsg q = ((⟨vN q 0, vN q 1, vN q 2, vN q 3, vN q 4, 0, 0, 0, 0, [], 0, [], Wi.zBatch, [], Wi.zReq, Wi.zResp⟩, true), stN q 5)) := by
    rw [Hid, Wi.sMsg, sHead_hi q hh]
    unfold Wi.sTail
    dsimp only
    rw [if_neg (by omega), if_neg (by omega), if_neg (by omega), if_neg (by omega), if_neg (by omega), if_neg (by omega), if_neg (by omega), if_neg (by omega)]
  clear HN hw
  try dsimp only at *
  generalize vN q 0 = n0 at *
  generalize vN q 1 = n1 at *
  generalize vN q 2 = n2 at *
  generalize vN q 3 = n3 at *
  generalize vN q 4 = n4 at *
  generalize stN q 5 = q5 at *
  generalize stN q 4 = q4 at *
  generalize stN q 3 = q3 at *
  generalize stN q 2 = q2 at *
  generalize stN q 1 = q1 at *
  have HSR := Lib.hid HS.out
  obtain ⟨w0, hw0, X0⟩ := rx_new (q := stN q 0) h (.int .i64 0 :: .int .i64 0 :: .int .i64 0 :: .int .i64 0 :: .int .i64 0 :: .int .i64 0 :: .int .i64 0 :: .int .i64 0 :: .int .i64 0 :: .slice none 0 0 :: .int .i64 0 :: .slice none 0 0 :: .int .i64 0 :: .int .i64 0 :: .int .i64 0 :: .int .i64 0 :: .int .i64 0 :: .slice none 0 0 :: .slice none 0 0 :: .int .i64 0 :: .int .i64 0 :: .int .i64 0 :: .int .i64 0 :: .int .i64 0 :: .int .i64 0 :: .int .i64 0 :: .int .i64 0 :: .string ⟨#[]⟩ :: .string ⟨#[]⟩ :: .slice none 0 0 :: .int .i64 0 :: .int .i64 0 :: .int .i64 0 :: .int .i64 0 :: .int .i64 0 :: .int .i64 0 :: .slice none 0 0 :: .slice none 0 0 :: []) 36
  have HW0 := Lib.hid hw0
  clear hw0
  have hpl := h.lt
  generalize stN q 0 = q0 at *
  clear h
  have t4 : decide (4 ≤ n0) = true := by simp; omega
  have t1b : (n0 == 1) = false := by simp; omega
  have t7b : (n0 == 7) = false := by simp; omega
  have t2b : (n0 == 2) = false := by simp; omega
  have t3b : (n0 == 3) = false := by simp; omega
  have t4b : (n0 == 4) = false := by simp; omega
  have t5b : (n0 == 5) = false := by simp; omega
  have t6b : (n0 == 6) = false := by simp; omega
  have t8b : (n0 == 8) = false := by simp; omega
  have t9b : (n0 == 9) = false := by simp; omega
  go_enter Tryz.func63, Tryz.ntmps63
  go_upto_region 2 with (fail)
  rw [HW0.out]
  clear HW0
  generalize hx : w.heap.size = x at *
  have HX := Lib.hid hx
  clear hx
  go_wp2_with fail
  refine (I0.out _ X0.out.1 (HW.out _ X0.out.2.2.2.2)).mono ?_
  rintro e u1 ⟨rfl, hr⟩
  have Y2 := Lib.hid (X0.out.call hr)
  clear hr X0 I0
  go_wp2_with fail
  refine (I1.out _ Y2.out.1 (HW.out _ Y2.out.2.2.2.2)).mono ?_
  rintro e u3 ⟨rfl, hr⟩
  have Y4 := Lib.hid (Y2.out.call hr)
  clear hr Y2 I1
  go_wp2_with fail
  refine (I2.out _ Y4.out.1 (HW.out _ Y4.out.2.2.2.2)).mono ?_
  rintro e u5 ⟨rfl, hr⟩
  have Y6 := Lib.hid (Y4.out.call hr)
  clear hr Y4 I2
  have c0 := Y6.out.2.1.cell 0
  have f0 := Y6.out.2.1.free 0
  have c1 := Y6.out.2.1.cell 1
  have f1 := Y6.out.2.1.free 1
  have c2 := Y6.out.2.1.cell 2
  have f2 := Y6.out.2.1.free 2
  simp only [List.getElem?_cons_zero, List.getElem?_cons_succ] at c0 c1 c2
  have Y7 : Hid (Rx w p x (((u5.setCell ⟨x, 0, none⟩ (.int .i64 n0)).setCell ⟨x, 1, none⟩ (.int .i64 n1)).setCell ⟨x, 2, none⟩ (.int .i64 n2)) q3 (.int .i64 n0 :: .int .i64 n1 :: .int .i64 n2 :: .int .i64 0 :: .int .i64 0 :: .int .i64 0 :: .int .i64 0 :: .int .i64 0 :: .int .i64 0 :: .slice none 0 0 :: .int .i64 0 :: .slice none 0 0 :: .int .i64 0 :: .int .i64 0 :: .int .i64 0 :: .int .i64 0 :: .int .i64 0 :: .slice none 0 0 :: .slice none 0 0 :: .int .i64 0 :: .int .i64 0 :: .int .i64 0 :: .int .i64 0 :: .int .i64 0 :: .int .i64 0 :: .int .i64 0 :: .int .i64 0 :: .string ⟨#[]⟩ :: .string ⟨#[]⟩ :: .slice none 0 0 :: .int .i64 0 :: .int .i64 0 :: .int .i64 0 :: .int .i64 0 :: .int .i64 0 :: .int .i64 0 :: .slice none 0 0 :: .slice none 0 0 :: []) 36) := (((Y6.out.store 0 (.int .i64 n0)).store 1 (.int .i64 n1)).store 2 (.int .i64 n2))
  go_upto_region 3 with (fail)
  generalize (((u5.setCell ⟨x, 0, none⟩ (.int .i64 n0)).setCell ⟨x, 1, none⟩ (.int .i64 n1)).setCell ⟨x, 2, none⟩ (.int .i64 n2)) = u8 at *
  clear Y6 c0 f0 c1 f1 c2 f2
  have c0 := Y7.out.2.1.cell 0
  simp only [List.getElem?_cons_zero, List.getElem?_cons_succ] at c0
  go_wp2_with fail
  refine (I3.out _ Y7.out.1 (HW.out _ Y7.out.2.2.2.2)).mono ?_
  rintro e u9 ⟨rfl, hr⟩
  have Y10 := Lib.hid (Y7.out.call hr)
  clear hr Y7 I3
  clear c0
  go_wp2_with fail
  refine (I4.out _ Y10.out.1 (HW.out _ Y10.out.2.2.2.2)).mono ?_
  rintro e u11 ⟨rfl, hr⟩
  have Y12 := Lib.hid (Y10.out.call hr)
  clear hr Y10 I4
  have c3 := Y12.out.2.1.cell 3
  have f3 := Y12.out.2.1.free 3
  have c4 := Y12.out.2.1.cell 4
  have f4 := Y12.out.2.1.free 4
  simp only [List.getElem?_cons_zero, List.getElem?_cons_succ] at c3 c4
  have Y13 : Hid (Rx w p x ((u11.setCell ⟨x, 3, none⟩ (.int .i64 n3)).setCell ⟨x, 4, none⟩ (.int .i64 n4)) q5 (.int .i64 n0 :: .int .i64 n1 :: .int .i64 n2 :: .int .i64 n3 :: .int .i64 n4 :: .int .i64 0 :: .int .i64 0 :: .int .i64 0 :: .int .i64 0 :: .slice none 0 0 :: .int .i64 0 :: .slice none 0 0 :: .int .i64 0 :: .int .i64 0 :: .int .i64 0 :: .int .i64 0 :: .int .i64 0 :: .slice none 0 0 :: .slice none 0 0 :: .int .i64 0 :: .int .i64 0 :: .int .i64 0 :: .int .i64 0 :: .int .i64 0 :: .int .i64 0 :: .int .i64 0 :: .int .i64 0 :: .string ⟨#[]⟩ :: .string ⟨#[]⟩ :: .slice none 0 0 :: .int .i64 0 :: .int .i64 0 :: .int .i64 0 :: .int .i64 0 :: .int .i64 0 :: .int .i64 0 :: .slice none 0 0 :: .slice none 0 0 :: []) 36) := ((Y12.out.store 3 (.int .i64 n3)).store 4 (.int .i64 n4))
  go_upto_region 5 with (fail)
  generalize ((u11.setCell ⟨x, 3, none⟩ (.int .i64 n3)).setCell ⟨x, 4, none⟩ (.int .i64 n4)) = u14 at *
  clear Y12 c3 f3 c4 f4
  have c0 := Y13.out.2.1.cell 0
  simp only [List.getElem?_cons_zero, List.getElem?_cons_succ] at c0
  go_upto_region 25 with (fail)
  clear c0
  obtain ⟨cs, hcs⟩ : ∃ cs : List Value, cs = (.int .i64 n0 :: .int .i64 n1 :: .int .i64 n2 :: .int .i64 n3 :: .int .i64 n4 :: .int .i64 0 :: .int .i64 0 :: .int .i64 0 :: .int .i64 0 :: .slice none 0 0 :: .int .i64 0 :: .slice none 0 0 :: .int .i64 0 :: .int .i64 0 :: .int .i64 0 :: .int .i64 0 :: .int .i64 0 :: .slice none 0 0 :: .slice none 0 0 :: .int .i64 0 :: .int .i64 0 :: .int .i64 0 :: .int .i64 0 :: .int .i64 0 :: .int .i64 0 :: .int .i64 0 :: .int .i64 0 :: .string ⟨#[]⟩ :: .string ⟨#[]⟩ :: .slice none 0 0 :: .int .i64 0 :: .int .i64 0 :: .int .i64 0 :: .int .i64 0 :: .int .i64 0 :: .int .i64 0 :: .slice none 0 0 :: .slice none 0 0 :: []) := ⟨_, rfl⟩
  have HI1 : Hid ((Tryz.prog.info? 36).map (·.size) = some cs.length) := by rw [Hid, hcs]; kernel_rfl
  have HI2 : Hid ((Tryz.prog.info? 36).map (·.size) = some (cs.toArray : Array Value).size) := by rw [Hid, hcs]; kernel_rfl
  have HONE : Hid ((cs.toArray : Array Value).all (·.oneCell') = true) := by rw [Hid, hcs]; simp [Value.oneCell']
  have HSZ : Hid ((cs.toArray : Array Value).size = (cs.toArray : Array Value).size) := rfl
  have HCS := Lib.hid hcs
  rw [← hcs] at Y13
  clear hcs
  have RX := Lib.hid Y13.out.2.1.range
  have CQ : Hid (u14.heap[x]? = some (.cells cs.toArray 36 (0, 0))) := Y13.out.2.1
  have XZ := Lib.hid (Y13.out.rowed cs.toArray)
  have KR : Hid (Keeps (fun i => i = x) u14 (u14.setRow x cs.toArray)) := Keeps.row _ _ _ rfl
  go_wp2_with (first
      | (refine wpList_load_mid (by rfl) _ _ (by rfl) x 0 (by rfl) cs _ RX.out Tryz.underlying36 (by rfl) HI1.out ?_)
      | (refine wpList_store_row (by rfl) _ _ _ (by rfl) x cs.toArray (by rfl) (by rfl) 36 _ CQ.out HI2.out HSZ.out HONE.out ?_))
  refine bodyPost_ret (results_cl_tmp rfl _ _ _ _ _ _ rfl XZ.out.2.1 Tryz.underlying36 rfl HI1.out) rfl ?_
  rw [HSR.out]
  refine ⟨⟨.slice none 0 0, .slice none 0 0, .slice none 0 0, .slice none 0 0, .slice none 0 0, .slice none 0 0, .slice none 0 0⟩, ?_, ⟨own_nil _ _ _ _, own_nil _ _ _ _, own_nil _ _ _ _, tab_nil _ _, own_nil _ _ _ _, own_nil _ _ _ _, own_nil _ _ _ _⟩, msgOk_of (by simp only [List.mem_cons, List.not_mem_nil, or_false, forall_eq_or_imp, forall_eq]; exact ⟨r0, r1, r2, r3, r4, ⟨by decide, by decide⟩, ⟨by decide, by decide⟩, ⟨by decide, by decide⟩, ⟨by decide, by decide⟩, ⟨by decide, by decide⟩⟩) ⟨Nat.zero_le _, fun x hx => by cases hx⟩ ⟨Nat.zero_le _, fun x hx => by cases hx⟩ zBat_ok zTab_ok zReq_ok zResp_ok, XZ.out.1, XZ.out.2.2.2.2⟩
  rw [HCS.out]
  rfl
end Go.Proofs.YtjfpbeccpcbpcaaGreatDoor
namespace Go.Proofs.YtjfpbeccpcbpcaaGreatDoor
open Go.RowKit
theorem wread_any (p : Nat) (q : Bd.St) (w : World) (h : Rd w p q) (hl : q.1.length < 4294967281) (hw : ∀ W, Kp w p W → Lw W) :
    Calls Tryz.prog 63 #[.pointer (some ⟨p, 0, none⟩)] w (ReadR w p (Wi.sMsg q)) := by
  by_cases h0 : vN q 0 ≤ 0
  · exact wread_lo p q w h hl hw h0
  by_cases h1 : vN q 0 = 1
  · exact wread_k1 p q w h hl hw h1
  by_cases h2 : vN q 0 = 2
  · exact wread_k2 p q w h hl hw h2
  by_cases h3 : vN q 0 = 3
  · exact wread_k3 p q w h hl hw h3
  by_cases h4 : vN q 0 = 4
  · exact wread_k4 p q w h hl hw h4
  by_cases h5 : vN q 0 = 5
  · exact wread_k5 p q w h hl hw h5
  by_cases h6 : vN q 0 = 6
  · exact wread_k6 p q w h hl hw h6
  by_cases h7 : vN q 0 = 7
  · exact wread_k7 p q w h hl hw h7
  by_cases h8 : vN q 0 = 8
  · exact wread_k8 p q w h hl hw h8
  by_cases h9 : vN q 0 = 9
  · exact wread_k9 p q w h hl hw h9
  exact wread_hi p q w h hl hw (by omega)
end Go.Proofs.YtjfpbeccpcbpcaaGreatDoor
namespace Go.Proofs.YtjfpbeccpcbpcaaGreatDoor
open Go.RowKit
end Go.Proofs.YtjfpbeccpcbpcaaGreatDoor
namespace Go.Proofs.YtjfpbeccpcbpcaaGreatDoor.Frm
open Crc
theorem next_shift (u t : List UInt8) (j : Nat) : next (u ++ t) ((u.length + j : Nat) : Int) =
    ((next t j).1, (if (next t j).2.2 = 0 then (u.length : Int) + (next t j).2.1 else 0), (next t j).2.2) := by
  have hd : (u ++ t).drop (u.length + j) = t.drop j := by rw [List.drop_append, List.drop_eq_nil_of_le (by omega)]; simp
  have hl : (u ++ t).length = u.length + t.length := List.length_append
  by_cases h0 : t.length < j
  · rw [next_arg (l := t) (by omega), next_arg (l := u ++ t) (by omega)]; rfl
  · by_cases h8 : t.length - j < 8
    · rw [next_short (l := t) (by omega) h8, next_short (l := u ++ t) (by omega) (by omega)]; rfl
    · by_cases h1 : 16384 < (num (t.drop j)).toNat
      · rw [next_long (l := t) (by omega) (by omega) h1, next_long (l := u ++ t) (by omega) (by omega) (by rw [hd]; exact h1)]; rfl
      · by_cases h2 : t.length - j - 8 < (num (t.drop j)).toNat
        · rw [next_short2 (l := t) (by omega) (by omega) (by omega) h2, next_short2 (l := u ++ t) (by omega) (by omega) (by rw [hd]; omega) (by rw [hd]; omega)]; rfl
        · by_cases h3 : sum (((t.drop j).take (8 + (num (t.drop j)).toNat)).drop 8) = num ((t.drop j).drop 4)
          · rw [next_ok (l := t) (by omega) (by omega) (by omega) (by omega) h3, next_ok (l := u ++ t) (by omega) (by omega) (by rw [hd]; omega) (by rw [hd]; omega) (by rw [hd]; exact h3), hd]
            simp
            omega
          · rw [next_sum (l := t) (by omega) (by omega) (by omega) (by omega) h3, next_sum (l := u ++ t) (by omega) (by omega) (by rw [hd]; omega) (by rw [hd]; omega) (by rw [hd]; exact h3)]; rfl
theorem scan_shift (u t : List UInt8) : ∀ n j, t.length - j ≤ n → scanFrom (u ++ t) (u.length + j) = ((scanFrom t j).1, u.length + (scanFrom t j).2) := by
  intro n
  induction n with
  | zero =>
    intro j hj
    have hs := next_shift u t j
    by_cases hz : (next t j).2.2 = 0
    · obtain ⟨h1, _⟩ := next_zero hz; omega
    · rw [scan_end hz, scan_end (by rw [hs]; exact hz)]
  | succ n ih =>
    intro j hj
    have hs := next_shift u t j
    by_cases hz : (next t j).2.2 = 0
    · obtain ⟨h1, h2, h3, h4, h5, h6⟩ := next_zero hz
      have e4 : (next t j).2.1 = ((j + 8 + (num (t.drop j)).toNat : Nat) : Int) := by rw [h4]; omega
      rw [scan_more hz e4, scan_more (l := u ++ t) (m := u.length + (j + 8 + (num (t.drop j)).toNat)) (by rw [hs]; exact hz) (by rw [hs]; simp only [hz, if_true]; rw [e4]; omega), ih _ (by omega), hs]
    · rw [scan_end hz, scan_end (by rw [hs]; exact hz)]
theorem scan_behind (u t : List UInt8) : scanFrom (u ++ t) u.length = ((scan t).1, u.length + (scan t).2) := scan_shift u t t.length 0 (by omega)
theorem put_length (l : List UInt8) : (put l).length = 8 + l.length := by simp [put, four_length]; omega
theorem put_head (l : List UInt8) (h : l.length ≤ 16384) (r : List UInt8) : num (put l ++ r) = BitVec.ofNat 32 l.length := by
  have := num_four (BitVec.ofNat 32 l.length)
  unfold put
  unfold four at this ⊢
  simpa [num] using this
theorem put_check (l r : List UInt8) : num ((put l ++ r).drop 4) = sum l := by
  have := num_four (sum l)
  unfold put
  unfold four at this ⊢
  simpa [num] using this
theorem put_body (l r : List UInt8) : ((put l ++ r).take (8 + l.length)).drop 8 = l := by
  have : (put l ++ r).take (8 + l.length) = put l := by
    rw [List.take_append_of_le_length (by rw [put_length]; omega), List.take_of_length_le (by rw [put_length]; omega)]
  rw [this]
  rfl
theorem next_put (l r : List UInt8) (h : l.length ≤ 16384) : next (put l ++ r) ((0 : Nat) : Int) = (l, ((8 + l.length : Nat) : Int), 0) := by
  have hn : (num ((put l ++ r).drop 0)).toNat = l.length := by
    rw [List.drop_zero, put_head l h r, BitVec.toNat_ofNat]; omega
  have hl : (put l ++ r).length = 8 + l.length + r.length := by rw [List.length_append, put_length]
  have hb : (((put l ++ r).drop 0).take (8 + (num ((put l ++ r).drop 0)).toNat)).drop 8 = l := by rw [hn, List.drop_zero]; exact put_body l r
  rw [next_ok (l := put l ++ r) (k := 0) (by omega) (by omega) (by omega) (by omega) (by rw [hb]; rw [List.drop_zero]; exact (put_check l r).symm), hb, hn]
  simp
theorem scan_put (l r : List UInt8) (h : l.length ≤ 16384) : scan (put l ++ r) = (l :: (scan r).1, (put l).length + (scan r).2) := by
  have hn := next_put l r h
  have h1 := scan_more (l := put l ++ r) (k := 0) (m := 8 + l.length) (by rw [hn]) (by rw [hn])
  have h2 := scan_behind (put l) r
  rw [put_length] at h2
  rw [scan, h1, h2, hn, put_length]
def puts (ts : List (List UInt8)) : List UInt8 := (ts.map put).flatten
theorem next_changed (a l l' : List UInt8) (h : l.length ≤ 16384) (hl : l'.length = l.length) (hs : sum l' ≠ sum l) :
    next (a ++ (four (BitVec.ofNat 32 l.length) ++ (four (sum l) ++ l'))) (a.length : Int) = ([], 0, 6) := by
  have key : next (four (BitVec.ofNat 32 l.length) ++ (four (sum l) ++ l')) ((0 : Nat) : Int) = ([], 0, 6) := by
    have e1 : num ((four (BitVec.ofNat 32 l.length) ++ (four (sum l) ++ l')).drop 0) = BitVec.ofNat 32 l.length := by
      have := num_four (BitVec.ofNat 32 l.length)
      unfold four at this ⊢
      simpa [num] using this
    have e2 : num (((four (BitVec.ofNat 32 l.length) ++ (four (sum l) ++ l')).drop 0).drop 4) = sum l := by
      have := num_four (sum l)
      unfold four at this ⊢
      simpa [num] using this
    have ev : (num ((four (BitVec.ofNat 32 l.length) ++ (four (sum l) ++ l')).drop 0)).toNat = l.length := by rw [e1, BitVec.toNat_ofNat]; omega
    have elen : (four (BitVec.ofNat 32 l.length) ++ (four (sum l) ++ l')).length = 8 + l.length := by simp [four_length, hl]; omega
    have eb : (((four (BitVec.ofNat 32 l.length) ++ (four (sum l) ++ l')).drop 0).take (8 + l.length)).drop 8 = l' := by
      rw [List.drop_zero, List.take_of_length_le (by omega)]; rfl
    exact next_sum (k := 0) (by omega) (by omega) (by omega) (by omega) (by rw [ev, eb, e2]; exact hs)
  have := next_shift a (four (BitVec.ofNat 32 l.length) ++ (four (sum l) ++ l')) 0
  rw [key] at this
  simpa using this
end Go.Proofs.YtjfpbeccpcbpcaaGreatDoor.Frm
namespace Go.Proofs.YtjfpbeccpcbpcaaGreatDoor
open Go.RowKit
def beatM (f t n : Int) : Wi.Msg := ⟨3, f, t, 0, 0, 0, 0, n, 0, [], 0, [], Wi.zBatch, [], Wi.zReq, Wi.zResp⟩
def zeroV : MsgV := ⟨.slice none 0 0, .slice none 0 0, .slice none 0 0, .slice none 0 0, .slice none 0 0, .slice none 0 0, .slice none 0 0⟩
theorem beat_at (f t n : Int) (w : World) : MsgAt w (beatM f t n) zeroV := ⟨Ints.nil w, Rw.nil _ _ w, recs_nil0 w, Tbl.nil w, recs_nil0 w, Ints.nil w, recs_nil0 w⟩
theorem wpList_load_yes {P : Program} {ops : Array Oper} {rest : List Oper} {op : Oper} {a : Act} {w : World} {Q : Exit → Act → World → Prop} (hw : Region.wanted op (yielded ops a.tmps) = true) (ty : TypeId) (x : Operand) (ho : op.op = .load ty x)
    (b o : Nat) (hx : a.eval x = .pointer (some ⟨b, o, none⟩)) (cs : List Value) (d : TypeDesc) (hc : w.rangeAt b o cs)
    (hu : P.underlying ty = some d) (hd : d.isRow = true) (hi : (P.info? ty).map (·.size) = some cs.length)
    (h : wpList P ops Q rest (a.put op.dst (.agg cs.toArray)) w) : wpList P ops Q (op :: rest) a w :=
  wpList_step fun K hK => by rw [if_pos hw]; exact wp_load_mid ty x ho b o hx cs d hc hu hd hi (hK _ _ h)
end Go.Proofs.YtjfpbeccpcbpcaaGreatDoor
