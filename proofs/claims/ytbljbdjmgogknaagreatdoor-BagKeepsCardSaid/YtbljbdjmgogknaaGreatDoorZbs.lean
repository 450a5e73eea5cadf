/-
  Wn10 / Wna: texts of one proof, one behind the other.
  Conditions: none of its own.
-/
import Derived.Test.YtbljbdjmgogknaaGreatDoorZbo
import Derived.Test.YtbljbdjmgogknaaGreatDoorZbp
import Derived.Test.YtbljbdjmgogknaaGreatDoorZbq
import Derived.Test.YtbljbdjmgogknaaGreatDoorZbr
set_option linter.unusedVariables false
set_option linter.unusedSimpArgs false
namespace Go.Proofs.YtbljbdjmgogknaaGreatDoor
open Go.RowKit
set_option maxRecDepth 20000 in
set_option maxHeartbeats 12800000 in
theorem wread_hi (p : Nat) (q : Bd.St) (w : World) (h : Rd w p q) (hl : q.1.length < 4294967281) (hw : ∀ W, Kp w p W → Lw W) (hk : 10 ≤ vN q 0) :
  Calls Tryz.prog 59 #[.pointer (some ⟨p, 0, none⟩)] w (ReadR w p (Wi.sMsg q)) := by
 have HW := Lib.hid hw
 have HN : Hid (∀ k W, Rd W p (stN q k) → Lw W → Calls Tryz.prog 92 #[.pointer (some ⟨p, 0, none⟩)] W (RdV (.int .i64 (vN q k)) W p (stN q (k + 1)))) := fun k W hr hL => int_any p (stN q k) W hr (by have := stN_len q k; omega) hL
 have I0 := Lib.hid (HN.out 0)
 have r0 : Bd.inR (vN q 0) := sInt_inR _
 have I1 := Lib.hid (HN.out 1)
 have r1 : Bd.inR (vN q 1) := sInt_inR _
 have I2 := Lib.hid (HN.out 2)
 have r2 : Bd.inR (vN q 2) := sInt_inR _
 have I3 := Lib.hid (HN.out 3)
 have r3 : Bd.inR (vN q 3) := sInt_inR _
 have I4 := Lib.hid (HN.out 4)
 have r4 : Bd.inR (vN q 4) := sInt_inR _
 simp only [Nat.zero_add, Nat.reduceAdd] at I0 I1 I2 I3 I4
 have hh : 4 ≤ vN q 0 := by omega
 have HS : Hid (Wi.sMsg q = ((⟨vN q 0, vN q 1, vN q 2, vN q 3, vN q 4, 0, 0, 0, 0, [], 0, [], Wi.zBatch, [], Wi.zReq, Wi.zResp⟩, true), stN q 5)) := by
  rw [Hid, Wi.sMsg, sHead_hi q hh]
  unfold Wi.sTail
  dsimp only
  rw [if_neg (by omega), if_neg (by omega), if_neg (by omega), if_neg (by omega), if_neg (by omega), if_neg (by omega), if_neg (by omega), if_neg (by omega)]
 clear HN hw
 try dsimp only at *
 generalize vN q 0 = n0 at *
 generalize vN q 1 = n1 at *
 generalize vN q 2 = n2 at *
 generalize vN q 3 = n3 at *
 generalize vN q 4 = n4 at *
 generalize stN q 5 = q5 at *
 generalize stN q 4 = q4 at *
 generalize stN q 3 = q3 at *
 generalize stN q 2 = q2 at *
 generalize stN q 1 = q1 at *
 have HSR := Lib.hid HS.out
 obtain ⟨w0, hw0, X0⟩ := rx_new (q := stN q 0) h (.int .i64 0 :: .int .i64 0 :: .int .i64 0 :: .int .i64 0 :: .int .i64 0 :: .int .i64 0 :: .int .i64 0 :: .int .i64 0 :: .int .i64 0 :: .slice none 0 0 :: .int .i64 0 :: .slice none 0 0 :: .int .i64 0 :: .int .i64 0 :: .int .i64 0 :: .int .i64 0 :: .int .i64 0 :: .slice none 0 0 :: .slice none 0 0 :: .int .i64 0 :: .int .i64 0 :: .int .i64 0 :: .int .i64 0 :: .int .i64 0 :: .int .i64 0 :: .int .i64 0 :: .int .i64 0 :: .string ⟨#[]⟩ :: .string ⟨#[]⟩ :: .slice none 0 0 :: .int .i64 0 :: .int .i64 0 :: .int .i64 0 :: .int .i64 0 :: .int .i64 0 :: .int .i64 0 :: .slice none 0 0 :: .slice none 0 0 :: []) 44
 have HW0 := Lib.hid hw0
 clear hw0
 have hpl := h.lt
 generalize stN q 0 = q0 at *
 clear h
 have t4 : decide (4 ≤ n0) = true := by simp; omega
 have t1b : (n0 == 1) = false := by simp; omega
 have t7b : (n0 == 7) = false := by simp; omega
 have t2b : (n0 == 2) = false := by simp; omega
 have t3b : (n0 == 3) = false := by simp; omega
 have t4b : (n0 == 4) = false := by simp; omega
 have t5b : (n0 == 5) = false := by simp; omega
 have t6b : (n0 == 6) = false := by simp; omega
 have t8b : (n0 == 8) = false := by simp; omega
 have t9b : (n0 == 9) = false := by simp; omega
 go_enter Tryz.func59, Tryz.ntmps59
 go_upto_region 2 with (fail)
 rw [HW0.out]
 clear HW0
 generalize hx : w.heap.size = x at *
 have HX := Lib.hid hx
 clear hx
 go_wp2_with fail
 refine (I0.out _ X0.out.1 (HW.out _ X0.out.2.2.2.2)).mono ?_
 rintro e u1 ⟨rfl, hr⟩
 have Y2 := Lib.hid (X0.out.call hr)
 clear hr X0 I0
 go_wp2_with fail
 refine (I1.out _ Y2.out.1 (HW.out _ Y2.out.2.2.2.2)).mono ?_
 rintro e u3 ⟨rfl, hr⟩
 have Y4 := Lib.hid (Y2.out.call hr)
 clear hr Y2 I1
 go_wp2_with fail
 refine (I2.out _ Y4.out.1 (HW.out _ Y4.out.2.2.2.2)).mono ?_
 rintro e u5 ⟨rfl, hr⟩
 have Y6 := Lib.hid (Y4.out.call hr)
 clear hr Y4 I2
 have c0 := Y6.out.2.1.cell 0
 have f0 := Y6.out.2.1.free 0
 have c1 := Y6.out.2.1.cell 1
 have f1 := Y6.out.2.1.free 1
 have c2 := Y6.out.2.1.cell 2
 have f2 := Y6.out.2.1.free 2
 simp only [List.getElem?_cons_zero, List.getElem?_cons_succ] at c0 c1 c2
 have Y7 : Hid (Rx w p x (((u5.setCell ⟨x, 0, none⟩ (.int .i64 n0)).setCell ⟨x, 1, none⟩ (.int .i64 n1)).setCell ⟨x, 2, none⟩ (.int .i64 n2)) q3 (.int .i64 n0 :: .int .i64 n1 :: .int .i64 n2 :: .int .i64 0 :: .int .i64 0 :: .int .i64 0 :: .int .i64 0 :: .int .i64 0 :: .int .i64 0 :: .slice none 0 0 :: .int .i64 0 :: .slice none 0 0 :: .int .i64 0 :: .int .i64 0 :: .int .i64 0 :: .int .i64 0 :: .int .i64 0 :: .slice none 0 0 :: .slice none 0 0 :: .int .i64 0 :: .int .i64 0 :: .int .i64 0 :: .int .i64 0 :: .int .i64 0 :: .int .i64 0 :: .int .i64 0 :: .int .i64 0 :: .string ⟨#[]⟩ :: .string ⟨#[]⟩ :: .slice none 0 0 :: .int .i64 0 :: .int .i64 0 :: .int .i64 0 :: .int .i64 0 :: .int .i64 0 :: .int .i64 0 :: .slice none 0 0 :: .slice none 0 0 :: []) 44) := (((Y6.out.store 0 (.int .i64 n0)).store 1 (.int .i64 n1)).store 2 (.int .i64 n2))
 go_upto_region 3 with (fail)
 generalize (((u5.setCell ⟨x, 0, none⟩ (.int .i64 n0)).setCell ⟨x, 1, none⟩ (.int .i64 n1)).setCell ⟨x, 2, none⟩ (.int .i64 n2)) = u8 at *
 clear Y6 c0 f0 c1 f1 c2 f2
 have c0 := Y7.out.2.1.cell 0
 simp only [List.getElem?_cons_zero, List.getElem?_cons_succ] at c0
 go_wp2_with fail
 refine (I3.out _ Y7.out.1 (HW.out _ Y7.out.2.2.2.2)).mono ?_
 rintro e u9 ⟨rfl, hr⟩
 have Y10 := Lib.hid (Y7.out.call hr)
 clear hr Y7 I3
 clear c0
 go_wp2_with fail
 refine (I4.out _ Y10.out.1 (HW.out _ Y10.out.2.2.2.2)).mono ?_
 rintro e u11 ⟨rfl, hr⟩
 have Y12 := Lib.hid (Y10.out.call hr)
 clear hr Y10 I4
 have c3 := Y12.out.2.1.cell 3
 have f3 := Y12.out.2.1.free 3
 have c4 := Y12.out.2.1.cell 4
 have f4 := Y12.out.2.1.free 4
 simp only [List.getElem?_cons_zero, List.getElem?_cons_succ] at c3 c4
 have Y13 : Hid (Rx w p x ((u11.setCell ⟨x, 3, none⟩ (.int .i64 n3)).setCell ⟨x, 4, none⟩ (.int .i64 n4)) q5 (.int .i64 n0 :: .int .i64 n1 :: .int .i64 n2 :: .int .i64 n3 :: .int .i64 n4 :: .int .i64 0 :: .int .i64 0 :: .int .i64 0 :: .int .i64 0 :: .slice none 0 0 :: .int .i64 0 :: .slice none 0 0 :: .int .i64 0 :: .int .i64 0 :: .int .i64 0 :: .int .i64 0 :: .int .i64 0 :: .slice none 0 0 :: .slice none 0 0 :: .int .i64 0 :: .int .i64 0 :: .int .i64 0 :: .int .i64 0 :: .int .i64 0 :: .int .i64 0 :: .int .i64 0 :: .int .i64 0 :: .string ⟨#[]⟩ :: .string ⟨#[]⟩ :: .slice none 0 0 :: .int .i64 0 :: .int .i64 0 :: .int .i64 0 :: .int .i64 0 :: .int .i64 0 :: .int .i64 0 :: .slice none 0 0 :: .slice none 0 0 :: []) 44) := ((Y12.out.store 3 (.int .i64 n3)).store 4 (.int .i64 n4))
 go_upto_region 5 with (fail)
 generalize ((u11.setCell ⟨x, 3, none⟩ (.int .i64 n3)).setCell ⟨x, 4, none⟩ (.int .i64 n4)) = u14 at *
 clear Y12 c3 f3 c4 f4
 have c0 := Y13.out.2.1.cell 0
 simp only [List.getElem?_cons_zero, List.getElem?_cons_succ] at c0
 go_upto_region 25 with (fail)
 clear c0
 obtain ⟨cs, hcs⟩ : ∃ cs : List Value, cs = (.int .i64 n0 :: .int .i64 n1 :: .int .i64 n2 :: .int .i64 n3 :: .int .i64 n4 :: .int .i64 0 :: .int .i64 0 :: .int .i64 0 :: .int .i64 0 :: .slice none 0 0 :: .int .i64 0 :: .slice none 0 0 :: .int .i64 0 :: .int .i64 0 :: .int .i64 0 :: .int .i64 0 :: .int .i64 0 :: .slice none 0 0 :: .slice none 0 0 :: .int .i64 0 :: .int .i64 0 :: .int .i64 0 :: .int .i64 0 :: .int .i64 0 :: .int .i64 0 :: .int .i64 0 :: .int .i64 0 :: .string ⟨#[]⟩ :: .string ⟨#[]⟩ :: .slice none 0 0 :: .int .i64 0 :: .int .i64 0 :: .int .i64 0 :: .int .i64 0 :: .int .i64 0 :: .int .i64 0 :: .slice none 0 0 :: .slice none 0 0 :: []) := ⟨_, rfl⟩
 have HI1 : Hid ((Tryz.prog.info? 44).map (·.size) = some cs.length) := by rw [Hid, hcs]; kernel_rfl
 have HI2 : Hid ((Tryz.prog.info? 44).map (·.size) = some (cs.toArray : Array Value).size) := by rw [Hid, hcs]; kernel_rfl
 have HONE : Hid ((cs.toArray : Array Value).all (·.oneCell') = true) := by rw [Hid, hcs]; simp [Value.oneCell']
 have HSZ : Hid ((cs.toArray : Array Value).size = (cs.toArray : Array Value).size) := rfl
 have HCS := Lib.hid hcs
 rw [← hcs] at Y13
 clear hcs
 have RX := Lib.hid Y13.out.2.1.range
 have CQ : Hid (u14.heap[x]? = some (.cells cs.toArray 44 (0, 0))) := Y13.out.2.1
 have XZ := Lib.hid (Y13.out.rowed cs.toArray)
 have KR : Hid (Keeps (fun i => i = x) u14 (u14.setRow x cs.toArray)) := Keeps.row _ _ _ rfl
 go_wp2_with (first
   | (refine wpList_load_mid (by rfl) _ _ (by rfl) x 0 (by rfl) cs _ RX.out Tryz.underlying44 (by rfl) HI1.out ?_)
   | (refine wpList_store_row (by rfl) _ _ _ (by rfl) x cs.toArray (by rfl) (by rfl) 44 _ CQ.out HI2.out HSZ.out HONE.out ?_))
 refine bodyPost_ret (results_cl_tmp rfl _ _ _ _ _ _ rfl XZ.out.2.1 Tryz.underlying44 rfl HI1.out) rfl ?_
 rw [HSR.out]
 refine ⟨⟨.slice none 0 0, .slice none 0 0, .slice none 0 0, .slice none 0 0, .slice none 0 0, .slice none 0 0, .slice none 0 0⟩, ?_, ⟨own_nil _ _ _ _, own_nil _ _ _ _, own_nil _ _ _ _, tab_nil _ _, own_nil _ _ _ _, own_nil _ _ _ _, own_nil _ _ _ _⟩, msgOk_of (by simp only [List.mem_cons, List.not_mem_nil, or_false, forall_eq_or_imp, forall_eq]; exact ⟨r0, r1, r2, r3, r4, ⟨by decide, by decide⟩, ⟨by decide, by decide⟩, ⟨by decide, by decide⟩, ⟨by decide, by decide⟩, ⟨by decide, by decide⟩⟩) ⟨Nat.zero_le _, fun x hx => by cases hx⟩ ⟨Nat.zero_le _, fun x hx => by cases hx⟩ zBat_ok zTab_ok zReq_ok zResp_ok, XZ.out.1, XZ.out.2.2.2.2⟩
 rw [HCS.out]
 rfl
end Go.Proofs.YtbljbdjmgogknaaGreatDoor
namespace Go.Proofs.YtbljbdjmgogknaaGreatDoor
open Go.RowKit
theorem wread_any (p : Nat) (q : Bd.St) (w : World) (h : Rd w p q) (hl : q.1.length < 4294967281) (hw : ∀ W, Kp w p W → Lw W) :
  Calls Tryz.prog 59 #[.pointer (some ⟨p, 0, none⟩)] w (ReadR w p (Wi.sMsg q)) := by
 by_cases h0 : vN q 0 ≤ 0
 ·exact wread_lo p q w h hl hw h0
 by_cases h1 : vN q 0 = 1
 ·exact wread_k1 p q w h hl hw h1
 by_cases h2 : vN q 0 = 2
 ·exact wread_k2 p q w h hl hw h2
 by_cases h3 : vN q 0 = 3
 ·exact wread_k3 p q w h hl hw h3
 by_cases h4 : vN q 0 = 4
 ·exact wread_k4 p q w h hl hw h4
 by_cases h5 : vN q 0 = 5
 ·exact wread_k5 p q w h hl hw h5
 by_cases h6 : vN q 0 = 6
 ·exact wread_k6 p q w h hl hw h6
 by_cases h7 : vN q 0 = 7
 ·exact wread_k7 p q w h hl hw h7
 by_cases h8 : vN q 0 = 8
 ·exact wread_k8 p q w h hl hw h8
 by_cases h9 : vN q 0 = 9
 ·exact wread_k9 p q w h hl hw h9
 exact wread_hi p q w h hl hw (by omega)
end Go.Proofs.YtbljbdjmgogknaaGreatDoor
