/-
  Wm3 / Wm4 / Wm5: texts of one proof, one behind the other.
  Conditions: none of its own.
-/
import Derived.Test.YtbljbdjmgogknaaGreatDoorZaw
import Derived.BigRegionIn
set_option linter.unusedVariables false
set_option linter.unusedSimpArgs false
set_option maxHeartbeats 12800000
set_option maxRecDepth 20000
namespace Go.Proofs.YtbljbdjmgogknaaGreatDoor
open Go.RowKit
def cellsQ (q : Bd.St) (k : Nat) : List Value := [upN q k 0,upN q k 1,upN q k 2,upN q k 3,upN q k 4,upN q k 5,upN q k 6,upN q k 7,.string ⟨#[]⟩,.string ⟨#[]⟩,.slice none 0 0]
theorem cellsQ_get (q : Bd.St) (k : Nat) (hk : k < 8) : (cellsQ q k)[k]? = some (.int .i64 0) := by
 match k,hk with
 | 0,_ => rfl
 | 1,_ => rfl
 | 2,_ => rfl
 | 3,_ => rfl
 | 4,_ => rfl
 | 5,_ => rfl
 | 6,_ => rfl
 | 7,_ => rfl
theorem cellsQ_set (q : Bd.St) (k : Nat) (hk : k < 8) : (cellsQ q k).set k (.int .i64 (vN q k)) = cellsQ q (k + 1) := by
 match k,hk with
 | 0,_ => rfl
 | 1,_ => rfl
 | 2,_ => rfl
 | 3,_ => rfl
 | 4,_ => rfl
 | 5,_ => rfl
 | 6,_ => rfl
 | 7,_ => rfl
def ptrsQ (x : Nat) : List Value := [.pointer (some ⟨x,0,none⟩),.pointer (some ⟨x,1,none⟩),.pointer (some ⟨x,2,none⟩),.pointer (some ⟨x,3,none⟩),.pointer (some ⟨x,4,none⟩),.pointer (some ⟨x,5,none⟩),.pointer (some ⟨x,6,none⟩),.pointer (some ⟨x,7,none⟩)]
theorem ptrsQ_get (x k : Nat) (hk : k < 8) : (ptrsQ x)[k]? = some (.pointer (some ⟨x,k,none⟩)) := by
 match k,hk with
 | 0,_ => rfl
 | 1,_ => rfl
 | 2,_ => rfl
 | 3,_ => rfl
 | 4,_ => rfl
 | 5,_ => rfl
 | 6,_ => rfl
 | 7,_ => rfl
theorem Rx.own {w W W' : World} {p x : Nat} {q q' : Bd.St} {cs : List Value} {t : TypeId} (h : Rx w p x W q cs t) (hr : Rd W' p q') (k : Kp W p W') : Rx w p x W' q' cs t :=
 ⟨hr,h.2.1.keep k (fun e => by have := h.2.1.lt; rcases e with e | e; exact h.2.2.1 e; omega),h.2.2.1,h.2.2.2.1,h.2.2.2.2.trans k⟩
theorem Rx.rowed {w W : World} {p x : Nat} {q : Bd.St} {cs : List Value} {t : TypeId} (h : Rx w p x W q cs t) (ds : Array Value) : Rx w p x (W.setRow x ds) q ds.toList t :=
 have k : Keeps (fun j => j = x) W (W.setRow x ds) := Keeps.row _ _ _ rfl
 ⟨h.1.keep k (fun e => h.2.2.1 e.symm),h.2.1.row _,h.2.2.1,h.2.2.2.1,Keeps.trans h.2.2.2.2 (k.mono fun j _ e => .inr (by rw [e]; exact h.2.2.2.1))⟩
theorem readReq_any (p : Nat) (q : Bd.St) (w : World) (h : Rd w p q) (hl : q.1.length < 4294967281) (hw : ∀ W,Kp w p W → Lw W) :
  Calls Tryz.prog 93 #[.pointer (some ⟨p,0,none⟩)] w fun e w' => ∃ v,e = .returned (.tuple #[.agg (wreqC (Wi.sReq q).1.1 v).toArray,.bool (Wi.sReq q).1.2]) ∧ w'.ownsRow w.heap.size 67 4 v (Wi.sReq q).1.1.recs.length (recCells (Wi.sReq q).1.1.recs) ∧ Rd w' p (Wi.sReq q).2 ∧ Kp w p w' := by
 have HW := hq' hw
 have HS : Hid (Wi.sReq q = ((⟨vN q 0,vN q 1,vN q 2,vN q 3,vN q 4,vN q 5,vN q 6,vN q 7,(Bd.sText 8 (stN q 8)).1,(Bd.sText 8 (Bd.sText 8 (stN q 8)).2).1,(Wi.sRecs (Bd.sText 8 (Bd.sText 8 (stN q 8)).2).2).1.1⟩,(Wi.sRecs (Bd.sText 8 (Bd.sText 8 (stN q 8)).2).2).1.2),(Wi.sRecs (Bd.sText 8 (Bd.sText 8 (stN q 8)).2).2).2)) := rfl
 have X1 : Hid (Rx w p w.heap.size (w.alloc (.cells #[.int .i64 0,.int .i64 0,.int .i64 0,.int .i64 0,.int .i64 0,.int .i64 0,.int .i64 0,.int .i64 0,.string ⟨#[]⟩,.string ⟨#[]⟩,.slice none 0 0] 39)) (stN q 0) (cellsQ q 0) 39) := Rx.new h (cellsQ q 0) _
 have hpl := h.lt
 have hs1 := World.size_alloc w (.cells #[.int .i64 0,.int .i64 0,.int .i64 0,.int .i64 0,.int .i64 0,.int .i64 0,.int .i64 0,.int .i64 0,.string ⟨#[]⟩,.string ⟨#[]⟩,.slice none 0 0] 39)
 clear h hw
 go_enter Tryz.func93,Tryz.ntmps93
 go_upto_region 1 with (fail)
 generalize w.alloc (.cells #[.int .i64 0,.int .i64 0,.int .i64 0,.int .i64 0,.int .i64 0,.int .i64 0,.int .i64 0,.int .i64 0,.string ⟨#[]⟩,.string ⟨#[]⟩,.slice none 0 0] 39) = w1 at *
 generalize hx : w.heap.size = x at *
 have P3 : Hid (Cl (w1.alloc (.cells #[.pointer (some ⟨x,0,none⟩),.pointer (some ⟨x,1,none⟩),.pointer (some ⟨x,2,none⟩),.pointer (some ⟨x,3,none⟩),.pointer (some ⟨x,4,none⟩),.pointer (some ⟨x,5,none⟩),.pointer (some ⟨x,6,none⟩),.pointer (some ⟨x,7,none⟩)] 161)) w1.heap.size (ptrsQ x) 161) := Cl.new w1 (ptrsQ x) _
 have X3 := hq' (X1.out.alloc (.cells #[.pointer (some ⟨x,0,none⟩),.pointer (some ⟨x,1,none⟩),.pointer (some ⟨x,2,none⟩),.pointer (some ⟨x,3,none⟩),.pointer (some ⟨x,4,none⟩),.pointer (some ⟨x,5,none⟩),.pointer (some ⟨x,6,none⟩),.pointer (some ⟨x,7,none⟩)] 161))
 have hpx : p ≠ w1.heap.size := by omega
 have hxx : x ≠ w1.heap.size := by omega
 have HX := hq' hx
 clear X1 hs1 hx
 go_wp2_with fail
 generalize w1.alloc (.cells #[.pointer (some ⟨x,0,none⟩),.pointer (some ⟨x,1,none⟩),.pointer (some ⟨x,2,none⟩),.pointer (some ⟨x,3,none⟩),.pointer (some ⟨x,4,none⟩),.pointer (some ⟨x,5,none⟩),.pointer (some ⟨x,6,none⟩),.pointer (some ⟨x,7,none⟩)] 161) = w3 at *
 generalize w1.heap.size = pb at *
 go_loopw [16] (fun i wr => ∃ k : Nat,i = .int .i64 k ∧ k ≤ 8 ∧ Rx w p x wr (stN q k) (cellsQ q k) 39 ∧ Cl wr pb (ptrsQ x) 161) (fun i _ => 8 - (intOf i).toNat)
 case atStart => exact ⟨0,rfl,by omega,X3.out,P3.out⟩
 case round =>
  obtain ⟨k,rfl,hk,hrx,hcl⟩ := hrel
  have X4 := hq' hrx
  have P4 := hq' hcl
  clear hrx hcl X3 P3
  by_cases hlt : k < 8
  ·have hc1 := (P4.out.cell k).trans (ptrsQ_get x k hlt)
   have hln := stN_len q k
   have HN : Hid (Calls Tryz.prog 92 #[.pointer (some ⟨p,0,none⟩)] wr (RdV (.int .i64 (vN q k)) wr p (stN q (k + 1)))) := int_any p (stN q k) wr X4.out.1 (by omega) (HW.out _ X4.out.2.2.2.2)
   have HCS := cellsQ_set q k hlt
   have HCG := cellsQ_get q k hlt
   go_wp2_with fail
   refine HN.out.mono ?_
   rintro e w5 ⟨rfl,h5⟩
   have X5 := hq' (X4.out.call h5)
   have P5 := hq' (P4.out.keep h5.2 (fun e => hpx e.symm))
   have d0 := (X5.out.2.1.cell k).trans HCG
   have f0 := X5.out.2.1.free k
   have X6 : Hid (Rx w p x (w5.setCell ⟨x,k,none⟩ (.int .i64 (vN q k))) (stN q (k + 1)) (cellsQ q (k + 1)) 39) := by
    rw [← HCS]
    exact X5.out.store k _
   have P6 := hq' (P5.out.other ⟨x,k,none⟩ (.int .i64 (vN q k)) hxx)
   clear h5 X4 P4 HN HCS HCG X5 P5
   generalize vN q k = n at *
   go_wp2
   go_roundw
   case rel => exact ⟨k + 1,by go_num,by omega,X6.out,P6.out⟩
   case measure => simp [intOf]; omega
  ·obtain rfl : k = 8 := by omega
   have hln := stN_len q 8
   have X5 : Hid (Rx w p x wr (stN q 8) [.int .i64 (vN q 0),.int .i64 (vN q 1),.int .i64 (vN q 2),.int .i64 (vN q 3),.int .i64 (vN q 4),.int .i64 (vN q 5),.int .i64 (vN q 6),.int .i64 (vN q 7),.string ⟨#[]⟩,.string ⟨#[]⟩,.slice none 0 0] 39) := X4.out
   clear X4 P4
   rw [show ((8 : Nat) : Int) = 8 from rfl]
   have l1 := sText_len 8 (stN q 8)
   have l2 := sText_len 8 (Bd.sText 8 (stN q 8)).2
   have HT1 := hq' (text_any p 8 (stN q 8) wr X5.out.1 (by omega) (HW.out _ X5.out.2.2.2.2))
   have HT2 := hq' (fun W (hR : Rd W p (Bd.sText 8 (stN q 8)).2) (hL : Lw W) => text_any p 8 (Bd.sText 8 (stN q 8)).2 W hR (by omega) hL)
   have HRR := hq' (fun W (hR : Rd W p (Bd.sText 8 (Bd.sText 8 (stN q 8)).2).2) (hL : ∀ W',Kp W p W' → Lw W') => readRecs_any p (Bd.sText 8 (Bd.sText 8 (stN q 8)).2).2 W hR (by omega) hL)
   generalize vN q 0 = n0 at *
   generalize vN q 1 = n1 at *
   generalize vN q 2 = n2 at *
   generalize vN q 3 = n3 at *
   generalize vN q 4 = n4 at *
   generalize vN q 5 = n5 at *
   generalize vN q 6 = n6 at *
   generalize vN q 7 = n7 at *
   generalize (Wi.sRecs (Bd.sText 8 (Bd.sText 8 (stN q 8)).2).2).1.1 = rs at *
   generalize (Wi.sRecs (Bd.sText 8 (Bd.sText 8 (stN q 8)).2).2).1.2 = ok at *
   generalize (Wi.sRecs (Bd.sText 8 (Bd.sText 8 (stN q 8)).2).2).2 = qz at *
   generalize (Bd.sText 8 (Bd.sText 8 (stN q 8)).2).1 = me at *
   generalize (Bd.sText 8 (Bd.sText 8 (stN q 8)).2).2 = q10 at *
   generalize (Bd.sText 8 (stN q 8)).1 = gr at *
   generalize (Bd.sText 8 (stN q 8)).2 = q9 at *
   generalize stN q 8 = q8 at *
   generalize wr = w7 at *
   go_wp2_with fail
   refine HT1.out.mono ?_
   rintro e w8 ⟨rfl,h8⟩
   have X8 := hq' (X5.out.call h8)
   clear h8 X5 HT1
   go_wp2_with fail
   refine (HT2.out _ X8.out.1 (HW.out _ X8.out.2.2.2.2)).mono ?_
   rintro e w9 ⟨rfl,h9⟩
   have X9 := hq' (X8.out.call h9)
   clear h9 X8 HT2
   have c8 := X9.out.2.1.cell 8
   have c9 := X9.out.2.1.cell 9
   have f8 := X9.out.2.1.free 8
   have f9 := X9.out.2.1.free 9
   simp only [g0',gs'] at c8 c9
   have XA : Hid (Rx w p x ((w9.setCell ⟨x,8,none⟩ (.string ⟨gr.toArray⟩)).setCell ⟨x,9,none⟩ (.string ⟨me.toArray⟩)) q10 [.int .i64 n0,.int .i64 n1,.int .i64 n2,.int .i64 n3,.int .i64 n4,.int .i64 n5,.int .i64 n6,.int .i64 n7,.string ⟨gr.toArray⟩,.string ⟨me.toArray⟩,.slice none 0 0] 39) := (X9.out.store 8 (.string ⟨gr.toArray⟩)).store 9 (.string ⟨me.toArray⟩)
   go_upto_region 7 with (fail)
   clear X9 c8 c9 f8 f9
   generalize (w9.setCell ⟨x,8,none⟩ (.string ⟨gr.toArray⟩)).setCell ⟨x,9,none⟩ (.string ⟨me.toArray⟩) = wA at *
   go_wp2_with fail
   refine (HRR.out _ XA.out.1 (fun W' k => HW.out _ (XA.out.2.2.2.2.trans k))).mono ?_
   rintro e wB ⟨v,rfl,ho,hr,hk⟩
   have XB := hq' (XA.out.own hr hk)
   have hxl := XA.out.2.1.lt
   have OB := hq' ho
   have hba : w.heap.size ≤ wA.heap.size := XA.out.2.2.2.2.size
   clear ho hr hk HRR XA
   have c10 := XB.out.2.1.cell 10
   have f10 := XB.out.2.1.free 10
   simp only [g0',gs'] at c10
   have XC : Hid (Rx w p x (wB.setCell ⟨x,10,none⟩ v) qz [.int .i64 n0,.int .i64 n1,.int .i64 n2,.int .i64 n3,.int .i64 n4,.int .i64 n5,.int .i64 n6,.int .i64 n7,.string ⟨gr.toArray⟩,.string ⟨me.toArray⟩,v] 39) := XB.out.store 10 v
   have OC := hq' (ownsRow_cell OB.out ⟨x,10,none⟩ v (by simp only; omega))
   obtain ⟨av,cv,hve⟩ := own_form OB.out
   subst hve
   go_upto_region 8 with (fail)
   clear XB OB c10 f10
   generalize wB.setCell ⟨x,10,none⟩ (.slice av rs.length cv) = wC at *
   obtain ⟨cs,hcs⟩ : ∃ cs : List Value,cs = [.int .i64 n0,.int .i64 n1,.int .i64 n2,.int .i64 n3,.int .i64 n4,.int .i64 n5,.int .i64 n6,.int .i64 n7,.string ⟨gr.toArray⟩,.string ⟨me.toArray⟩,.slice av rs.length cv] := ⟨_,rfl⟩
   have HI1 : Hid ((Tryz.prog.info? 39).map (·.size) = some cs.length) := by rw [Hid,hcs]; kernel_rfl
   have HI2 : Hid ((Tryz.prog.info? 39).map (·.size) = some (cs.toArray : Array Value).size) := by rw [Hid,hcs]; kernel_rfl
   have HONE : Hid ((cs.toArray : Array Value).all (·.oneCell') = true) := by rw [Hid,hcs]; simp [Value.oneCell']
   have HSZ : Hid ((cs.toArray : Array Value).size = (cs.toArray : Array Value).size) := rfl
   have HCS := hq' hcs
   rw [← hcs] at XC
   clear hcs
   have R7 := hq' XC.out.2.1.range
   have CQ : Hid (wC.heap[x]? = some (.cells cs.toArray 39 (0,0))) := XC.out.2.1
   have XD := hq' (XC.out.rowed cs.toArray)
   have OD := hq' (ownsRow_keeps (j := x) OC.out (Keeps.row _ _ _ rfl : Keeps (fun i => i = x) wC (wC.setRow x cs.toArray)) hxl)
   go_wp2_with (first
    | (refine wpList_load_mid (by rfl) _ _ (by rfl) x 0 (by rfl) cs _ R7.out Tryz.underlying39 (by rfl) HI1.out ?_)
    | (refine wpList_store_row (by rfl) _ _ _ (by rfl) x cs.toArray (by rfl) (by rfl) 39 _ CQ.out HI2.out HSZ.out HONE.out ?_))
   refine bodyPost_ret (results_cl_tmp rfl _ _ _ _ _ _ rfl XD.out.2.1 Tryz.underlying39 rfl HI1.out) rfl ?_
   refine ⟨.slice av rs.length cv,?_,?_,?_,XD.out.2.2.2.2⟩
   ·rw [HS.out,HCS.out]; rfl
   ·rw [HS.out]; exact ownsRow_weaken OD.out (by have := HX.out; omega)
   ·rw [HS.out]; exact XD.out.1
theorem readResp_any (p : Nat) (q : Bd.St) (w : World) (h : Rd w p q) (hl : q.1.length < 4294967281) (hw : ∀ W,Kp w p W → Lw W) :
  Calls Tryz.prog 94 #[.pointer (some ⟨p,0,none⟩)] w fun e w' => ∃ pv v,e = .returned (.tuple #[.agg (wrespC (Wi.sResp q).1.1 pv v).toArray,.bool (Wi.sResp q).1.2]) ∧ w'.ownsRow w.heap.size 3 1 pv (Wi.sResp q).1.1.parts.length (iv (Wi.sResp q).1.1.parts) ∧
   w'.ownsRow w.heap.size 67 4 v (Wi.sResp q).1.1.recs.length (recCells (Wi.sResp q).1.1.recs) ∧ Rd w' p (Wi.sResp q).2 ∧ Kp w p w' := by
 have HW := hq' hw
 have HS : Hid (Wi.sResp q = ((⟨vN q 0,vN q 1,vN q 2,vN q 3,vN q 4,vN q 5,(Wi.sInts (stN q 6)).1,(Wi.sRecs (Wi.sInts (stN q 6)).2).1.1⟩,(Wi.sRecs (Wi.sInts (stN q 6)).2).1.2),(Wi.sRecs (Wi.sInts (stN q 6)).2).2)) := rfl
 have X1 : Hid (Rx w p w.heap.size (w.alloc (.cells #[.int .i64 0,.int .i64 0,.int .i64 0,.int .i64 0,.int .i64 0,.int .i64 0,.slice none 0 0,.slice none 0 0] 42)) (stN q 0) [.int .i64 0,.int .i64 0,.int .i64 0,.int .i64 0,.int .i64 0,.int .i64 0,.slice none 0 0,.slice none 0 0] 42) := Rx.new h [.int .i64 0,.int .i64 0,.int .i64 0,.int .i64 0,.int .i64 0,.int .i64 0,.slice none 0 0,.slice none 0 0] _
 have hpl := h.lt
 have HN : Hid (∀ k W,Rd W p (stN q k) → Lw W → Calls Tryz.prog 92 #[.pointer (some ⟨p,0,none⟩)] W (RdV (.int .i64 (vN q k)) W p (stN q (k + 1)))) := fun k W hr hL => int_any p (stN q k) W hr (by have := stN_len q k; omega) hL
 have I0 := hq' (HN.out 0)
 have I1 := hq' (HN.out 1)
 have I2 := hq' (HN.out 2)
 have I3 := hq' (HN.out 3)
 have I4 := hq' (HN.out 4)
 have I5 := hq' (HN.out 5)
 have hl6 := stN_len q 6
 have hl7 := Wi.sInts_len (stN q 6)
 have HIS := hq' (fun W (hR : Rd W p (stN q 6)) (hL : ∀ W',Kp W p W' → Lw W') => numbers_any p (stN q 6) W hR (by omega) hL)
 have HRR := hq' (fun W (hR : Rd W p (Wi.sInts (stN q 6)).2) (hL : ∀ W',Kp W p W' → Lw W') => readRecs_any p (Wi.sInts (stN q 6)).2 W hR (by omega) hL)
 clear h hw HN
 simp only [Nat.zero_add,Nat.reduceAdd] at I0 I1 I2 I3 I4 I5
 generalize vN q 0 = n0 at *
 generalize vN q 1 = n1 at *
 generalize vN q 2 = n2 at *
 generalize vN q 3 = n3 at *
 generalize vN q 4 = n4 at *
 generalize vN q 5 = n5 at *
 generalize (Wi.sRecs (Wi.sInts (stN q 6)).2).1.1 = rs at *
 generalize (Wi.sRecs (Wi.sInts (stN q 6)).2).1.2 = ok at *
 generalize (Wi.sRecs (Wi.sInts (stN q 6)).2).2 = qz at *
 generalize (Wi.sInts (stN q 6)).1 = pts at *
 generalize (Wi.sInts (stN q 6)).2 = q7 at *
 generalize stN q 6 = q6 at *
 generalize stN q 5 = q5 at *
 generalize stN q 4 = q4 at *
 generalize stN q 3 = q3 at *
 generalize stN q 2 = q2 at *
 generalize stN q 1 = q1 at *
 generalize stN q 0 = q0 at *
 go_enter Tryz.func94,Tryz.ntmps94
 go_upto_region 1 with (fail)
 generalize w.alloc (.cells #[.int .i64 0,.int .i64 0,.int .i64 0,.int .i64 0,.int .i64 0,.int .i64 0,.slice none 0 0,.slice none 0 0] 42) = w1 at *
 generalize hx : w.heap.size = x at *
 have HX := hq' hx
 clear hx
 go_wp2_with fail
 refine (I0.out _ X1.out.1 (HW.out _ X1.out.2.2.2.2)).mono ?_
 rintro e w2 ⟨rfl,h2⟩
 have X2 := hq' (X1.out.call h2)
 clear h2 X1 I0
 go_wp2_with fail
 refine (I1.out _ X2.out.1 (HW.out _ X2.out.2.2.2.2)).mono ?_
 rintro e w3 ⟨rfl,h3⟩
 have X3 := hq' (X2.out.call h3)
 clear h3 X2 I1
 go_wp2_with fail
 refine (I2.out _ X3.out.1 (HW.out _ X3.out.2.2.2.2)).mono ?_
 rintro e w4 ⟨rfl,h4⟩
 have X4 := hq' (X3.out.call h4)
 clear h4 X3 I2
 have c0 := X4.out.2.1.cell 0
 have c1 := X4.out.2.1.cell 1
 have c2 := X4.out.2.1.cell 2
 have f0 := X4.out.2.1.free 0
 have f1 := X4.out.2.1.free 1
 have f2 := X4.out.2.1.free 2
 simp only [g0',gs'] at c0 c1 c2
 have X5 : Hid (Rx w p x (((w4.setCell ⟨x,0,none⟩ (.int .i64 n0)).setCell ⟨x,1,none⟩ (.int .i64 n1)).setCell ⟨x,2,none⟩ (.int .i64 n2)) q3 [.int .i64 n0,.int .i64 n1,.int .i64 n2,.int .i64 0,.int .i64 0,.int .i64 0,.slice none 0 0,.slice none 0 0] 42) := ((X4.out.store 0 (.int .i64 n0)).store 1 (.int .i64 n1)).store 2 (.int .i64 n2)
 go_upto_region 2 with (fail)
 clear X4 c0 c1 c2 f0 f1 f2
 generalize ((w4.setCell ⟨x,0,none⟩ (.int .i64 n0)).setCell ⟨x,1,none⟩ (.int .i64 n1)).setCell ⟨x,2,none⟩ (.int .i64 n2) = w5 at *
 go_wp2_with fail
 refine (I3.out _ X5.out.1 (HW.out _ X5.out.2.2.2.2)).mono ?_
 rintro e w6 ⟨rfl,h6⟩
 have X6 := hq' (X5.out.call h6)
 clear h6 X5 I3
 go_wp2_with fail
 refine (I4.out _ X6.out.1 (HW.out _ X6.out.2.2.2.2)).mono ?_
 rintro e w7 ⟨rfl,h7⟩
 have X7 := hq' (X6.out.call h7)
 clear h7 X6 I4
 go_wp2_with fail
 refine (I5.out _ X7.out.1 (HW.out _ X7.out.2.2.2.2)).mono ?_
 rintro e w8 ⟨rfl,h8⟩
 have X8 := hq' (X7.out.call h8)
 clear h8 X7 I5
 have c3 := X8.out.2.1.cell 3
 have c4 := X8.out.2.1.cell 4
 have c5 := X8.out.2.1.cell 5
 have f3 := X8.out.2.1.free 3
 have f4 := X8.out.2.1.free 4
 have f5 := X8.out.2.1.free 5
 simp only [g0',gs'] at c3 c4 c5
 have X9 : Hid (Rx w p x (((w8.setCell ⟨x,3,none⟩ (.int .i64 n3)).setCell ⟨x,4,none⟩ (.int .i64 n4)).setCell ⟨x,5,none⟩ (.int .i64 n5)) q6 [.int .i64 n0,.int .i64 n1,.int .i64 n2,.int .i64 n3,.int .i64 n4,.int .i64 n5,.slice none 0 0,.slice none 0 0] 42) := ((X8.out.store 3 (.int .i64 n3)).store 4 (.int .i64 n4)).store 5 (.int .i64 n5)
 go_upto_region 3 with (fail)
 clear X8 c3 c4 c5 f3 f4 f5
 generalize ((w8.setCell ⟨x,3,none⟩ (.int .i64 n3)).setCell ⟨x,4,none⟩ (.int .i64 n4)).setCell ⟨x,5,none⟩ (.int .i64 n5) = w9 at *
 go_wp2_with fail
 refine (HIS.out _ X9.out.1 (fun W' k => HW.out _ (X9.out.2.2.2.2.trans k))).mono ?_
 rintro e wa ⟨pv,rfl,ho,hr,hk⟩
 have XA := hq' (X9.out.own hr hk)
 have hxl := X9.out.2.1.lt
 have OA := hq' ho
 have hba : w.heap.size ≤ w9.heap.size := X9.out.2.2.2.2.size
 clear ho hr hk HIS X9
 have c6 := XA.out.2.1.cell 6
 have f6 := XA.out.2.1.free 6
 simp only [g0',gs'] at c6
 have XB : Hid (Rx w p x (wa.setCell ⟨x,6,none⟩ pv) q7 [.int .i64 n0,.int .i64 n1,.int .i64 n2,.int .i64 n3,.int .i64 n4,.int .i64 n5,pv,.slice none 0 0] 42) := XA.out.store 6 pv
 have OB := hq' (ownsRow_cell OA.out ⟨x,6,none⟩ pv (by simp only; omega))
 obtain ⟨ap,cp,hpe⟩ := own_form OA.out
 subst hpe
 go_upto_region 4 with (fail)
 clear XA OA c6 f6
 generalize wa.setCell ⟨x,6,none⟩ (.slice ap pts.length cp) = wB at *
 go_wp2_with fail
 refine (HRR.out _ XB.out.1 (fun W' k => HW.out _ (XB.out.2.2.2.2.trans k))).mono ?_
 rintro e wc ⟨v,rfl,ho,hr,hk⟩
 have XC := hq' (XB.out.own hr hk)
 have hxl2 := XB.out.2.1.lt
 have OC := hq' ho
 have hbb : w.heap.size ≤ wB.heap.size := XB.out.2.2.2.2.size
 have PC := hq' (OB.out.kept (row := some p) ⟨hk.os,hk.tape,hk.output,hk.size,fun i hi hne => hk.block i hi (fun e => e.elim (fun e => hne (by rw [e])) (fun e => by omega))⟩ (by
  rcases hv : (Value.slice ap pts.length cp).ownBlock with _ | g
  ·exact .inl rfl
  ·right
   intro e
   have := (OB.out.lt g hv).1
   injection e with e
   omega))
 clear ho hr hk HRR XB OB
 have c7 := XC.out.2.1.cell 7
 have f7 := XC.out.2.1.free 7
 simp only [g0',gs'] at c7
 have XD : Hid (Rx w p x (wc.setCell ⟨x,7,none⟩ v) qz [.int .i64 n0,.int .i64 n1,.int .i64 n2,.int .i64 n3,.int .i64 n4,.int .i64 n5,.slice ap pts.length cp,v] 42) := XC.out.store 7 v
 have OD := hq' (ownsRow_cell OC.out ⟨x,7,none⟩ v (by simp only; omega))
 have PD := hq' (ownsRow_cell PC.out ⟨x,7,none⟩ v (by simp only; omega))
 obtain ⟨av,cv,hve⟩ := own_form OC.out
 subst hve
 go_upto_region 5 with (fail)
 clear XC OC PC c7 f7
 generalize wc.setCell ⟨x,7,none⟩ (.slice av rs.length cv) = wD at *
 obtain ⟨cs,hcs⟩ : ∃ cs : List Value,cs = [.int .i64 n0,.int .i64 n1,.int .i64 n2,.int .i64 n3,.int .i64 n4,.int .i64 n5,.slice ap pts.length cp,.slice av rs.length cv] := ⟨_,rfl⟩
 have HI1 : Hid ((Tryz.prog.info? 42).map (·.size) = some cs.length) := by rw [Hid,hcs]; kernel_rfl
 have HI2 : Hid ((Tryz.prog.info? 42).map (·.size) = some (cs.toArray : Array Value).size) := by rw [Hid,hcs]; kernel_rfl
 have HONE : Hid ((cs.toArray : Array Value).all (·.oneCell') = true) := by rw [Hid,hcs]; simp [Value.oneCell']
 have HSZ : Hid ((cs.toArray : Array Value).size = (cs.toArray : Array Value).size) := rfl
 have HCS := hq' hcs
 rw [← hcs] at XD
 clear hcs
 have R7 := hq' XD.out.2.1.range
 have CQ : Hid (wD.heap[x]? = some (.cells cs.toArray 42 (0,0))) := XD.out.2.1
 have XE := hq' (XD.out.rowed cs.toArray)
 have KR : Hid (Keeps (fun i => i = x) wD (wD.setRow x cs.toArray)) := Keeps.row _ _ _ rfl
 have OE := hq' (ownsRow_keeps (j := x) OD.out KR.out (by omega))
 have PE := hq' (ownsRow_keeps (j := x) PD.out KR.out (by omega))
 go_wp2_with (first
  | (refine wpList_load_mid (by rfl) _ _ (by rfl) x 0 (by rfl) cs _ R7.out Tryz.underlying42 (by rfl) HI1.out ?_)
  | (refine wpList_store_row (by rfl) _ _ _ (by rfl) x cs.toArray (by rfl) (by rfl) 42 _ CQ.out HI2.out HSZ.out HONE.out ?_))
 refine bodyPost_ret (results_cl_tmp rfl _ _ _ _ _ _ rfl XE.out.2.1 Tryz.underlying42 rfl HI1.out) rfl ?_
 refine ⟨.slice ap pts.length cp,.slice av rs.length cv,?_,?_,?_,?_,XE.out.2.2.2.2⟩
 ·rw [HS.out,HCS.out]; rfl
 ·rw [HS.out]; exact ownsRow_weaken PE.out (by have := HX.out; omega)
 ·rw [HS.out]; exact ownsRow_weaken OE.out (by have := HX.out; omega)
 ·rw [HS.out]; exact XE.out.1
open Go.RowKit Go.Shelf
attribute [local go_sem] Oper.semAt_some
theorem chunk_any (a : Option Addr) (n c : Nat) (w : World) : Calls Tryz.prog 121 #[.slice a n c,.int .i64 2] w fun e w' =>
  e = .returned (.func (.func 137) #[] #[.pointer (some ⟨w.heap.size,0,none⟩),.pointer (some ⟨w.heap.size + 1,0,none⟩)]) ∧ w' = (w.alloc (.cells #[.slice a n c] 30)).alloc (.cells #[.int .i64 2] 3) := by
 have hs := World.size_alloc w (.cells #[.slice a n c] 30)
 go_enter Tryz.func121,Tryz.ntmps121
 go_wp2
 go_ret
 exact ⟨rfl,rfl⟩
def KpC (bs bn : Nat) (A B : World) : Prop := B.heap[bs]? = A.heap[bs]? ∧ B.heap[bn]? = A.heap[bn]?
theorem KpC.trans {bs bn : Nat} {A B C : World} (h : KpC bs bn A B) (k : KpC bs bn B C) : KpC bs bn A C := ⟨k.1.trans h.1,k.2.trans h.2⟩
theorem KpC.book {bs bn : Nat} {w : World} (h1 : bs < w.heap.size) (h2 : bn < w.heap.size) (W : World) (l : Nat) (o o' : Obj) (hl : w.heap.size ≤ l) (h : W.heap[l]? = some o) (_ : o.isCells = false) (_ : o.isWalk = false) : KpC bs bn W (W.putObj l o') := by
 have hg := grownBy_putObj' W l o'
 have hlt := (Array.getElem?_eq_some_iff.1 h).1
 exact ⟨hg.block bs (by omega) (by intro e; injection e with e; omega),hg.block bn (by omega) (by intro e; injection e with e; omega)⟩
def chunkV (g : Nat) {m : Nat} (k : Fin m) : Array Value := #[.slice (some ⟨g,2 * k.1,none⟩) 2 2]
theorem grown_of_below2 {w w' : World} (h : Below w.heap.size w w') : w.grownBy w' none := ⟨h.os,h.tape,h.output,h.size,fun k hk _ => h.block k hk⟩
set_option maxRecDepth 100000 in
theorem chunk_stops (n : Nat) (hn : 1 ≤ n) (bs bn g m cap : Nat) (a : Option Addr) (w : World) (hbs : bs < w.heap.size) (hbn : bn < w.heap.size) (hs : w.cell? ⟨bs,0,none⟩ = some (.slice a (2 * m) cap)) (hb : w.cell? ⟨bn,0,none⟩ = some (.int .i64 2))
  (hc : 2 * m ≤ cap) (hm : m < 4294967296) (ha : a = some ⟨g,0,none⟩ ∨ m = 0) :
  SeqStopsK Fence.wide n Tryz.prog 137 #[.pointer (some ⟨bs,0,none⟩),.pointer (some ⟨bn,0,none⟩)] (chunkV g) (KpC bs bn) (fun xs : List (Fin m) => xs.map (·.1) = List.range m) (fun _ => True) m w := fun l J Jx W hW hJ hJx hY h0 => by
 have hs0 := (hW.cell (p := ⟨bs,0,none⟩) hbs).trans hs
 have hb0 := (hW.cell (p := ⟨bn,0,none⟩) hbn).trans hb
 have hbs' : bs < W.heap.size := Nat.lt_of_lt_of_le hbs hW.size
 have hbn' : bn < W.heap.size := Nat.lt_of_lt_of_le hbn hW.size
 have HY := hq' hY
 have HJ := hq' hJ
 have HA := hq' ha
 have H0 := hq' h0
 have S0 := hq' hs0
 have B0 := hq' hb0
 clear hY hJ ha hs hb hW hbs hbn h0 hs0 hb0
 refine callsIn_of_wp Tryz.func137 rfl trivial ?_ rfl
 simp only [Tryz.ntmps137,List.size_toArray,List.length_cons,List.length_nil,Nat.reduceAdd,Nat.reduceSub,Array.replicate_succ,Array.replicate_zero,List.push_toArray,List.append_toArray,List.nil_append,List.cons_append]
 gi_wp2
 gi_loopw [4] (fun i wr => ∃ k : Nat,i = .int .i64 ((2 * k : Nat) : Int) ∧ k ≤ m ∧ (∃ pre : List (Fin m),pre.map (·.1) = List.range k ∧ J pre wr) ∧ wr.cell? ⟨bs,0,none⟩ = some (.slice a (2 * m) cap) ∧ wr.cell? ⟨bn,0,none⟩ = some (.int .i64 2) ∧ bs < wr.heap.size ∧ bn < wr.heap.size) (fun i _ => 2 * m - (intOf i).toNat)
 case atStart => exact ⟨0,rfl,by omega,⟨[],rfl,H0.out⟩,S0.out,B0.out,hbs',hbn'⟩
 case round =>
  obtain ⟨k,rfl,hk,⟨pre,hpre,hjp⟩,hsw,hbw,hls,hlb⟩ := hrel
  have HJP := hq' hjp
  clear hjp H0 S0 B0 hbs' hbn'
  by_cases hlt : k < m
  ·obtain ⟨rfl⟩ : a = some ⟨g,0,none⟩ := HA.out.resolve_right (by omega)
   have hlti : ((2 * k : Nat) : Int) < ((2 * m : Nat) : Int) := by omega
   have hmin : (min 2 ((2 * m - 2 * k : Nat) : Int)) = 2 := by omega
   have h22 : (2 * (k : Int) + 2).toNat - 2 * k = 2 := by omega
   have hjd : J pre wr.drew := HJ.out _ _ _ none HJP.out (grown_of_below2 (Below.refl _ _).drew) (fun r e => by cases e)
   obtain ⟨fn,tmps,assign,body,hy,hR⟩ := HY.out pre ⟨k,hlt⟩ wr.drew hjd (by have := congrArg List.length hpre; simp at this; omega)
   have hnext : Hid ((pre ++ [(⟨k,hlt⟩ : Fin m)]).map (·.1) = List.range (k + 1)) := by rw [Hid,List.map_append,hpre,List.range_succ]; rfl
   have hsd : wr.drew.cell? ⟨bs,0,none⟩ = some (.slice (some ⟨g,0,none⟩) (2 * m) cap) := hsw
   have hbd : wr.drew.cell? ⟨bn,0,none⟩ = some (.int .i64 2) := hbw
   have HR := hq' hR
   unfold chunkV at hy
   clear hR
   gi_wp2
   gi_region
   gi_wp2
   refine HR.out.mono ?_
   rintro e W3 (⟨rfl,hJ3,hk3⟩ | ⟨rfl,hJx3⟩)
   ·have HJ3 := hq' hJ3
    have s3 : W3.cell? ⟨bs,0,none⟩ = some (.slice (some ⟨g,0,none⟩) (2 * m) cap) := (World.cell?_of_block hk3.1).trans hsd
    have b3 : W3.cell? ⟨bn,0,none⟩ = some (.int .i64 2) := (World.cell?_of_block hk3.2).trans hbd
    have ls3 : bs < W3.heap.size := (Array.getElem?_eq_some_iff.1 (hk3.1.trans (Array.getElem?_eq_getElem hls))).1
    have lb3 : bn < W3.heap.size := (Array.getElem?_eq_some_iff.1 (hk3.2.trans (Array.getElem?_eq_getElem hlb))).1
    clear hJ3 hk3 hjd hsd hbd hsw hbw HJP
    gi_wp2
    go_roundw
    case rel => exact ⟨k + 1,by congr 1 <;> omega,by omega,⟨_,hnext.out,HJ3.out⟩,s3,b3,ls3,lb3⟩
    case measure => simp [intOf]; omega
   ·have HJ3 := hq' hJx3
    clear hJx3
    gi_wp2
    refine bodyPost_ret (results_none rfl _ _ _) rfl ?_
    exact ⟨⟨_,rfl⟩,.inr ⟨_,trivial,HJ3.out⟩⟩
  ·obtain rfl : k = m := by omega
   gi_wp2
   go_end0
   exact ⟨⟨_,rfl⟩,.inl ⟨pre,hpre,HJP.out⟩⟩
end Go.Proofs.YtbljbdjmgogknaaGreatDoor
