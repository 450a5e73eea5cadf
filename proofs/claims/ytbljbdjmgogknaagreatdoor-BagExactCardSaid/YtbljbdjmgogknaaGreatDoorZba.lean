/-
  Wm8 / Wn0 / Wn1 / Wn2 / Wn3: texts of one proof, one behind the other.
  Conditions: none of its own.
-/
import Derived.Test.YtbljbdjmgogknaaGreatDoorZaz
set_option linter.unusedVariables false
set_option linter.unusedSimpArgs false
set_option maxHeartbeats 12800000
set_option maxRecDepth 20000
namespace Go.Proofs.YtbljbdjmgogknaaGreatDoor
open Go.RowKit
theorem sText_most (m : Nat) (q : Bd.St) : (Bd.sText m q).1.length ≤ m := by
 obtain ⟨s,b⟩ := q
 cases b with
 | true => simp [Bd.sText]
 | false =>
  cases hr : Bd.rdText m s with
  | none => simp [Bd.sText,hr]
  | some x =>
   obtain ⟨n,r⟩ := x
   have h := (Bd.rdText_some hr).1
   simp only [Bd.sText,hr]
   show n.length ≤ m
   omega
theorem sRec4_ok (q : Bd.St) : RecOk (Wi.sRec4 q).1.1 := by
 refine ⟨sInt_inR _,?_,?_⟩
 ·exact Nat.le_trans (sText_most 16 _) (by unfold maxLen; decide)
 ·exact Nat.le_trans (sText_most 64 _) (by unfold maxLen; decide)
theorem sInts_ok (q : Bd.St) (hl : q.1.length < 4294967281) : (Wi.sInts q).1.length ≤ maxLen ∧ ∀ x ∈ (Wi.sInts q).1,Bd.inR x := by
 refine ⟨?_,Wi.sMany_all (P := Bd.inR) (fun q => sInt_inR q) _ _⟩
 have h1 := sAll_cnt Bd.sInt (Bd.sSign 108 q)
 have h3 := sSign_len 108 q
 show (Wi.sAll Bd.sInt (Bd.sSign 108 q)).1.length ≤ maxLen
 unfold maxLen
 omega
theorem sRecs_ok (q : Bd.St) (hl : q.1.length < 4294967281) : (Wi.sRecs q).1.1.length ≤ maxLen ∧ ∀ x ∈ (Wi.sRecs q).1.1,RecOk x := by
 have h1 := sAll_cnt Wi.sRec4 (Bd.sSign 108 q)
 have h3 := sSign_len 108 q
 refine ⟨?_,?_⟩
 ·show ((Wi.sAll Wi.sRec4 (Bd.sSign 108 q)).1.map (·.1)).length ≤ maxLen
  rw [List.length_map]
  unfold maxLen
  omega
 ·intro x hx
  obtain ⟨y,hy,rfl⟩ := List.mem_map.1 (show x ∈ (Wi.sAll Wi.sRec4 (Bd.sSign 108 q)).1.map (·.1) from hx)
  exact Wi.sMany_all (P := fun y : Cr.Rec × Bool => RecOk y.1) (fun q => sRec4_ok q) _ _ y hy
theorem sReq_ok (q : Bd.St) (hl : q.1.length < 4294967281) : ReqOk (Wi.sReq q).1.1 := by
 have h := sRecs_ok (Bd.sText 8 (Bd.sText 8 (stN q 8)).2).2 (by
  have l1 := sText_len 8 (stN q 8)
  have l2 := sText_len 8 (Bd.sText 8 (stN q 8)).2
  have l3 := stN_len q 8
  omega)
 exact ⟨⟨sInt_inR _,sInt_inR _,sInt_inR _,sInt_inR _,sInt_inR _,sInt_inR _,sInt_inR _,sInt_inR _⟩,Nat.le_trans (sText_most 8 (stN q 8)) (by unfold maxLen; decide),Nat.le_trans (sText_most 8 (Bd.sText 8 (stN q 8)).2) (by unfold maxLen; decide),h.1,h.2⟩
theorem sResp_ok (q : Bd.St) (hl : q.1.length < 4294967281) : RespOk (Wi.sResp q).1.1 := by
 have l1 := stN_len q 6
 have l2 := Wi.sInts_len (stN q 6)
 have h := sInts_ok (stN q 6) (by omega)
 have h2 := sRecs_ok (Wi.sInts (stN q 6)).2 (by omega)
 exact ⟨⟨sInt_inR _,sInt_inR _,sInt_inR _,sInt_inR _,sInt_inR _,sInt_inR _⟩,h,h2.1,h2.2⟩
theorem sPlace_ok (q : Bd.St) (hl : q.1.length < 4294967281) : Bd.inR (Wi.sPlace q).1.1.1 ∧ ((Wi.sPlace q).1.1.2.1.length ≤ maxLen ∧ ∀ x ∈ (Wi.sPlace q).1.1.2.1,Bd.inR x) ∧ Bd.inR (Wi.sPlace q).1.1.2.2.1 ∧ ((Wi.sPlace q).1.1.2.2.2.length ≤ maxLen ∧ ∀ x ∈ (Wi.sPlace q).1.1.2.2.2,Bd.inR x.1 ∧ Bd.inR x.2) := by
 have l1 := sInt_len q
 have l2 := Wi.sInts_len (Bd.sInt q).2
 have l3 := sInt_len (Wi.sInts (Bd.sInt q).2).2
 have h := sInts_ok (Bd.sInt q).2 (by omega)
 have h2 := sInts_ok (Bd.sInt (Wi.sInts (Bd.sInt q).2).2).2 (by omega)
 refine ⟨sInt_inR _,h,sInt_inR _,?_⟩
 show (if Wi.evenB (Wi.sInts (Bd.sInt (Wi.sInts (Bd.sInt q).2).2).2).1 then Wi.pairs (Wi.sInts (Bd.sInt (Wi.sInts (Bd.sInt q).2).2).2).1 else []).length ≤ maxLen ∧ ∀ x ∈ (if Wi.evenB (Wi.sInts (Bd.sInt (Wi.sInts (Bd.sInt q).2).2).2).1 then Wi.pairs (Wi.sInts (Bd.sInt (Wi.sInts (Bd.sInt q).2).2).2).1 else []),Bd.inR x.1 ∧ Bd.inR x.2
 generalize (Wi.sInts (Bd.sInt (Wi.sInts (Bd.sInt q).2).2).2).1 = l at *
 cases he : Wi.evenB l with
 | false => exact ⟨Nat.zero_le _,fun x hx => by simp at hx⟩
 | true =>
  have hev : l.length % 2 = 0 := by simpa [Wi.evenB] using he
  have hp := pairs_at (l.length / 2) l (by omega)
  rw [if_pos rfl,hp]
  refine ⟨by rw [List.length_map,List.length_range]; have := h2.1; omega,fun x hx => ?_⟩
  obtain ⟨k,hk,rfl⟩ := List.mem_map.1 hx
  rw [List.mem_range] at hk
  refine ⟨?_,?_⟩
  ·have e : l.getD (2 * k) 0 = l[2 * k] := by simp [List.getD,(by omega : 2 * k < l.length)]
   show Bd.inR (l.getD (2 * k) 0)
   rw [e]; exact h2.2 _ (List.getElem_mem _)
  ·have e : l.getD (2 * k + 1) 0 = l[2 * k + 1] := by simp [List.getD,(by omega : 2 * k + 1 < l.length)]
   show Bd.inR (l.getD (2 * k + 1) 0)
   rw [e]; exact h2.2 _ (List.getElem_mem _)
theorem zBat_ok : BatOk Wi.zBatch := ⟨⟨by decide,by decide⟩,⟨by decide,by decide⟩,⟨by decide,by decide⟩,⟨by decide,by decide⟩,⟨by decide,by decide⟩,Nat.zero_le _,fun x hx => by cases hx⟩
theorem zTab_ok : TabOk [] := ⟨Nat.zero_le _,fun x hx => by cases hx⟩
theorem zReq_ok : ReqOk Wi.zReq := ⟨⟨⟨by decide,by decide⟩,⟨by decide,by decide⟩,⟨by decide,by decide⟩,⟨by decide,by decide⟩,⟨by decide,by decide⟩,⟨by decide,by decide⟩,⟨by decide,by decide⟩,⟨by decide,by decide⟩⟩,Nat.zero_le _,Nat.zero_le _,Nat.zero_le _,fun x hx => by cases hx⟩
theorem zResp_ok : RespOk Wi.zResp := ⟨⟨⟨by decide,by decide⟩,⟨by decide,by decide⟩,⟨by decide,by decide⟩,⟨by decide,by decide⟩,⟨by decide,by decide⟩,⟨by decide,by decide⟩⟩,⟨Nat.zero_le _,fun x hx => by cases hx⟩,Nat.zero_le _,fun x hx => by cases hx⟩
theorem msgOk_of {m : Wi.Msg} (h : ∀ x ∈ [m.kind,m.frm,m.to,m.part,m.ep,m.off,m.high,m.life,m.pep,m.learner],Bd.inR x) (c : m.chain.length ≤ maxLen ∧ ∀ x ∈ m.chain,Bd.inR x) (l : m.lives.length ≤ maxLen ∧ ∀ x ∈ m.lives,Bd.inR x.1 ∧ Bd.inR x.2)
  (b : BatOk m.batch) (t : TabOk m.table) (q : ReqOk m.req) (a : RespOk m.resp) : MsgOk m := by
 obtain ⟨⟨q0,q1,q2,q3,q4,q5,q6,q7⟩,q8,q9,q10,q11⟩ := q
 obtain ⟨⟨a0,a1,a2,a3,a4,a5⟩,a6,a7,a8⟩ := a
 simp only [List.mem_cons,List.not_mem_nil,or_false,forall_eq_or_imp,forall_eq] at h
 obtain ⟨h0,h1,h2,h3,h4,h5,h6,h7,h8,h9⟩ := h
 refine ⟨?_,c,l,b,t,⟨q8,q9,q10,q11⟩,a6,⟨a7,a8⟩⟩
 simp only [List.mem_cons,List.not_mem_nil,or_false,forall_eq_or_imp,forall_eq]
 exact ⟨h0,h1,h2,h3,h4,h5,h6,h7,h8,h9,q0,q1,q2,q3,q4,q5,q6,q7,a0,a1,a2,a3,a4,a5⟩
structure MsgO (w : World) (B : Nat) (m : Wi.Msg) (v : MsgV) : Prop where
 chain : w.ownsRow B 3 1 v.chain m.chain.length (iv m.chain)
 lives : w.ownsRow B 90 2 v.lives m.lives.length (lifeCells m.lives)
 brecs : w.ownsRow B 67 4 v.brecs m.batch.recs.length (recCells m.batch.recs)
 table : TabO w B v.table m.table
 qrecs : w.ownsRow B 67 4 v.qrecs m.req.recs.length (recCells m.req.recs)
 parts : w.ownsRow B 3 1 v.parts m.resp.parts.length (iv m.resp.parts)
 arecs : w.ownsRow B 67 4 v.arecs m.resp.recs.length (recCells m.resp.recs)
theorem MsgO.at {w : World} {B : Nat} {m : Wi.Msg} {v : MsgV} (h : MsgO w B m v) : MsgAt w m v :=
 ⟨ints_own h.chain,rw_own (f := lifeC) (fun _ => rfl) (by decide) h.lives,(Sl.ofOwn h.brecs).recs,h.table.tbl,(Sl.ofOwn h.qrecs).recs,ints_own h.parts,(Sl.ofOwn h.arecs).recs⟩
theorem MsgO.keepsS {S : Nat → Prop} {w w' : World} {B : Nat} {m : Wi.Msg} {v : MsgV} (h : MsgO w B m v) (k : Keeps S w w') (hS : ∀ j,B ≤ j → ¬ S j) : MsgO w' B m v :=
 ⟨ownsRow_keepsS h.chain k (fun j hj => hS j (h.chain.lt j hj).1),ownsRow_keepsS h.lives k (fun j hj => hS j (h.lives.lt j hj).1),ownsRow_keepsS h.brecs k (fun j hj => hS j (h.brecs.lt j hj).1),h.table.keepsS k hS,
  ownsRow_keepsS h.qrecs k (fun j hj => hS j (h.qrecs.lt j hj).1),ownsRow_keepsS h.parts k (fun j hj => hS j (h.parts.lt j hj).1),ownsRow_keepsS h.arecs k (fun j hj => hS j (h.arecs.lt j hj).1)⟩
theorem MsgO.cap {w : World} {B : Nat} {m : Wi.Msg} {v : MsgV} (h : MsgO w B m v) : CapOk v.arecs := by
 intro a n cap hv
 rcases h.arecs.2 with ⟨e,_⟩ | ⟨g,cap',cur,e,_,_,hc,_⟩
 ·rw [hv] at e; injection e with e1 e2 e3; omega
 ·rw [hv] at e; injection e with e1 e2 e3; omega
theorem own_nil (w : World) (B : Nat) (e : TypeId) (size : Nat) : w.ownsRow B e size (.slice none 0 0) 0 [] := ⟨by rw [Nat.zero_mul]; rfl,.inl ⟨rfl,rfl⟩⟩
theorem tab_nil (w : World) (B : Nat) : TabO w B (.slice none 0 0) [] := ⟨[],rfl,own_nil w B _ _,fun y hy => by cases hy⟩
theorem sHead_lo (q : Bd.St) (h : ¬ 4 ≤ vN q 0) : Wi.sHead q = (⟨vN q 0,vN q 1,vN q 2,0,0,0,0,0,0,[],0,[],Wi.zBatch,[],Wi.zReq,Wi.zResp⟩,stN q 3) := by
 show (if 4 ≤ vN q 0 then _ else _) = _
 rw [if_neg h]
 rfl
theorem sHead_hi (q : Bd.St) (h : 4 ≤ vN q 0) : Wi.sHead q = (⟨vN q 0,vN q 1,vN q 2,vN q 3,vN q 4,0,0,0,0,[],0,[],Wi.zBatch,[],Wi.zReq,Wi.zResp⟩,stN q 5) := by
 show (if 4 ≤ vN q 0 then _ else _) = _
 rw [if_pos h]
 rfl
theorem rx_new {w : World} {p : Nat} {q : Bd.St} (h : Rd w p q) (cs : List Value) (t : TypeId) : ∃ w0,w.alloc (.cells cs.toArray t) = w0 ∧ Hid (Rx w p w.heap.size w0 q cs t) := ⟨_,rfl,Rx.new h cs t⟩
def ReadR (w : World) (p : Nat) (r : (Wi.Msg × Bool) × Bd.St) (e : Ending) (w' : World) : Prop :=
 ∃ v,e = .returned (.tuple #[msgV r.1.1 v,.bool r.1.2]) ∧ MsgO w' w.heap.size r.1.1 v ∧ MsgOk r.1.1 ∧ Rd w' p r.2 ∧ Kp w p w'
theorem wread_lo (p : Nat) (q : Bd.St) (w : World) (h : Rd w p q) (hl : q.1.length < 4294967281) (hw : ∀ W,Kp w p W → Lw W) (hk : vN q 0 ≤ 0) :
  Calls Tryz.prog 59 #[.pointer (some ⟨p,0,none⟩)] w (ReadR w p (Wi.sMsg q)) := by
 have HW := hq' hw
 have HN : Hid (∀ k W,Rd W p (stN q k) → Lw W → Calls Tryz.prog 92 #[.pointer (some ⟨p,0,none⟩)] W (RdV (.int .i64 (vN q k)) W p (stN q (k + 1)))) := fun k W hr hL => int_any p (stN q k) W hr (by have := stN_len q k; omega) hL
 have I0 := hq' (HN.out 0)
 have r0 : Bd.inR (vN q 0) := sInt_inR _
 have I1 := hq' (HN.out 1)
 have r1 : Bd.inR (vN q 1) := sInt_inR _
 have I2 := hq' (HN.out 2)
 have r2 : Bd.inR (vN q 2) := sInt_inR _
 simp only [Nat.zero_add,Nat.reduceAdd] at I0 I1 I2
 have hh : ¬ 4 ≤ vN q 0 := by omega
 have HS : Hid (Wi.sMsg q = ((⟨vN q 0,vN q 1,vN q 2,0,0,0,0,0,0,[],0,[],Wi.zBatch,[],Wi.zReq,Wi.zResp⟩,true),stN q 3)) := by
  rw [Hid,Wi.sMsg,sHead_lo q hh]
  unfold Wi.sTail
  dsimp only
  rw [if_neg (by omega),if_neg (by omega),if_neg (by omega),if_neg (by omega),if_neg (by omega),if_neg (by omega),if_neg (by omega),if_neg (by omega)]
 clear HN hw
 try dsimp only at *
 generalize vN q 0 = n0 at *
 generalize vN q 1 = n1 at *
 generalize vN q 2 = n2 at *
 generalize stN q 3 = q3 at *
 generalize stN q 2 = q2 at *
 generalize stN q 1 = q1 at *
 have HSR := hq' HS.out
 obtain ⟨w0,hw0,X0⟩ := rx_new (q := stN q 0) h (zt0) 44
 have HW0 := hq' hw0
 clear hw0
 have hpl := h.lt
 generalize stN q 0 = q0 at *
 clear h
 have t4 : decide (4 ≤ n0) = false := by simp; omega
 have t1b : (n0 == 1) = false := by simp; omega
 have t7b : (n0 == 7) = false := by simp; omega
 have t2b : (n0 == 2) = false := by simp; omega
 have t3b : (n0 == 3) = false := by simp; omega
 have t4b : (n0 == 4) = false := by simp; omega
 have t5b : (n0 == 5) = false := by simp; omega
 have t6b : (n0 == 6) = false := by simp; omega
 have t8b : (n0 == 8) = false := by simp; omega
 have t9b : (n0 == 9) = false := by simp; omega
 go_enter Tryz.func59,Tryz.ntmps59
 go_upto_region 2 with (fail)
 rw [HW0.out]
 clear HW0
 generalize hx : w.heap.size = x at *
 have HX := hq' hx
 clear hx
 go_wp2_with fail
 refine (I0.out _ X0.out.1 (HW.out _ X0.out.2.2.2.2)).mono ?_
 rintro e u1 ⟨rfl,hr⟩
 have Y2 := hq' (X0.out.call hr)
 clear hr X0 I0
 go_wp2_with fail
 refine (I1.out _ Y2.out.1 (HW.out _ Y2.out.2.2.2.2)).mono ?_
 rintro e u3 ⟨rfl,hr⟩
 have Y4 := hq' (Y2.out.call hr)
 clear hr Y2 I1
 go_wp2_with fail
 refine (I2.out _ Y4.out.1 (HW.out _ Y4.out.2.2.2.2)).mono ?_
 rintro e u5 ⟨rfl,hr⟩
 have Y6 := hq' (Y4.out.call hr)
 clear hr Y4 I2
 have c0 := Y6.out.2.1.cell 0
 have f0 := Y6.out.2.1.free 0
 have c1 := Y6.out.2.1.cell 1
 have f1 := Y6.out.2.1.free 1
 have c2 := Y6.out.2.1.cell 2
 have f2 := Y6.out.2.1.free 2
 simp only [g0',gs'] at c0 c1 c2
 have Y7 : Hid (Rx w p x (((u5.setCell ⟨x,0,none⟩ (.int .i64 n0)).setCell ⟨x,1,none⟩ (.int .i64 n1)).setCell ⟨x,2,none⟩ (.int .i64 n2)) q3 (.int .i64 n0::.int .i64 n1::.int .i64 n2::zt3) 44) := (((Y6.out.store 0 (.int .i64 n0)).store 1 (.int .i64 n1)).store 2 (.int .i64 n2))
 go_upto_region 3 with (fail)
 generalize (((u5.setCell ⟨x,0,none⟩ (.int .i64 n0)).setCell ⟨x,1,none⟩ (.int .i64 n1)).setCell ⟨x,2,none⟩ (.int .i64 n2)) = u8 at *
 clear Y6 c0 f0 c1 f1 c2 f2
 have c0 := Y7.out.2.1.cell 0
 simp only [g0',gs'] at c0
 go_upto_region 25 with (fail)
 clear c0
 obtain ⟨cs,hcs⟩ : ∃ cs : List Value,cs = (.int .i64 n0::.int .i64 n1::.int .i64 n2::zt3) := ⟨_,rfl⟩
 have HI1 : Hid ((Tryz.prog.info? 44).map (·.size) = some cs.length) := by rw [Hid,hcs]; kernel_rfl
 have HI2 : Hid ((Tryz.prog.info? 44).map (·.size) = some (cs.toArray : Array Value).size) := by rw [Hid,hcs]; kernel_rfl
 have HONE : Hid ((cs.toArray : Array Value).all (·.oneCell') = true) := by rw [Hid,hcs]; simp [Value.oneCell']
 have HSZ : Hid ((cs.toArray : Array Value).size = (cs.toArray : Array Value).size) := rfl
 have HCS := hq' hcs
 rw [← hcs] at Y7
 clear hcs
 have RX := hq' Y7.out.2.1.range
 have CQ : Hid (u8.heap[x]? = some (.cells cs.toArray 44 (0,0))) := Y7.out.2.1
 have XZ := hq' (Y7.out.rowed cs.toArray)
 have KR : Hid (Keeps (fun i => i = x) u8 (u8.setRow x cs.toArray)) := Keeps.row _ _ _ rfl
 go_wp2_with (first
   | (refine wpList_load_mid (by rfl) _ _ (by rfl) x 0 (by rfl) cs _ RX.out Tryz.underlying44 (by rfl) HI1.out ?_)
   | (refine wpList_store_row (by rfl) _ _ _ (by rfl) x cs.toArray (by rfl) (by rfl) 44 _ CQ.out HI2.out HSZ.out HONE.out ?_))
 refine bodyPost_ret (results_cl_tmp rfl _ _ _ _ _ _ rfl XZ.out.2.1 Tryz.underlying44 rfl HI1.out) rfl ?_
 rw [HSR.out]
 refine ⟨⟨.slice none 0 0,.slice none 0 0,.slice none 0 0,.slice none 0 0,.slice none 0 0,.slice none 0 0,.slice none 0 0⟩,?_,⟨own_nil _ _ _ _,own_nil _ _ _ _,own_nil _ _ _ _,tab_nil _ _,own_nil _ _ _ _,own_nil _ _ _ _,own_nil _ _ _ _⟩,msgOk_of (by simp only [List.mem_cons,List.not_mem_nil,or_false,forall_eq_or_imp,forall_eq]; exact ⟨r0,r1,r2,⟨by decide,by decide⟩,⟨by decide,by decide⟩,⟨by decide,by decide⟩,⟨by decide,by decide⟩,⟨by decide,by decide⟩,⟨by decide,by decide⟩,⟨by decide,by decide⟩⟩) ⟨Nat.zero_le _,fun x hx => by cases hx⟩ ⟨Nat.zero_le _,fun x hx => by cases hx⟩ zBat_ok zTab_ok zReq_ok zResp_ok,XZ.out.1,XZ.out.2.2.2.2⟩
 rw [HCS.out]
 rfl
theorem wread_k1 (p : Nat) (q : Bd.St) (w : World) (h : Rd w p q) (hl : q.1.length < 4294967281) (hw : ∀ W,Kp w p W → Lw W) (hk : vN q 0 = 1) :
  Calls Tryz.prog 59 #[.pointer (some ⟨p,0,none⟩)] w (ReadR w p (Wi.sMsg q)) := by
 have HW := hq' hw
 have HN : Hid (∀ k W,Rd W p (stN q k) → Lw W → Calls Tryz.prog 92 #[.pointer (some ⟨p,0,none⟩)] W (RdV (.int .i64 (vN q k)) W p (stN q (k + 1)))) := fun k W hr hL => int_any p (stN q k) W hr (by have := stN_len q k; omega) hL
 have I0 := hq' (HN.out 0)
 have r0 : Bd.inR (vN q 0) := sInt_inR _
 have I1 := hq' (HN.out 1)
 have r1 : Bd.inR (vN q 1) := sInt_inR _
 have I2 := hq' (HN.out 2)
 have r2 : Bd.inR (vN q 2) := sInt_inR _
 simp only [Nat.zero_add,Nat.reduceAdd] at I0 I1 I2
 have hlz := stN_len q 3
 have HTL := hq' (fun W (hR : Rd W p (stN q 3)) (hL : ∀ W',Kp W p W' → Lw W') => readReq_any p (stN q 3) W hR (by omega) hL)
 have hqok := sReq_ok (stN q 3) (by omega)
 have hh : ¬ 4 ≤ vN q 0 := by omega
 have HS : Hid (Wi.sMsg q = ((⟨vN q 0,vN q 1,vN q 2,0,0,0,0,0,0,[],0,[],Wi.zBatch,[],(Wi.sReq (stN q 3)).1.1,Wi.zResp⟩,(Wi.sReq (stN q 3)).1.2),(Wi.sReq (stN q 3)).2)) := by
  rw [Hid,Wi.sMsg,sHead_lo q hh]
  unfold Wi.sTail
  dsimp only
  rw [hk]
  rfl
 rw [hk] at I0 HS r0
 generalize hz : Wi.sReq (stN q 3) = zz at *
 clear hz
 obtain ⟨⟨⟨rc,rn,rk,rp,rs,ro,rm,rg,rgr,rme,rrs⟩,ok⟩,qz⟩ := zz
 clear HN hw
 try dsimp only at *
 unfold wreqC at HTL
 try dsimp only at HTL
 generalize vN q 1 = n1 at *
 generalize vN q 2 = n2 at *
 generalize stN q 3 = q3 at *
 generalize stN q 2 = q2 at *
 generalize stN q 1 = q1 at *
 have HSR := hq' HS.out
 obtain ⟨w0,hw0,X0⟩ := rx_new (q := stN q 0) h (zt0) 44
 have HW0 := hq' hw0
 clear hw0
 have hpl := h.lt
 generalize stN q 0 = q0 at *
 clear h
 go_enter Tryz.func59,Tryz.ntmps59
 go_upto_region 2 with (fail)
 rw [HW0.out]
 clear HW0
 generalize hx : w.heap.size = x at *
 have HX := hq' hx
 clear hx
 go_wp2_with fail
 refine (I0.out _ X0.out.1 (HW.out _ X0.out.2.2.2.2)).mono ?_
 rintro e u1 ⟨rfl,hr⟩
 have Y2 := hq' (X0.out.call hr)
 clear hr X0 I0
 go_wp2_with fail
 refine (I1.out _ Y2.out.1 (HW.out _ Y2.out.2.2.2.2)).mono ?_
 rintro e u3 ⟨rfl,hr⟩
 have Y4 := hq' (Y2.out.call hr)
 clear hr Y2 I1
 go_wp2_with fail
 refine (I2.out _ Y4.out.1 (HW.out _ Y4.out.2.2.2.2)).mono ?_
 rintro e u5 ⟨rfl,hr⟩
 have Y6 := hq' (Y4.out.call hr)
 clear hr Y4 I2
 have c0 := Y6.out.2.1.cell 0
 have f0 := Y6.out.2.1.free 0
 have c1 := Y6.out.2.1.cell 1
 have f1 := Y6.out.2.1.free 1
 have c2 := Y6.out.2.1.cell 2
 have f2 := Y6.out.2.1.free 2
 simp only [g0',gs'] at c0 c1 c2
 have Y7 : Hid (Rx w p x (((u5.setCell ⟨x,0,none⟩ (.int .i64 1)).setCell ⟨x,1,none⟩ (.int .i64 n1)).setCell ⟨x,2,none⟩ (.int .i64 n2)) q3 (.int .i64 1::.int .i64 n1::.int .i64 n2::zt3) 44) := (((Y6.out.store 0 (.int .i64 1)).store 1 (.int .i64 n1)).store 2 (.int .i64 n2))
 go_upto_region 3 with (fail)
 generalize (((u5.setCell ⟨x,0,none⟩ (.int .i64 1)).setCell ⟨x,1,none⟩ (.int .i64 n1)).setCell ⟨x,2,none⟩ (.int .i64 n2)) = u8 at *
 clear Y6 c0 f0 c1 f1 c2 f2
 have c0 := Y7.out.2.1.cell 0
 simp only [g0',gs'] at c0
 go_wp2_with fail
 refine (HTL.out _ Y7.out.1 (fun W' k => HW.out _ (Y7.out.2.2.2.2.trans k))).mono ?_
 rintro e ua ⟨v,rfl,ho0,hr,hk9⟩
 have XA := hq' (Y7.out.own hr hk9)
 have hxl := Y7.out.2.1.lt
 have hbs : x ≤ u8.heap.size := by have := Y7.out.2.2.2.2.size; have := HX.out; omega
 have O0 := hq' ho0
 obtain ⟨a0,cp0,he0⟩ := own_form ho0
 subst he0
 clear hr hk9 HTL Y7 c0 ho0
 have c19 := XA.out.2.1.cell 19
 have f19 := XA.out.2.1.free 19
 have c20 := XA.out.2.1.cell 20
 have f20 := XA.out.2.1.free 20
 have c21 := XA.out.2.1.cell 21
 have f21 := XA.out.2.1.free 21
 have c22 := XA.out.2.1.cell 22
 have f22 := XA.out.2.1.free 22
 have c23 := XA.out.2.1.cell 23
 have f23 := XA.out.2.1.free 23
 have c24 := XA.out.2.1.cell 24
 have f24 := XA.out.2.1.free 24
 have c25 := XA.out.2.1.cell 25
 have f25 := XA.out.2.1.free 25
 have c26 := XA.out.2.1.cell 26
 have f26 := XA.out.2.1.free 26
 have c27 := XA.out.2.1.cell 27
 have f27 := XA.out.2.1.free 27
 have c28 := XA.out.2.1.cell 28
 have f28 := XA.out.2.1.free 28
 have c29 := XA.out.2.1.cell 29
 have f29 := XA.out.2.1.free 29
 simp only [g0',gs'] at c19 c20 c21 c22 c23 c24 c25 c26 c27 c28 c29
 have Y9 : Hid (Rx w p x (((((((((((ua.setCell ⟨x,19,none⟩ (.int .i64 rc)).setCell ⟨x,20,none⟩ (.int .i64 rn)).setCell ⟨x,21,none⟩ (.int .i64 rk)).setCell ⟨x,22,none⟩ (.int .i64 rp)).setCell ⟨x,23,none⟩ (.int .i64 rs)).setCell ⟨x,24,none⟩ (.int .i64 ro)).setCell ⟨x,25,none⟩ (.int .i64 rm)).setCell ⟨x,26,none⟩ (.int .i64 rg)).setCell ⟨x,27,none⟩ (.string ⟨rgr.toArray⟩)).setCell ⟨x,28,none⟩ (.string ⟨rme.toArray⟩)).setCell ⟨x,29,none⟩ (.slice a0 rrs.length cp0)) qz (.int .i64 1::.int .i64 n1::.int .i64 n2::.int .i64 0::.int .i64 0::.int .i64 0::.int .i64 0::.int .i64 0::.int .i64 0::.slice none 0 0::.int .i64 0::.slice none 0 0::.int .i64 0::.int .i64 0::.int .i64 0::.int .i64 0::.int .i64 0::.slice none 0 0::.slice none 0 0::.int .i64 rc::.int .i64 rn::.int .i64 rk::.int .i64 rp::.int .i64 rs::.int .i64 ro::.int .i64 rm::.int .i64 rg::.string ⟨rgr.toArray⟩::.string ⟨rme.toArray⟩::.slice a0 rrs.length cp0::zt30) 44) := (((((((((((XA.out.store 19 (.int .i64 rc)).store 20 (.int .i64 rn)).store 21 (.int .i64 rk)).store 22 (.int .i64 rp)).store 23 (.int .i64 rs)).store 24 (.int .i64 ro)).store 25 (.int .i64 rm)).store 26 (.int .i64 rg)).store 27 (.string ⟨rgr.toArray⟩)).store 28 (.string ⟨rme.toArray⟩)).store 29 (.slice a0 rrs.length cp0))
 have KK : Hid (Keeps (fun j => j = x) ua (((((((((((ua.setCell ⟨x,19,none⟩ (.int .i64 rc)).setCell ⟨x,20,none⟩ (.int .i64 rn)).setCell ⟨x,21,none⟩ (.int .i64 rk)).setCell ⟨x,22,none⟩ (.int .i64 rp)).setCell ⟨x,23,none⟩ (.int .i64 rs)).setCell ⟨x,24,none⟩ (.int .i64 ro)).setCell ⟨x,25,none⟩ (.int .i64 rm)).setCell ⟨x,26,none⟩ (.int .i64 rg)).setCell ⟨x,27,none⟩ (.string ⟨rgr.toArray⟩)).setCell ⟨x,28,none⟩ (.string ⟨rme.toArray⟩)).setCell ⟨x,29,none⟩ (.slice a0 rrs.length cp0))) := ((((((((((((Keeps.refl (fun j => j = x) ua).trans (Keeps.setCell (fun j => j = x) _ ⟨x,19,none⟩ (.int .i64 rc) rfl)).trans (Keeps.setCell (fun j => j = x) _ ⟨x,20,none⟩ (.int .i64 rn) rfl)).trans (Keeps.setCell (fun j => j = x) _ ⟨x,21,none⟩ (.int .i64 rk) rfl)).trans (Keeps.setCell (fun j => j = x) _ ⟨x,22,none⟩ (.int .i64 rp) rfl)).trans (Keeps.setCell (fun j => j = x) _ ⟨x,23,none⟩ (.int .i64 rs) rfl)).trans (Keeps.setCell (fun j => j = x) _ ⟨x,24,none⟩ (.int .i64 ro) rfl)).trans (Keeps.setCell (fun j => j = x) _ ⟨x,25,none⟩ (.int .i64 rm) rfl)).trans (Keeps.setCell (fun j => j = x) _ ⟨x,26,none⟩ (.int .i64 rg) rfl)).trans (Keeps.setCell (fun j => j = x) _ ⟨x,27,none⟩ (.string ⟨rgr.toArray⟩) rfl)).trans (Keeps.setCell (fun j => j = x) _ ⟨x,28,none⟩ (.string ⟨rme.toArray⟩) rfl)).trans (Keeps.setCell (fun j => j = x) _ ⟨x,29,none⟩ (.slice a0 rrs.length cp0) rfl))
 go_upto_region 25 with (fail)
 generalize (((((((((((ua.setCell ⟨x,19,none⟩ (.int .i64 rc)).setCell ⟨x,20,none⟩ (.int .i64 rn)).setCell ⟨x,21,none⟩ (.int .i64 rk)).setCell ⟨x,22,none⟩ (.int .i64 rp)).setCell ⟨x,23,none⟩ (.int .i64 rs)).setCell ⟨x,24,none⟩ (.int .i64 ro)).setCell ⟨x,25,none⟩ (.int .i64 rm)).setCell ⟨x,26,none⟩ (.int .i64 rg)).setCell ⟨x,27,none⟩ (.string ⟨rgr.toArray⟩)).setCell ⟨x,28,none⟩ (.string ⟨rme.toArray⟩)).setCell ⟨x,29,none⟩ (.slice a0 rrs.length cp0)) = u10 at *
 clear XA c19 f19 c20 f20 c21 f21 c22 f22 c23 f23 c24 f24 c25 f25 c26 f26 c27 f27 c28 f28 c29 f29
 have O0 := hq' (ownsRow_keepsS O0.out KK.out (fun j hj e => by have := (O0.out.lt j hj).1; omega))
 clear KK
 obtain ⟨cs,hcs⟩ : ∃ cs : List Value,cs = (.int .i64 1::.int .i64 n1::.int .i64 n2::.int .i64 0::.int .i64 0::.int .i64 0::.int .i64 0::.int .i64 0::.int .i64 0::.slice none 0 0::.int .i64 0::.slice none 0 0::.int .i64 0::.int .i64 0::.int .i64 0::.int .i64 0::.int .i64 0::.slice none 0 0::.slice none 0 0::.int .i64 rc::.int .i64 rn::.int .i64 rk::.int .i64 rp::.int .i64 rs::.int .i64 ro::.int .i64 rm::.int .i64 rg::.string ⟨rgr.toArray⟩::.string ⟨rme.toArray⟩::.slice a0 rrs.length cp0::zt30) := ⟨_,rfl⟩
 have HI1 : Hid ((Tryz.prog.info? 44).map (·.size) = some cs.length) := by rw [Hid,hcs]; kernel_rfl
 have HI2 : Hid ((Tryz.prog.info? 44).map (·.size) = some (cs.toArray : Array Value).size) := by rw [Hid,hcs]; kernel_rfl
 have HONE : Hid ((cs.toArray : Array Value).all (·.oneCell') = true) := by rw [Hid,hcs]; simp [Value.oneCell']
 have HSZ : Hid ((cs.toArray : Array Value).size = (cs.toArray : Array Value).size) := rfl
 have HCS := hq' hcs
 rw [← hcs] at Y9
 clear hcs
 have RX := hq' Y9.out.2.1.range
 have CQ : Hid (u10.heap[x]? = some (.cells cs.toArray 44 (0,0))) := Y9.out.2.1
 have XZ := hq' (Y9.out.rowed cs.toArray)
 have KR : Hid (Keeps (fun i => i = x) u10 (u10.setRow x cs.toArray)) := Keeps.row _ _ _ rfl
 have O0 := hq' (ownsRow_weaken (ownsRow_keepsS O0.out KR.out (fun j hj e => by have := (O0.out.lt j hj).1; omega)) (by have := HX.out; omega : w.heap.size ≤ _))
 cases ok with
 | true =>
  go_wp2_with (first
    | (refine wpList_load_mid (by rfl) _ _ (by rfl) x 0 (by rfl) cs _ RX.out Tryz.underlying44 (by rfl) HI1.out ?_)
    | (refine wpList_store_row (by rfl) _ _ _ (by rfl) x cs.toArray (by rfl) (by rfl) 44 _ CQ.out HI2.out HSZ.out HONE.out ?_))
  refine bodyPost_ret (results_cl_tmp rfl _ _ _ _ _ _ rfl XZ.out.2.1 Tryz.underlying44 rfl HI1.out) rfl ?_
  rw [HSR.out]
  refine ⟨⟨.slice none 0 0,.slice none 0 0,.slice none 0 0,.slice none 0 0,.slice a0 rrs.length cp0,.slice none 0 0,.slice none 0 0⟩,?_,⟨own_nil _ _ _ _,own_nil _ _ _ _,own_nil _ _ _ _,tab_nil _ _,O0.out,own_nil _ _ _ _,own_nil _ _ _ _⟩,msgOk_of (by simp only [List.mem_cons,List.not_mem_nil,or_false,forall_eq_or_imp,forall_eq]; exact ⟨r0,r1,r2,⟨by decide,by decide⟩,⟨by decide,by decide⟩,⟨by decide,by decide⟩,⟨by decide,by decide⟩,⟨by decide,by decide⟩,⟨by decide,by decide⟩,⟨by decide,by decide⟩⟩) ⟨Nat.zero_le _,fun x hx => by cases hx⟩ ⟨Nat.zero_le _,fun x hx => by cases hx⟩ zBat_ok zTab_ok hqok zResp_ok,XZ.out.1,XZ.out.2.2.2.2⟩
  rw [HCS.out]
  rfl
 | false =>
  go_wp2_with (first
    | (refine wpList_load_mid (by rfl) _ _ (by rfl) x 0 (by rfl) cs _ RX.out Tryz.underlying44 (by rfl) HI1.out ?_)
    | (refine wpList_store_row (by rfl) _ _ _ (by rfl) x cs.toArray (by rfl) (by rfl) 44 _ CQ.out HI2.out HSZ.out HONE.out ?_))
  refine bodyPost_ret (results_cl_tmp rfl _ _ _ _ _ _ rfl XZ.out.2.1 Tryz.underlying44 rfl HI1.out) rfl ?_
  rw [HSR.out]
  refine ⟨⟨.slice none 0 0,.slice none 0 0,.slice none 0 0,.slice none 0 0,.slice a0 rrs.length cp0,.slice none 0 0,.slice none 0 0⟩,?_,⟨own_nil _ _ _ _,own_nil _ _ _ _,own_nil _ _ _ _,tab_nil _ _,O0.out,own_nil _ _ _ _,own_nil _ _ _ _⟩,msgOk_of (by simp only [List.mem_cons,List.not_mem_nil,or_false,forall_eq_or_imp,forall_eq]; exact ⟨r0,r1,r2,⟨by decide,by decide⟩,⟨by decide,by decide⟩,⟨by decide,by decide⟩,⟨by decide,by decide⟩,⟨by decide,by decide⟩,⟨by decide,by decide⟩,⟨by decide,by decide⟩⟩) ⟨Nat.zero_le _,fun x hx => by cases hx⟩ ⟨Nat.zero_le _,fun x hx => by cases hx⟩ zBat_ok zTab_ok hqok zResp_ok,XZ.out.1,XZ.out.2.2.2.2⟩
  rw [HCS.out]
  rfl
theorem wread_k2 (p : Nat) (q : Bd.St) (w : World) (h : Rd w p q) (hl : q.1.length < 4294967281) (hw : ∀ W,Kp w p W → Lw W) (hk : vN q 0 = 2) :
  Calls Tryz.prog 59 #[.pointer (some ⟨p,0,none⟩)] w (ReadR w p (Wi.sMsg q)) := by
 have HW := hq' hw
 have HN : Hid (∀ k W,Rd W p (stN q k) → Lw W → Calls Tryz.prog 92 #[.pointer (some ⟨p,0,none⟩)] W (RdV (.int .i64 (vN q k)) W p (stN q (k + 1)))) := fun k W hr hL => int_any p (stN q k) W hr (by have := stN_len q k; omega) hL
 have I0 := hq' (HN.out 0)
 have r0 : Bd.inR (vN q 0) := sInt_inR _
 have I1 := hq' (HN.out 1)
 have r1 : Bd.inR (vN q 1) := sInt_inR _
 have I2 := hq' (HN.out 2)
 have r2 : Bd.inR (vN q 2) := sInt_inR _
 simp only [Nat.zero_add,Nat.reduceAdd] at I0 I1 I2
 have hlz := stN_len q 3
 have HTL := hq' (fun W (hR : Rd W p (stN q 3)) (hL : ∀ W',Kp W p W' → Lw W') => readResp_any p (stN q 3) W hR (by omega) hL)
 have hqok := sResp_ok (stN q 3) (by omega)
 have hh : ¬ 4 ≤ vN q 0 := by omega
 have HS : Hid (Wi.sMsg q = ((⟨vN q 0,vN q 1,vN q 2,0,0,0,0,0,0,[],0,[],Wi.zBatch,[],Wi.zReq,(Wi.sResp (stN q 3)).1.1⟩,(Wi.sResp (stN q 3)).1.2),(Wi.sResp (stN q 3)).2)) := by
  rw [Hid,Wi.sMsg,sHead_lo q hh]
  unfold Wi.sTail
  dsimp only
  rw [hk]
  rfl
 rw [hk] at I0 HS r0
 generalize hz : Wi.sResp (stN q 3) = zz at *
 clear hz
 obtain ⟨⟨⟨rc,rn,rk,ro,rh,rg,rpt,rrs⟩,ok⟩,qz⟩ := zz
 clear HN hw
 try dsimp only at *
 unfold wrespC at HTL
 try dsimp only at HTL
 generalize vN q 1 = n1 at *
 generalize vN q 2 = n2 at *
 generalize stN q 3 = q3 at *
 generalize stN q 2 = q2 at *
 generalize stN q 1 = q1 at *
 have HSR := hq' HS.out
 obtain ⟨w0,hw0,X0⟩ := rx_new (q := stN q 0) h (zt0) 44
 have HW0 := hq' hw0
 clear hw0
 have hpl := h.lt
 generalize stN q 0 = q0 at *
 clear h
 go_enter Tryz.func59,Tryz.ntmps59
 go_upto_region 2 with (fail)
 rw [HW0.out]
 clear HW0
 generalize hx : w.heap.size = x at *
 have HX := hq' hx
 clear hx
 go_wp2_with fail
 refine (I0.out _ X0.out.1 (HW.out _ X0.out.2.2.2.2)).mono ?_
 rintro e u1 ⟨rfl,hr⟩
 have Y2 := hq' (X0.out.call hr)
 clear hr X0 I0
 go_wp2_with fail
 refine (I1.out _ Y2.out.1 (HW.out _ Y2.out.2.2.2.2)).mono ?_
 rintro e u3 ⟨rfl,hr⟩
 have Y4 := hq' (Y2.out.call hr)
 clear hr Y2 I1
 go_wp2_with fail
 refine (I2.out _ Y4.out.1 (HW.out _ Y4.out.2.2.2.2)).mono ?_
 rintro e u5 ⟨rfl,hr⟩
 have Y6 := hq' (Y4.out.call hr)
 clear hr Y4 I2
 have c0 := Y6.out.2.1.cell 0
 have f0 := Y6.out.2.1.free 0
 have c1 := Y6.out.2.1.cell 1
 have f1 := Y6.out.2.1.free 1
 have c2 := Y6.out.2.1.cell 2
 have f2 := Y6.out.2.1.free 2
 simp only [g0',gs'] at c0 c1 c2
 have Y7 : Hid (Rx w p x (((u5.setCell ⟨x,0,none⟩ (.int .i64 2)).setCell ⟨x,1,none⟩ (.int .i64 n1)).setCell ⟨x,2,none⟩ (.int .i64 n2)) q3 (.int .i64 2::.int .i64 n1::.int .i64 n2::zt3) 44) := (((Y6.out.store 0 (.int .i64 2)).store 1 (.int .i64 n1)).store 2 (.int .i64 n2))
 go_upto_region 3 with (fail)
 generalize (((u5.setCell ⟨x,0,none⟩ (.int .i64 2)).setCell ⟨x,1,none⟩ (.int .i64 n1)).setCell ⟨x,2,none⟩ (.int .i64 n2)) = u8 at *
 clear Y6 c0 f0 c1 f1 c2 f2
 have c0 := Y7.out.2.1.cell 0
 simp only [g0',gs'] at c0
 go_wp2_with fail
 refine (HTL.out _ Y7.out.1 (fun W' k => HW.out _ (Y7.out.2.2.2.2.trans k))).mono ?_
 rintro e ua ⟨pv,v,rfl,ho0,ho1,hr,hk9⟩
 have XA := hq' (Y7.out.own hr hk9)
 have hxl := Y7.out.2.1.lt
 have hbs : x ≤ u8.heap.size := by have := Y7.out.2.2.2.2.size; have := HX.out; omega
 have O0 := hq' ho0
 obtain ⟨a0,cp0,he0⟩ := own_form ho0
 subst he0
 have O1 := hq' ho1
 obtain ⟨a1,cp1,he1⟩ := own_form ho1
 subst he1
 clear hr hk9 HTL Y7 c0 ho0 ho1
 have c30 := XA.out.2.1.cell 30
 have f30 := XA.out.2.1.free 30
 have c31 := XA.out.2.1.cell 31
 have f31 := XA.out.2.1.free 31
 have c32 := XA.out.2.1.cell 32
 have f32 := XA.out.2.1.free 32
 have c33 := XA.out.2.1.cell 33
 have f33 := XA.out.2.1.free 33
 have c34 := XA.out.2.1.cell 34
 have f34 := XA.out.2.1.free 34
 have c35 := XA.out.2.1.cell 35
 have f35 := XA.out.2.1.free 35
 have c36 := XA.out.2.1.cell 36
 have f36 := XA.out.2.1.free 36
 have c37 := XA.out.2.1.cell 37
 have f37 := XA.out.2.1.free 37
 simp only [g0',gs'] at c30 c31 c32 c33 c34 c35 c36 c37
 have Y9 : Hid (Rx w p x ((((((((ua.setCell ⟨x,30,none⟩ (.int .i64 rc)).setCell ⟨x,31,none⟩ (.int .i64 rn)).setCell ⟨x,32,none⟩ (.int .i64 rk)).setCell ⟨x,33,none⟩ (.int .i64 ro)).setCell ⟨x,34,none⟩ (.int .i64 rh)).setCell ⟨x,35,none⟩ (.int .i64 rg)).setCell ⟨x,36,none⟩ (.slice a0 rpt.length cp0)).setCell ⟨x,37,none⟩ (.slice a1 rrs.length cp1)) qz (.int .i64 2::.int .i64 n1::.int .i64 n2::.int .i64 0::.int .i64 0::.int .i64 0::.int .i64 0::.int .i64 0::.int .i64 0::.slice none 0 0::.int .i64 0::.slice none 0 0::.int .i64 0::.int .i64 0::.int .i64 0::.int .i64 0::.int .i64 0::.slice none 0 0::.slice none 0 0::.int .i64 0::.int .i64 0::.int .i64 0::.int .i64 0::.int .i64 0::.int .i64 0::.int .i64 0::.int .i64 0::.string ⟨#[]⟩::.string ⟨#[]⟩::.slice none 0 0::.int .i64 rc::.int .i64 rn::.int .i64 rk::.int .i64 ro::.int .i64 rh::.int .i64 rg::.slice a0 rpt.length cp0::.slice a1 rrs.length cp1::[]) 44) := ((((((((XA.out.store 30 (.int .i64 rc)).store 31 (.int .i64 rn)).store 32 (.int .i64 rk)).store 33 (.int .i64 ro)).store 34 (.int .i64 rh)).store 35 (.int .i64 rg)).store 36 (.slice a0 rpt.length cp0)).store 37 (.slice a1 rrs.length cp1))
 have KK : Hid (Keeps (fun j => j = x) ua ((((((((ua.setCell ⟨x,30,none⟩ (.int .i64 rc)).setCell ⟨x,31,none⟩ (.int .i64 rn)).setCell ⟨x,32,none⟩ (.int .i64 rk)).setCell ⟨x,33,none⟩ (.int .i64 ro)).setCell ⟨x,34,none⟩ (.int .i64 rh)).setCell ⟨x,35,none⟩ (.int .i64 rg)).setCell ⟨x,36,none⟩ (.slice a0 rpt.length cp0)).setCell ⟨x,37,none⟩ (.slice a1 rrs.length cp1))) := (((((((((Keeps.refl (fun j => j = x) ua).trans (Keeps.setCell (fun j => j = x) _ ⟨x,30,none⟩ (.int .i64 rc) rfl)).trans (Keeps.setCell (fun j => j = x) _ ⟨x,31,none⟩ (.int .i64 rn) rfl)).trans (Keeps.setCell (fun j => j = x) _ ⟨x,32,none⟩ (.int .i64 rk) rfl)).trans (Keeps.setCell (fun j => j = x) _ ⟨x,33,none⟩ (.int .i64 ro) rfl)).trans (Keeps.setCell (fun j => j = x) _ ⟨x,34,none⟩ (.int .i64 rh) rfl)).trans (Keeps.setCell (fun j => j = x) _ ⟨x,35,none⟩ (.int .i64 rg) rfl)).trans (Keeps.setCell (fun j => j = x) _ ⟨x,36,none⟩ (.slice a0 rpt.length cp0) rfl)).trans (Keeps.setCell (fun j => j = x) _ ⟨x,37,none⟩ (.slice a1 rrs.length cp1) rfl))
 go_upto_region 25 with (fail)
 generalize ((((((((ua.setCell ⟨x,30,none⟩ (.int .i64 rc)).setCell ⟨x,31,none⟩ (.int .i64 rn)).setCell ⟨x,32,none⟩ (.int .i64 rk)).setCell ⟨x,33,none⟩ (.int .i64 ro)).setCell ⟨x,34,none⟩ (.int .i64 rh)).setCell ⟨x,35,none⟩ (.int .i64 rg)).setCell ⟨x,36,none⟩ (.slice a0 rpt.length cp0)).setCell ⟨x,37,none⟩ (.slice a1 rrs.length cp1)) = u10 at *
 clear XA c30 f30 c31 f31 c32 f32 c33 f33 c34 f34 c35 f35 c36 f36 c37 f37
 have O0 := hq' (ownsRow_keepsS O0.out KK.out (fun j hj e => by have := (O0.out.lt j hj).1; omega))
 have O1 := hq' (ownsRow_keepsS O1.out KK.out (fun j hj e => by have := (O1.out.lt j hj).1; omega))
 clear KK
 obtain ⟨cs,hcs⟩ : ∃ cs : List Value,cs = (.int .i64 2::.int .i64 n1::.int .i64 n2::.int .i64 0::.int .i64 0::.int .i64 0::.int .i64 0::.int .i64 0::.int .i64 0::.slice none 0 0::.int .i64 0::.slice none 0 0::.int .i64 0::.int .i64 0::.int .i64 0::.int .i64 0::.int .i64 0::.slice none 0 0::.slice none 0 0::.int .i64 0::.int .i64 0::.int .i64 0::.int .i64 0::.int .i64 0::.int .i64 0::.int .i64 0::.int .i64 0::.string ⟨#[]⟩::.string ⟨#[]⟩::.slice none 0 0::.int .i64 rc::.int .i64 rn::.int .i64 rk::.int .i64 ro::.int .i64 rh::.int .i64 rg::.slice a0 rpt.length cp0::.slice a1 rrs.length cp1::[]) := ⟨_,rfl⟩
 have HI1 : Hid ((Tryz.prog.info? 44).map (·.size) = some cs.length) := by rw [Hid,hcs]; kernel_rfl
 have HI2 : Hid ((Tryz.prog.info? 44).map (·.size) = some (cs.toArray : Array Value).size) := by rw [Hid,hcs]; kernel_rfl
 have HONE : Hid ((cs.toArray : Array Value).all (·.oneCell') = true) := by rw [Hid,hcs]; simp [Value.oneCell']
 have HSZ : Hid ((cs.toArray : Array Value).size = (cs.toArray : Array Value).size) := rfl
 have HCS := hq' hcs
 rw [← hcs] at Y9
 clear hcs
 have RX := hq' Y9.out.2.1.range
 have CQ : Hid (u10.heap[x]? = some (.cells cs.toArray 44 (0,0))) := Y9.out.2.1
 have XZ := hq' (Y9.out.rowed cs.toArray)
 have KR : Hid (Keeps (fun i => i = x) u10 (u10.setRow x cs.toArray)) := Keeps.row _ _ _ rfl
 have O0 := hq' (ownsRow_weaken (ownsRow_keepsS O0.out KR.out (fun j hj e => by have := (O0.out.lt j hj).1; omega)) (by have := HX.out; omega : w.heap.size ≤ _))
 have O1 := hq' (ownsRow_weaken (ownsRow_keepsS O1.out KR.out (fun j hj e => by have := (O1.out.lt j hj).1; omega)) (by have := HX.out; omega : w.heap.size ≤ _))
 cases ok with
 | true =>
  go_wp2_with (first
    | (refine wpList_load_mid (by rfl) _ _ (by rfl) x 0 (by rfl) cs _ RX.out Tryz.underlying44 (by rfl) HI1.out ?_)
    | (refine wpList_store_row (by rfl) _ _ _ (by rfl) x cs.toArray (by rfl) (by rfl) 44 _ CQ.out HI2.out HSZ.out HONE.out ?_))
  refine bodyPost_ret (results_cl_tmp rfl _ _ _ _ _ _ rfl XZ.out.2.1 Tryz.underlying44 rfl HI1.out) rfl ?_
  rw [HSR.out]
  refine ⟨⟨.slice none 0 0,.slice none 0 0,.slice none 0 0,.slice none 0 0,.slice none 0 0,.slice a0 rpt.length cp0,.slice a1 rrs.length cp1⟩,?_,⟨own_nil _ _ _ _,own_nil _ _ _ _,own_nil _ _ _ _,tab_nil _ _,own_nil _ _ _ _,O0.out,O1.out⟩,msgOk_of (by simp only [List.mem_cons,List.not_mem_nil,or_false,forall_eq_or_imp,forall_eq]; exact ⟨r0,r1,r2,⟨by decide,by decide⟩,⟨by decide,by decide⟩,⟨by decide,by decide⟩,⟨by decide,by decide⟩,⟨by decide,by decide⟩,⟨by decide,by decide⟩,⟨by decide,by decide⟩⟩) ⟨Nat.zero_le _,fun x hx => by cases hx⟩ ⟨Nat.zero_le _,fun x hx => by cases hx⟩ zBat_ok zTab_ok zReq_ok hqok,XZ.out.1,XZ.out.2.2.2.2⟩
  rw [HCS.out]
  rfl
 | false =>
  go_wp2_with (first
    | (refine wpList_load_mid (by rfl) _ _ (by rfl) x 0 (by rfl) cs _ RX.out Tryz.underlying44 (by rfl) HI1.out ?_)
    | (refine wpList_store_row (by rfl) _ _ _ (by rfl) x cs.toArray (by rfl) (by rfl) 44 _ CQ.out HI2.out HSZ.out HONE.out ?_))
  refine bodyPost_ret (results_cl_tmp rfl _ _ _ _ _ _ rfl XZ.out.2.1 Tryz.underlying44 rfl HI1.out) rfl ?_
  rw [HSR.out]
  refine ⟨⟨.slice none 0 0,.slice none 0 0,.slice none 0 0,.slice none 0 0,.slice none 0 0,.slice a0 rpt.length cp0,.slice a1 rrs.length cp1⟩,?_,⟨own_nil _ _ _ _,own_nil _ _ _ _,own_nil _ _ _ _,tab_nil _ _,own_nil _ _ _ _,O0.out,O1.out⟩,msgOk_of (by simp only [List.mem_cons,List.not_mem_nil,or_false,forall_eq_or_imp,forall_eq]; exact ⟨r0,r1,r2,⟨by decide,by decide⟩,⟨by decide,by decide⟩,⟨by decide,by decide⟩,⟨by decide,by decide⟩,⟨by decide,by decide⟩,⟨by decide,by decide⟩,⟨by decide,by decide⟩⟩) ⟨Nat.zero_le _,fun x hx => by cases hx⟩ ⟨Nat.zero_le _,fun x hx => by cases hx⟩ zBat_ok zTab_ok zReq_ok hqok,XZ.out.1,XZ.out.2.2.2.2⟩
  rw [HCS.out]
  rfl
theorem wread_k3 (p : Nat) (q : Bd.St) (w : World) (h : Rd w p q) (hl : q.1.length < 4294967281) (hw : ∀ W,Kp w p W → Lw W) (hk : vN q 0 = 3) :
  Calls Tryz.prog 59 #[.pointer (some ⟨p,0,none⟩)] w (ReadR w p (Wi.sMsg q)) := by
 have HW := hq' hw
 have HN : Hid (∀ k W,Rd W p (stN q k) → Lw W → Calls Tryz.prog 92 #[.pointer (some ⟨p,0,none⟩)] W (RdV (.int .i64 (vN q k)) W p (stN q (k + 1)))) := fun k W hr hL => int_any p (stN q k) W hr (by have := stN_len q k; omega) hL
 have I0 := hq' (HN.out 0)
 have r0 : Bd.inR (vN q 0) := sInt_inR _
 have I1 := hq' (HN.out 1)
 have r1 : Bd.inR (vN q 1) := sInt_inR _
 have I2 := hq' (HN.out 2)
 have r2 : Bd.inR (vN q 2) := sInt_inR _
 have I3 := hq' (HN.out 3)
 have r3 : Bd.inR (vN q 3) := sInt_inR _
 simp only [Nat.zero_add,Nat.reduceAdd] at I0 I1 I2 I3
 have hh : ¬ 4 ≤ vN q 0 := by omega
 have HS : Hid (Wi.sMsg q = ((⟨vN q 0,vN q 1,vN q 2,0,0,0,0,vN q 3,0,[],0,[],Wi.zBatch,[],Wi.zReq,Wi.zResp⟩,true),stN q 4)) := by
  rw [Hid,Wi.sMsg,sHead_lo q hh]
  unfold Wi.sTail
  dsimp only
  rw [hk]
  rfl
 rw [hk] at I0 HS r0
 clear HN hw
 try dsimp only at *
 generalize vN q 1 = n1 at *
 generalize vN q 2 = n2 at *
 generalize vN q 3 = n3 at *
 generalize stN q 4 = q4 at *
 generalize stN q 3 = q3 at *
 generalize stN q 2 = q2 at *
 generalize stN q 1 = q1 at *
 have HSR := hq' HS.out
 obtain ⟨w0,hw0,X0⟩ := rx_new (q := stN q 0) h (zt0) 44
 have HW0 := hq' hw0
 clear hw0
 have hpl := h.lt
 generalize stN q 0 = q0 at *
 clear h
 go_enter Tryz.func59,Tryz.ntmps59
 go_upto_region 2 with (fail)
 rw [HW0.out]
 clear HW0
 generalize hx : w.heap.size = x at *
 have HX := hq' hx
 clear hx
 go_wp2_with fail
 refine (I0.out _ X0.out.1 (HW.out _ X0.out.2.2.2.2)).mono ?_
 rintro e u1 ⟨rfl,hr⟩
 have Y2 := hq' (X0.out.call hr)
 clear hr X0 I0
 go_wp2_with fail
 refine (I1.out _ Y2.out.1 (HW.out _ Y2.out.2.2.2.2)).mono ?_
 rintro e u3 ⟨rfl,hr⟩
 have Y4 := hq' (Y2.out.call hr)
 clear hr Y2 I1
 go_wp2_with fail
 refine (I2.out _ Y4.out.1 (HW.out _ Y4.out.2.2.2.2)).mono ?_
 rintro e u5 ⟨rfl,hr⟩
 have Y6 := hq' (Y4.out.call hr)
 clear hr Y4 I2
 have c0 := Y6.out.2.1.cell 0
 have f0 := Y6.out.2.1.free 0
 have c1 := Y6.out.2.1.cell 1
 have f1 := Y6.out.2.1.free 1
 have c2 := Y6.out.2.1.cell 2
 have f2 := Y6.out.2.1.free 2
 simp only [g0',gs'] at c0 c1 c2
 have Y7 : Hid (Rx w p x (((u5.setCell ⟨x,0,none⟩ (.int .i64 3)).setCell ⟨x,1,none⟩ (.int .i64 n1)).setCell ⟨x,2,none⟩ (.int .i64 n2)) q3 (.int .i64 3::.int .i64 n1::.int .i64 n2::zt3) 44) := (((Y6.out.store 0 (.int .i64 3)).store 1 (.int .i64 n1)).store 2 (.int .i64 n2))
 go_upto_region 3 with (fail)
 generalize (((u5.setCell ⟨x,0,none⟩ (.int .i64 3)).setCell ⟨x,1,none⟩ (.int .i64 n1)).setCell ⟨x,2,none⟩ (.int .i64 n2)) = u8 at *
 clear Y6 c0 f0 c1 f1 c2 f2
 have c0 := Y7.out.2.1.cell 0
 simp only [g0',gs'] at c0
 go_wp2_with fail
 refine (I3.out _ Y7.out.1 (HW.out _ Y7.out.2.2.2.2)).mono ?_
 rintro e u9 ⟨rfl,hr⟩
 have Y10 := hq' (Y7.out.call hr)
 clear hr Y7 I3
 clear c0
 have c7 := Y10.out.2.1.cell 7
 have f7 := Y10.out.2.1.free 7
 simp only [g0',gs'] at c7
 have Y11 : Hid (Rx w p x (u9.setCell ⟨x,7,none⟩ (.int .i64 n3)) q4 (.int .i64 3::.int .i64 n1::.int .i64 n2::.int .i64 0::.int .i64 0::.int .i64 0::.int .i64 0::.int .i64 n3::zt8) 44) := (Y10.out.store 7 (.int .i64 n3))
 go_upto_region 25 with (fail)
 generalize (u9.setCell ⟨x,7,none⟩ (.int .i64 n3)) = u12 at *
 clear Y10 c7 f7
 obtain ⟨cs,hcs⟩ : ∃ cs : List Value,cs = (.int .i64 3::.int .i64 n1::.int .i64 n2::.int .i64 0::.int .i64 0::.int .i64 0::.int .i64 0::.int .i64 n3::zt8) := ⟨_,rfl⟩
 have HI1 : Hid ((Tryz.prog.info? 44).map (·.size) = some cs.length) := by rw [Hid,hcs]; kernel_rfl
 have HI2 : Hid ((Tryz.prog.info? 44).map (·.size) = some (cs.toArray : Array Value).size) := by rw [Hid,hcs]; kernel_rfl
 have HONE : Hid ((cs.toArray : Array Value).all (·.oneCell') = true) := by rw [Hid,hcs]; simp [Value.oneCell']
 have HSZ : Hid ((cs.toArray : Array Value).size = (cs.toArray : Array Value).size) := rfl
 have HCS := hq' hcs
 rw [← hcs] at Y11
 clear hcs
 have RX := hq' Y11.out.2.1.range
 have CQ : Hid (u12.heap[x]? = some (.cells cs.toArray 44 (0,0))) := Y11.out.2.1
 have XZ := hq' (Y11.out.rowed cs.toArray)
 have KR : Hid (Keeps (fun i => i = x) u12 (u12.setRow x cs.toArray)) := Keeps.row _ _ _ rfl
 go_wp2_with (first
   | (refine wpList_load_mid (by rfl) _ _ (by rfl) x 0 (by rfl) cs _ RX.out Tryz.underlying44 (by rfl) HI1.out ?_)
   | (refine wpList_store_row (by rfl) _ _ _ (by rfl) x cs.toArray (by rfl) (by rfl) 44 _ CQ.out HI2.out HSZ.out HONE.out ?_))
 refine bodyPost_ret (results_cl_tmp rfl _ _ _ _ _ _ rfl XZ.out.2.1 Tryz.underlying44 rfl HI1.out) rfl ?_
 rw [HSR.out]
 refine ⟨⟨.slice none 0 0,.slice none 0 0,.slice none 0 0,.slice none 0 0,.slice none 0 0,.slice none 0 0,.slice none 0 0⟩,?_,⟨own_nil _ _ _ _,own_nil _ _ _ _,own_nil _ _ _ _,tab_nil _ _,own_nil _ _ _ _,own_nil _ _ _ _,own_nil _ _ _ _⟩,msgOk_of (by simp only [List.mem_cons,List.not_mem_nil,or_false,forall_eq_or_imp,forall_eq]; exact ⟨r0,r1,r2,⟨by decide,by decide⟩,⟨by decide,by decide⟩,⟨by decide,by decide⟩,⟨by decide,by decide⟩,r3,⟨by decide,by decide⟩,⟨by decide,by decide⟩⟩) ⟨Nat.zero_le _,fun x hx => by cases hx⟩ ⟨Nat.zero_le _,fun x hx => by cases hx⟩ zBat_ok zTab_ok zReq_ok zResp_ok,XZ.out.1,XZ.out.2.2.2.2⟩
 rw [HCS.out]
 rfl
end Go.Proofs.YtbljbdjmgogknaaGreatDoor
