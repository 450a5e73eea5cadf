/-
  Wo: texts of one proof, one behind the other.
  Conditions: none of its own.
-/
import Derived.Test.YtbljbdjmgogknaaGreatDoorZag
set_option linter.unusedVariables false
set_option linter.unusedSimpArgs false
set_option maxHeartbeats 12800000
set_option maxRecDepth 20000
namespace Go.Proofs.YtbljbdjmgogknaaGreatDoor
open Go.RowKit
theorem only_any (m : Wi.Msg) (v : MsgV) (w : World) (h : MsgAt w m v) (hk : 1 ≤ m.kind ∧ m.kind ≤ 9) :
  Calls Tryz.prog 71 #[msgV m v] w fun e w' => e = .returned (msgV (Wi.only m) (onlyV m v)) ∧ Below w.heap.size w w' := by
 obtain ⟨s0,c0,s1,c1,s2,c2,s3,c3,s4,c4,s5,c5,s6,c6,rfl⟩ := h.slices
 obtain ⟨x_kind,x_frm,x_to,x_part,x_ep,x_off,x_high,x_life,x_pep,x_chain,x_learner,x_lives,x_batch,x_table,x_req,x_resp⟩ := m
 dsimp only at *
 clear h
 obtain ⟨pe,hpe⟩ : ∃ pe : Int,pe = if 4 ≤ x_kind then x_part else 0 := ⟨_,rfl⟩
 obtain ⟨pf,hpf⟩ : ∃ pf : Int,pf = if 4 ≤ x_kind then x_ep else 0 := ⟨_,rfl⟩
 have HPE := hq' hpe
 have HPF := hq' hpf
 have HKD := hq' hk
 clear hpe hpf hk
 obtain ⟨L,hL⟩ : ∃ L,L = msgC (Wi.only ⟨x_kind,x_frm,x_to,x_part,x_ep,x_off,x_high,x_life,x_pep,x_chain,x_learner,x_lives,x_batch,x_table,x_req,x_resp⟩) (onlyV ⟨x_kind,x_frm,x_to,x_part,x_ep,x_off,x_high,x_life,x_pep,x_chain,x_learner,x_lives,x_batch,x_table,x_req,x_resp⟩ ⟨.slice s0 x_chain.length c0,.slice s1 x_lives.length c1,.slice s2 x_batch.recs.length c2,.slice s3 x_table.length c3,.slice s4 x_req.recs.length c4,.slice s5 x_resp.parts.length c5,.slice s6 x_resp.recs.length c6⟩) := ⟨_,rfl⟩
 have HLV : Hid (msgV (Wi.only ⟨x_kind,x_frm,x_to,x_part,x_ep,x_off,x_high,x_life,x_pep,x_chain,x_learner,x_lives,x_batch,x_table,x_req,x_resp⟩) (onlyV ⟨x_kind,x_frm,x_to,x_part,x_ep,x_off,x_high,x_life,x_pep,x_chain,x_learner,x_lives,x_batch,x_table,x_req,x_resp⟩ ⟨.slice s0 x_chain.length c0,.slice s1 x_lives.length c1,.slice s2 x_batch.recs.length c2,.slice s3 x_table.length c3,.slice s4 x_req.recs.length c4,.slice s5 x_resp.parts.length c5,.slice s6 x_resp.recs.length c6⟩) = .agg L.toArray) := by rw [Hid,hL,msgV]
 rw [HLV.out]
 have HL0 := hq' hL
 have HL38 := msg38 hL
 have HL39 := msg39 hL
 have HLON : Hid ((L.toArray : Array Value).all (·.oneCell') = true) := by rw [Hid,hL]; simp only [msgC,wreqC,wrespC,onlyV,List.all_toArray,List.all_cons,List.all_append,List.all_nil,apply_ite Value.oneCell',List.cons_append,List.nil_append]; simp [Value.oneCell']
 have HLSZ := msgSz hL
 clear hL HLV
 unfold msgV msgC
 dsimp only
 go_enter Tryz.func71,Tryz.ntmps71
 obtain ⟨w1,hw1,CA,CR,B1⟩ := twoBox (w := w) (.int .i64 x_kind::.int .i64 x_frm::.int .i64 x_to::xt x_part x_ep x_off x_high x_life x_pep x_chain x_learner x_lives x_batch x_table x_req x_resp s0 c0 s1 c1 s2 c2 s3 c3 s4 c4 s5 c5 s6 c6) (zt0) 44
 go_upto_region 1 with (fail)
 first | rw [hw1] | skip
 clear hw1
 have hs1 : w.heap.size + 2 ≤ w1.heap.size := by have := CR.out.lt; omega
 have hsw : w.heap.size + 1 ≠ w1.heap.size := by omega
 have hsw2 : w.heap.size ≤ w1.heap.size := by omega
 obtain ⟨pr,hpr⟩ : ∃ pr,pr = w.heap.size + 1 := ⟨_,rfl⟩
 rw [← hpr] at CR hsw ⊢
 obtain ⟨pa,hpa⟩ : ∃ pa,pa = w.heap.size := ⟨_,rfl⟩
 rw [← hpa] at CA
 first | rw [← hpa] | skip
 have HPA := hq' hpa
 have hprw : w.heap.size ≤ pr := by omega
 clear hpr hs1 hpa
 have a0 := CA.out.cell 0
 have a1 := CA.out.cell 1
 have a2 := CA.out.cell 2
 simp only [g0',gs'] at a0 a1 a2
 have HZC : Hid ((w1.alloc (.cells (zt0).toArray 44)).heap[w1.heap.size]? = some (.cells (zt0).toArray 44 (0,0))) := Cl.new w1 (zt0) _
 have CO : Hid (Cl ((w1.alloc (.cells (zt0).toArray 44)).setRow w1.heap.size (.int .i64 x_kind::.int .i64 x_frm::.int .i64 x_to::zt3).toArray) w1.heap.size (.int .i64 x_kind::.int .i64 x_frm::.int .i64 x_to::zt3) 44) := Cl.row (Cl.new w1 (zt0) _) _
 have b2 : Hid (Below w1.heap.size w1 ((w1.alloc (.cells (zt0).toArray 44)).setRow w1.heap.size (.int .i64 x_kind::.int .i64 x_frm::.int .i64 x_to::zt3).toArray)) := ((Below.refl _ _).alloc (Nat.le_refl _) _).trans ((Keeps.row (S := fun j => j = w1.heap.size) _ w1.heap.size _ rfl).toBelow (by simp) (fun k hk e => by omega))
 have HI38 := hq' (show (Tryz.prog.info? 44).map (·.size) = some ((.int .i64 x_kind::.int .i64 x_frm::.int .i64 x_to::zt3).toArray : Array Value).size by kernel_rfl)
 have HONE : Hid (((.int .i64 x_kind::.int .i64 x_frm::.int .i64 x_to::zt3).toArray : Array Value).all (·.oneCell') = true) := by simp [Hid,Value.oneCell']
 have HSZ : Hid (((zt0).toArray : Array Value).size = ((.int .i64 x_kind::.int .i64 x_frm::.int .i64 x_to::zt3).toArray : Array Value).size) := rfl
 go_upto_region 2 with (refine wpList_store_row (by rfl) _ _ _ (by rfl) w1.heap.size (.int .i64 x_kind::.int .i64 x_frm::.int .i64 x_to::zt3).toArray (by rfl) (by rfl) 44 _ HZC.out HI38.out HSZ.out HONE.out ?_)
 generalize (w1.alloc (.cells (zt0).toArray 44)).setRow w1.heap.size (.int .i64 x_kind::.int .i64 x_frm::.int .i64 x_to::zt3).toArray = w2 at *
 clear HZC HI38 HONE HSZ a0 a1 a2
 have hpo : ¬ pr = w1.heap.size := hsw
 have hpo2 : ¬ pa = w1.heap.size := by have := CA.out.lt; omega
 have CA2 := hq' (CA.out.below b2.out)
 have CR2 := hq' (CR.out.below b2.out)
 have B2 := hq' (bt B1.out b2.out)
 generalize w1.heap.size = po at *
 clear CA CR B1 b2 hsw
 have a0 := CA2.out.cell 0
 simp only [g0',gs'] at a0
 go_upto_if 13 with (fail)
 go_cut [] (fun wz => Cl wz po (.int .i64 x_kind::.int .i64 x_frm::.int .i64 x_to::.int .i64 pe::.int .i64 pf::zt5) 44 ∧ Keeps (fun j => j = po) w2 wz)
 case first =>
  by_cases h4 : 4 ≤ x_kind
  ·have hpe : pe = x_part := by rw [HPE.out,if_pos h4]
   have hpf : pf = x_ep := by rw [HPF.out,if_pos h4]
   have h4b : ¬ x_kind < 4 := by omega
   have h4c : decide (4 ≤ x_kind) = true := decide_eq_true h4
   have a3 := CA2.out.cell 3
   have a4 := CA2.out.cell 4
   have o3 := CO.out.cell 3
   have o4 := CO.out.cell 4
   have f3 := CO.out.free 3
   have f4 := CO.out.free 4
   simp only [g0',gs'] at a3 a4 o3 o4
   have C9 : Hid (Cl ((w2.setCell ⟨po,3,none⟩ (.int .i64 x_part)).setCell ⟨po,4,none⟩ (.int .i64 x_ep)).drew po (.int .i64 x_kind::.int .i64 x_frm::.int .i64 x_to::.int .i64 x_part::.int .i64 x_ep::zt5) 44) := Cl.drewN (Cl.set (Cl.set CO.out 3 (.int .i64 x_part)) 4 (.int .i64 x_ep)) 1
   have K9 : Hid (Keeps (fun j => j = po) w2 ((w2.setCell ⟨po,3,none⟩ (.int .i64 x_part)).setCell ⟨po,4,none⟩ (.int .i64 x_ep)).drew) := (((Keeps.refl (fun j => j = po) w2).trans (Keeps.setCell (fun j => j = po) _ ⟨po,3,none⟩ (.int .i64 x_part) rfl)).trans (Keeps.setCell (fun j => j = po) _ ⟨po,4,none⟩ (.int .i64 x_ep) rfl)).trans (Keeps.drew _ _)
   go_wp2
   go_region
   go_wp2
   go_meet
   case rel => exact ⟨by rw [hpe,hpf]; exact C9.out,K9.out⟩
  ·have hpe : pe = 0 := by rw [HPE.out,if_neg h4]
   have hpf : pf = 0 := by rw [HPF.out,if_neg h4]
   have h4b : x_kind < 4 := by omega
   have h4c : decide (4 ≤ x_kind) = false := decide_eq_false h4
   have K9 := Keeps.refl (fun j => j = po) w2
   go_wp2
   go_meet
   case rel => exact ⟨by rw [hpe,hpf]; exact CO.out,K9⟩
 case rest =>
  obtain ⟨hC3,hK3⟩ := hcut
  generalize wc = w3 at *
  have CO3 := hq' hC3
  have CA3 := hq' (Cl.keep CA2.out hK3 hpo2)
  have CR3 := hq' (Cl.keep CR2.out hK3 hpo)
  have B3 : Hid (Below w.heap.size w w3) := B2.out.trans (hK3.toBelow B2.out.size (fun k hk e => by omega))
  clear hC3 hK3 CA2 CR2 B2 CO a0
  have a0 := CA3.out.cell 0
  simp only [g0',gs'] at a0
  go_upto_block 0 with (fail)
  go_cut [] (fun wz => Cl wz po L 44 ∧ Cl wz pr (zt0) 44 ∧ Below w.heap.size w wz)
  case first =>
   clear a0 HL38 HL39 HLON HLSZ
   rcases (show (x_kind = 1 ∨ x_kind = 7) ∨ x_kind = 2 ∨ x_kind = 3 ∨ x_kind = 4 ∨ x_kind = 5 ∨ x_kind = 6 ∨ x_kind = 8 ∨ x_kind = 9 by have := HKD.out; omega) with e17 | rfl | rfl | rfl | rfl | rfl | rfl | rfl
   ·have HL : Hid (L = (.int .i64 x_kind::.int .i64 x_frm::.int .i64 x_to::.int .i64 pe::.int .i64 pf::.int .i64 0::.int .i64 0::.int .i64 0::.int .i64 0::.slice none 0 0::.int .i64 0::.slice none 0 0::.int .i64 0::.int .i64 0::.int .i64 0::.int .i64 0::.int .i64 0::.slice none 0 0::.slice none 0 0::.int .i64 x_req.client::.int .i64 x_req.n::.int .i64 x_req.kind::.int .i64 x_req.part::.int .i64 x_req.seq::.int .i64 x_req.off::.int .i64 x_req.max::.int .i64 x_req.gen::.string ⟨x_req.group.toArray⟩::.string ⟨x_req.member.toArray⟩::.slice s4 x_req.recs.length c4::zt30)) := by
     rcases e17 with rfl | rfl <;> (rw [Hid,HL0.out,HPE.out,HPF.out]; rfl)
    clear HL0
    rcases (show (x_kind == 1) = true ∨ ((x_kind == 1) = false ∧ (x_kind == 7) = true) by rcases e17 with rfl | rfl <;> simp) with q1 | ⟨q1,q7⟩
    all_goals
     have CO := hq' CO3.out
     have a19 := CA3.out.cell 19
     have o19 := CO.out.cell 19
     have f19 := CO.out.free 19
     have a20 := CA3.out.cell 20
     have o20 := CO.out.cell 20
     have f20 := CO.out.free 20
     have a21 := CA3.out.cell 21
     have o21 := CO.out.cell 21
     have f21 := CO.out.free 21
     have a22 := CA3.out.cell 22
     have o22 := CO.out.cell 22
     have f22 := CO.out.free 22
     have a23 := CA3.out.cell 23
     have o23 := CO.out.cell 23
     have f23 := CO.out.free 23
     have a24 := CA3.out.cell 24
     have o24 := CO.out.cell 24
     have f24 := CO.out.free 24
     have a25 := CA3.out.cell 25
     have o25 := CO.out.cell 25
     have f25 := CO.out.free 25
     have a26 := CA3.out.cell 26
     have o26 := CO.out.cell 26
     have f26 := CO.out.free 26
     have a27 := CA3.out.cell 27
     have o27 := CO.out.cell 27
     have f27 := CO.out.free 27
     have a28 := CA3.out.cell 28
     have o28 := CO.out.cell 28
     have f28 := CO.out.free 28
     have a29 := CA3.out.cell 29
     have o29 := CO.out.cell 29
     have f29 := CO.out.free 29
     simp only [g0',gs'] at a19 o19 a20 o20 a21 o21 a22 o22 a23 o23 a24 o24 a25 o25 a26 o26 a27 o27 a28 o28 a29 o29
     obtain ⟨w9,hw9,C9,K9⟩ : ∃ w9,(((((((((((w3.setCell ⟨po,19,none⟩ (.int .i64 x_req.client)).setCell ⟨po,20,none⟩ (.int .i64 x_req.n)).setCell ⟨po,21,none⟩ (.int .i64 x_req.kind)).setCell ⟨po,22,none⟩ (.int .i64 x_req.part)).setCell ⟨po,23,none⟩ (.int .i64 x_req.seq)).setCell ⟨po,24,none⟩ (.int .i64 x_req.off)).setCell ⟨po,25,none⟩ (.int .i64 x_req.max)).setCell ⟨po,26,none⟩ (.int .i64 x_req.gen)).setCell ⟨po,27,none⟩ (.string ⟨x_req.group.toArray⟩)).setCell ⟨po,28,none⟩ (.string ⟨x_req.member.toArray⟩)).setCell ⟨po,29,none⟩ (.slice s4 x_req.recs.length c4)) = w9 ∧ Hid (Cl w9 po (.int .i64 x_kind::.int .i64 x_frm::.int .i64 x_to::.int .i64 pe::.int .i64 pf::.int .i64 0::.int .i64 0::.int .i64 0::.int .i64 0::.slice none 0 0::.int .i64 0::.slice none 0 0::.int .i64 0::.int .i64 0::.int .i64 0::.int .i64 0::.int .i64 0::.slice none 0 0::.slice none 0 0::.int .i64 x_req.client::.int .i64 x_req.n::.int .i64 x_req.kind::.int .i64 x_req.part::.int .i64 x_req.seq::.int .i64 x_req.off::.int .i64 x_req.max::.int .i64 x_req.gen::.string ⟨x_req.group.toArray⟩::.string ⟨x_req.member.toArray⟩::.slice s4 x_req.recs.length c4::zt30) 44) ∧ Hid (Keeps (fun j => j = po) w3 w9) :=
      ⟨_,rfl,(Cl.set (Cl.set (Cl.set (Cl.set (Cl.set (Cl.set (Cl.set (Cl.set (Cl.set (Cl.set (Cl.set CO.out 19 (.int .i64 x_req.client)) 20 (.int .i64 x_req.n)) 21 (.int .i64 x_req.kind)) 22 (.int .i64 x_req.part)) 23 (.int .i64 x_req.seq)) 24 (.int .i64 x_req.off)) 25 (.int .i64 x_req.max)) 26 (.int .i64 x_req.gen)) 27 (.string ⟨x_req.group.toArray⟩)) 28 (.string ⟨x_req.member.toArray⟩)) 29 (.slice s4 x_req.recs.length c4)),((((((((((((Keeps.refl (fun j => j = po) w3).trans (Keeps.setCell (fun j => j = po) _ ⟨po,19,none⟩ (.int .i64 x_req.client) rfl)).trans (Keeps.setCell (fun j => j = po) _ ⟨po,20,none⟩ (.int .i64 x_req.n) rfl)).trans (Keeps.setCell (fun j => j = po) _ ⟨po,21,none⟩ (.int .i64 x_req.kind) rfl)).trans (Keeps.setCell (fun j => j = po) _ ⟨po,22,none⟩ (.int .i64 x_req.part) rfl)).trans (Keeps.setCell (fun j => j = po) _ ⟨po,23,none⟩ (.int .i64 x_req.seq) rfl)).trans (Keeps.setCell (fun j => j = po) _ ⟨po,24,none⟩ (.int .i64 x_req.off) rfl)).trans (Keeps.setCell (fun j => j = po) _ ⟨po,25,none⟩ (.int .i64 x_req.max) rfl)).trans (Keeps.setCell (fun j => j = po) _ ⟨po,26,none⟩ (.int .i64 x_req.gen) rfl)).trans (Keeps.setCell (fun j => j = po) _ ⟨po,27,none⟩ (.string ⟨x_req.group.toArray⟩) rfl)).trans (Keeps.setCell (fun j => j = po) _ ⟨po,28,none⟩ (.string ⟨x_req.member.toArray⟩) rfl)).trans (Keeps.setCell (fun j => j = po) _ ⟨po,29,none⟩ (.slice s4 x_req.recs.length c4) rfl))⟩
     clear CO CO3
     have a0 := CA3.out.cell 0
     simp only [List.getElem?_cons_zero] at a0
     go_wp2
     first | rw [hw9] | skip
     go_meet
     case rel => exact ⟨by rw [HL.out]; exact C9.out,Cl.keep CR3.out K9.out hpo,B3.out.trans (K9.out.toBelow B3.out.size (fun k hk e => by omega))⟩
   ·have HL : Hid (L = (.int .i64 2::.int .i64 x_frm::.int .i64 x_to::.int .i64 pe::.int .i64 pf::.int .i64 0::.int .i64 0::.int .i64 0::.int .i64 0::.slice none 0 0::.int .i64 0::.slice none 0 0::.int .i64 0::.int .i64 0::.int .i64 0::.int .i64 0::.int .i64 0::.slice none 0 0::.slice none 0 0::.int .i64 0::.int .i64 0::.int .i64 0::.int .i64 0::.int .i64 0::.int .i64 0::.int .i64 0::.int .i64 0::.string ⟨#[]⟩::.string ⟨#[]⟩::.slice none 0 0::.int .i64 x_resp.client::.int .i64 x_resp.n::.int .i64 x_resp.code::.int .i64 x_resp.off::.int .i64 x_resp.high::.int .i64 x_resp.gen::.slice s5 x_resp.parts.length c5::.slice s6 x_resp.recs.length c6::[])) := by
     rw [Hid,HL0.out,HPE.out,HPF.out]
     rfl
    clear HL0
    have CO := hq' CO3.out
    have a30 := CA3.out.cell 30
    have o30 := CO.out.cell 30
    have f30 := CO.out.free 30
    have a31 := CA3.out.cell 31
    have o31 := CO.out.cell 31
    have f31 := CO.out.free 31
    have a32 := CA3.out.cell 32
    have o32 := CO.out.cell 32
    have f32 := CO.out.free 32
    have a33 := CA3.out.cell 33
    have o33 := CO.out.cell 33
    have f33 := CO.out.free 33
    have a34 := CA3.out.cell 34
    have o34 := CO.out.cell 34
    have f34 := CO.out.free 34
    have a35 := CA3.out.cell 35
    have o35 := CO.out.cell 35
    have f35 := CO.out.free 35
    have a36 := CA3.out.cell 36
    have o36 := CO.out.cell 36
    have f36 := CO.out.free 36
    have a37 := CA3.out.cell 37
    have o37 := CO.out.cell 37
    have f37 := CO.out.free 37
    simp only [g0',gs'] at a30 o30 a31 o31 a32 o32 a33 o33 a34 o34 a35 o35 a36 o36 a37 o37
    obtain ⟨w9,hw9,C9,K9⟩ : ∃ w9,((((((((w3.setCell ⟨po,30,none⟩ (.int .i64 x_resp.client)).setCell ⟨po,31,none⟩ (.int .i64 x_resp.n)).setCell ⟨po,32,none⟩ (.int .i64 x_resp.code)).setCell ⟨po,33,none⟩ (.int .i64 x_resp.off)).setCell ⟨po,34,none⟩ (.int .i64 x_resp.high)).setCell ⟨po,35,none⟩ (.int .i64 x_resp.gen)).setCell ⟨po,36,none⟩ (.slice s5 x_resp.parts.length c5)).setCell ⟨po,37,none⟩ (.slice s6 x_resp.recs.length c6)) = w9 ∧ Hid (Cl w9 po (.int .i64 2::.int .i64 x_frm::.int .i64 x_to::.int .i64 pe::.int .i64 pf::.int .i64 0::.int .i64 0::.int .i64 0::.int .i64 0::.slice none 0 0::.int .i64 0::.slice none 0 0::.int .i64 0::.int .i64 0::.int .i64 0::.int .i64 0::.int .i64 0::.slice none 0 0::.slice none 0 0::.int .i64 0::.int .i64 0::.int .i64 0::.int .i64 0::.int .i64 0::.int .i64 0::.int .i64 0::.int .i64 0::.string ⟨#[]⟩::.string ⟨#[]⟩::.slice none 0 0::.int .i64 x_resp.client::.int .i64 x_resp.n::.int .i64 x_resp.code::.int .i64 x_resp.off::.int .i64 x_resp.high::.int .i64 x_resp.gen::.slice s5 x_resp.parts.length c5::.slice s6 x_resp.recs.length c6::[]) 44) ∧ Hid (Keeps (fun j => j = po) w3 w9) :=
     ⟨_,rfl,(Cl.set (Cl.set (Cl.set (Cl.set (Cl.set (Cl.set (Cl.set (Cl.set CO.out 30 (.int .i64 x_resp.client)) 31 (.int .i64 x_resp.n)) 32 (.int .i64 x_resp.code)) 33 (.int .i64 x_resp.off)) 34 (.int .i64 x_resp.high)) 35 (.int .i64 x_resp.gen)) 36 (.slice s5 x_resp.parts.length c5)) 37 (.slice s6 x_resp.recs.length c6)),(((((((((Keeps.refl (fun j => j = po) w3).trans (Keeps.setCell (fun j => j = po) _ ⟨po,30,none⟩ (.int .i64 x_resp.client) rfl)).trans (Keeps.setCell (fun j => j = po) _ ⟨po,31,none⟩ (.int .i64 x_resp.n) rfl)).trans (Keeps.setCell (fun j => j = po) _ ⟨po,32,none⟩ (.int .i64 x_resp.code) rfl)).trans (Keeps.setCell (fun j => j = po) _ ⟨po,33,none⟩ (.int .i64 x_resp.off) rfl)).trans (Keeps.setCell (fun j => j = po) _ ⟨po,34,none⟩ (.int .i64 x_resp.high) rfl)).trans (Keeps.setCell (fun j => j = po) _ ⟨po,35,none⟩ (.int .i64 x_resp.gen) rfl)).trans (Keeps.setCell (fun j => j = po) _ ⟨po,36,none⟩ (.slice s5 x_resp.parts.length c5) rfl)).trans (Keeps.setCell (fun j => j = po) _ ⟨po,37,none⟩ (.slice s6 x_resp.recs.length c6) rfl))⟩
    clear CO CO3
    have a0 := CA3.out.cell 0
    simp only [List.getElem?_cons_zero] at a0
    go_wp2
    first | rw [hw9] | skip
    go_meet
    case rel => exact ⟨by rw [HL.out]; exact C9.out,Cl.keep CR3.out K9.out hpo,B3.out.trans (K9.out.toBelow B3.out.size (fun k hk e => by omega))⟩
   ·have HL : Hid (L = (.int .i64 3::.int .i64 x_frm::.int .i64 x_to::.int .i64 pe::.int .i64 pf::.int .i64 0::.int .i64 0::.int .i64 x_life::zt8)) := by
     rw [Hid,HL0.out,HPE.out,HPF.out]
     rfl
    clear HL0
    have CO := hq' CO3.out
    have a7 := CA3.out.cell 7
    have o7 := CO.out.cell 7
    have f7 := CO.out.free 7
    simp only [g0',gs'] at a7 o7
    obtain ⟨w9,hw9,C9,K9⟩ : ∃ w9,(w3.setCell ⟨po,7,none⟩ (.int .i64 x_life)) = w9 ∧ Hid (Cl w9 po (.int .i64 3::.int .i64 x_frm::.int .i64 x_to::.int .i64 pe::.int .i64 pf::.int .i64 0::.int .i64 0::.int .i64 x_life::zt8) 44) ∧ Hid (Keeps (fun j => j = po) w3 w9) :=
     ⟨_,rfl,(Cl.set CO.out 7 (.int .i64 x_life)),((Keeps.refl (fun j => j = po) w3).trans (Keeps.setCell (fun j => j = po) _ ⟨po,7,none⟩ (.int .i64 x_life) rfl))⟩
    clear CO CO3
    have a0 := CA3.out.cell 0
    simp only [List.getElem?_cons_zero] at a0
    go_wp2
    first | rw [hw9] | skip
    go_meet
    case rel => exact ⟨by rw [HL.out]; exact C9.out,Cl.keep CR3.out K9.out hpo,B3.out.trans (K9.out.toBelow B3.out.size (fun k hk e => by omega))⟩
   ·have HL : Hid (L = (.int .i64 4::.int .i64 x_frm::.int .i64 x_to::.int .i64 pe::.int .i64 pf::.int .i64 0::.int .i64 0::.int .i64 0::.int .i64 x_pep::.slice s0 x_chain.length c0::.int .i64 x_learner::.slice s1 x_lives.length c1::zt12)) := by
     rw [Hid,HL0.out,HPE.out,HPF.out]
     rfl
    clear HL0
    have CO := hq' CO3.out
    have a8 := CA3.out.cell 8
    have o8 := CO.out.cell 8
    have f8 := CO.out.free 8
    have a9 := CA3.out.cell 9
    have o9 := CO.out.cell 9
    have f9 := CO.out.free 9
    have a10 := CA3.out.cell 10
    have o10 := CO.out.cell 10
    have f10 := CO.out.free 10
    have a11 := CA3.out.cell 11
    have o11 := CO.out.cell 11
    have f11 := CO.out.free 11
    simp only [g0',gs'] at a8 o8 a9 o9 a10 o10 a11 o11
    obtain ⟨w9,hw9,C9,K9⟩ : ∃ w9,((((w3.setCell ⟨po,8,none⟩ (.int .i64 x_pep)).setCell ⟨po,9,none⟩ (.slice s0 x_chain.length c0)).setCell ⟨po,10,none⟩ (.int .i64 x_learner)).setCell ⟨po,11,none⟩ (.slice s1 x_lives.length c1)).drew = w9 ∧ Hid (Cl w9 po (.int .i64 4::.int .i64 x_frm::.int .i64 x_to::.int .i64 pe::.int .i64 pf::.int .i64 0::.int .i64 0::.int .i64 0::.int .i64 x_pep::.slice s0 x_chain.length c0::.int .i64 x_learner::.slice s1 x_lives.length c1::zt12) 44) ∧ Hid (Keeps (fun j => j = po) w3 w9) :=
     ⟨_,rfl,Cl.drewN (Cl.set (Cl.set (Cl.set (Cl.set CO.out 8 (.int .i64 x_pep)) 9 (.slice s0 x_chain.length c0)) 10 (.int .i64 x_learner)) 11 (.slice s1 x_lives.length c1)) 1,((((((Keeps.refl (fun j => j = po) w3).trans (Keeps.setCell (fun j => j = po) _ ⟨po,8,none⟩ (.int .i64 x_pep) rfl)).trans (Keeps.setCell (fun j => j = po) _ ⟨po,9,none⟩ (.slice s0 x_chain.length c0) rfl)).trans (Keeps.setCell (fun j => j = po) _ ⟨po,10,none⟩ (.int .i64 x_learner) rfl)).trans (Keeps.setCell (fun j => j = po) _ ⟨po,11,none⟩ (.slice s1 x_lives.length c1) rfl)).trans (Keeps.drew _ _))⟩
    clear CO CO3
    have a0 := CA3.out.cell 0
    simp only [List.getElem?_cons_zero] at a0
    go_wp2
    go_region
    go_wp2
    first | rw [hw9] | skip
    go_meet
    case rel => exact ⟨by rw [HL.out]; exact C9.out,Cl.keep CR3.out K9.out hpo,B3.out.trans (K9.out.toBelow B3.out.size (fun k hk e => by omega))⟩
   ·have HL : Hid (L = (.int .i64 5::.int .i64 x_frm::.int .i64 x_to::.int .i64 pe::.int .i64 pf::.int .i64 0::.int .i64 0::.int .i64 0::.int .i64 0::.slice none 0 0::.int .i64 0::.slice none 0 0::.int .i64 x_batch.base::.int .i64 x_batch.count::.int .i64 x_batch.prod::.int .i64 x_batch.seq::.int .i64 x_batch.time::.slice s2 x_batch.recs.length c2::zt18)) := by
     rw [Hid,HL0.out,HPE.out,HPF.out]
     rfl
    clear HL0
    have CO := hq' CO3.out
    have a12 := CA3.out.cell 12
    have o12 := CO.out.cell 12
    have f12 := CO.out.free 12
    have a13 := CA3.out.cell 13
    have o13 := CO.out.cell 13
    have f13 := CO.out.free 13
    have a14 := CA3.out.cell 14
    have o14 := CO.out.cell 14
    have f14 := CO.out.free 14
    have a15 := CA3.out.cell 15
    have o15 := CO.out.cell 15
    have f15 := CO.out.free 15
    have a16 := CA3.out.cell 16
    have o16 := CO.out.cell 16
    have f16 := CO.out.free 16
    have a17 := CA3.out.cell 17
    have o17 := CO.out.cell 17
    have f17 := CO.out.free 17
    simp only [g0',gs'] at a12 o12 a13 o13 a14 o14 a15 o15 a16 o16 a17 o17
    obtain ⟨w9,hw9,C9,K9⟩ : ∃ w9,((((((w3.setCell ⟨po,12,none⟩ (.int .i64 x_batch.base)).setCell ⟨po,13,none⟩ (.int .i64 x_batch.count)).setCell ⟨po,14,none⟩ (.int .i64 x_batch.prod)).setCell ⟨po,15,none⟩ (.int .i64 x_batch.seq)).setCell ⟨po,16,none⟩ (.int .i64 x_batch.time)).setCell ⟨po,17,none⟩ (.slice s2 x_batch.recs.length c2)) = w9 ∧ Hid (Cl w9 po (.int .i64 5::.int .i64 x_frm::.int .i64 x_to::.int .i64 pe::.int .i64 pf::.int .i64 0::.int .i64 0::.int .i64 0::.int .i64 0::.slice none 0 0::.int .i64 0::.slice none 0 0::.int .i64 x_batch.base::.int .i64 x_batch.count::.int .i64 x_batch.prod::.int .i64 x_batch.seq::.int .i64 x_batch.time::.slice s2 x_batch.recs.length c2::zt18) 44) ∧ Hid (Keeps (fun j => j = po) w3 w9) :=
     ⟨_,rfl,(Cl.set (Cl.set (Cl.set (Cl.set (Cl.set (Cl.set CO.out 12 (.int .i64 x_batch.base)) 13 (.int .i64 x_batch.count)) 14 (.int .i64 x_batch.prod)) 15 (.int .i64 x_batch.seq)) 16 (.int .i64 x_batch.time)) 17 (.slice s2 x_batch.recs.length c2)),(((((((Keeps.refl (fun j => j = po) w3).trans (Keeps.setCell (fun j => j = po) _ ⟨po,12,none⟩ (.int .i64 x_batch.base) rfl)).trans (Keeps.setCell (fun j => j = po) _ ⟨po,13,none⟩ (.int .i64 x_batch.count) rfl)).trans (Keeps.setCell (fun j => j = po) _ ⟨po,14,none⟩ (.int .i64 x_batch.prod) rfl)).trans (Keeps.setCell (fun j => j = po) _ ⟨po,15,none⟩ (.int .i64 x_batch.seq) rfl)).trans (Keeps.setCell (fun j => j = po) _ ⟨po,16,none⟩ (.int .i64 x_batch.time) rfl)).trans (Keeps.setCell (fun j => j = po) _ ⟨po,17,none⟩ (.slice s2 x_batch.recs.length c2) rfl))⟩
    clear CO CO3
    have a0 := CA3.out.cell 0
    simp only [List.getElem?_cons_zero] at a0
    go_wp2
    first | rw [hw9] | skip
    go_meet
    case rel => exact ⟨by rw [HL.out]; exact C9.out,Cl.keep CR3.out K9.out hpo,B3.out.trans (K9.out.toBelow B3.out.size (fun k hk e => by omega))⟩
   ·have HL : Hid (L = (.int .i64 6::.int .i64 x_frm::.int .i64 x_to::.int .i64 pe::.int .i64 pf::.int .i64 x_off::.int .i64 x_high::zt7)) := by
     rw [Hid,HL0.out,HPE.out,HPF.out]
     rfl
    clear HL0
    have CO := hq' CO3.out
    have a5 := CA3.out.cell 5
    have o5 := CO.out.cell 5
    have f5 := CO.out.free 5
    have a6 := CA3.out.cell 6
    have o6 := CO.out.cell 6
    have f6 := CO.out.free 6
    simp only [g0',gs'] at a5 o5 a6 o6
    obtain ⟨w9,hw9,C9,K9⟩ : ∃ w9,((w3.setCell ⟨po,5,none⟩ (.int .i64 x_off)).setCell ⟨po,6,none⟩ (.int .i64 x_high)).drew = w9 ∧ Hid (Cl w9 po (.int .i64 6::.int .i64 x_frm::.int .i64 x_to::.int .i64 pe::.int .i64 pf::.int .i64 x_off::.int .i64 x_high::zt7) 44) ∧ Hid (Keeps (fun j => j = po) w3 w9) :=
     ⟨_,rfl,Cl.drewN (Cl.set (Cl.set CO.out 5 (.int .i64 x_off)) 6 (.int .i64 x_high)) 1,((((Keeps.refl (fun j => j = po) w3).trans (Keeps.setCell (fun j => j = po) _ ⟨po,5,none⟩ (.int .i64 x_off) rfl)).trans (Keeps.setCell (fun j => j = po) _ ⟨po,6,none⟩ (.int .i64 x_high) rfl)).trans (Keeps.drew _ _))⟩
    clear CO CO3
    have a0 := CA3.out.cell 0
    simp only [List.getElem?_cons_zero] at a0
    go_wp2
    go_region
    go_wp2
    first | rw [hw9] | skip
    go_meet
    case rel => exact ⟨by rw [HL.out]; exact C9.out,Cl.keep CR3.out K9.out hpo,B3.out.trans (K9.out.toBelow B3.out.size (fun k hk e => by omega))⟩
   ·have HL : Hid (L = (.int .i64 8::.int .i64 x_frm::.int .i64 x_to::.int .i64 pe::.int .i64 pf::.int .i64 x_off::.int .i64 0::.int .i64 0::.int .i64 0::.slice none 0 0::.int .i64 0::.slice none 0 0::.int .i64 0::.int .i64 0::.int .i64 0::.int .i64 0::.int .i64 0::.slice none 0 0::.slice s3 x_table.length c3::zt19)) := by
     rw [Hid,HL0.out,HPE.out,HPF.out]
     rfl
    clear HL0
    have CO := hq' CO3.out
    have a5 := CA3.out.cell 5
    have o5 := CO.out.cell 5
    have f5 := CO.out.free 5
    have a18 := CA3.out.cell 18
    have o18 := CO.out.cell 18
    have f18 := CO.out.free 18
    simp only [g0',gs'] at a5 o5 a18 o18
    obtain ⟨w9,hw9,C9,K9⟩ : ∃ w9,((w3.setCell ⟨po,5,none⟩ (.int .i64 x_off)).setCell ⟨po,18,none⟩ (.slice s3 x_table.length c3)).drew = w9 ∧ Hid (Cl w9 po (.int .i64 8::.int .i64 x_frm::.int .i64 x_to::.int .i64 pe::.int .i64 pf::.int .i64 x_off::.int .i64 0::.int .i64 0::.int .i64 0::.slice none 0 0::.int .i64 0::.slice none 0 0::.int .i64 0::.int .i64 0::.int .i64 0::.int .i64 0::.int .i64 0::.slice none 0 0::.slice s3 x_table.length c3::zt19) 44) ∧ Hid (Keeps (fun j => j = po) w3 w9) :=
     ⟨_,rfl,Cl.drewN (Cl.set (Cl.set CO.out 5 (.int .i64 x_off)) 18 (.slice s3 x_table.length c3)) 1,((((Keeps.refl (fun j => j = po) w3).trans (Keeps.setCell (fun j => j = po) _ ⟨po,5,none⟩ (.int .i64 x_off) rfl)).trans (Keeps.setCell (fun j => j = po) _ ⟨po,18,none⟩ (.slice s3 x_table.length c3) rfl)).trans (Keeps.drew _ _))⟩
    clear CO CO3
    have a0 := CA3.out.cell 0
    simp only [List.getElem?_cons_zero] at a0
    go_wp2
    go_region
    go_wp2
    first | rw [hw9] | skip
    go_meet
    case rel => exact ⟨by rw [HL.out]; exact C9.out,Cl.keep CR3.out K9.out hpo,B3.out.trans (K9.out.toBelow B3.out.size (fun k hk e => by omega))⟩
   ·have HL : Hid (L = (.int .i64 9::.int .i64 x_frm::.int .i64 x_to::.int .i64 pe::.int .i64 pf::.int .i64 x_off::zt6)) := by
     rw [Hid,HL0.out,HPE.out,HPF.out]
     rfl
    clear HL0
    have CO := hq' CO3.out
    have a5 := CA3.out.cell 5
    have o5 := CO.out.cell 5
    have f5 := CO.out.free 5
    simp only [g0',gs'] at a5 o5
    obtain ⟨w9,hw9,C9,K9⟩ : ∃ w9,(w3.setCell ⟨po,5,none⟩ (.int .i64 x_off)) = w9 ∧ Hid (Cl w9 po (.int .i64 9::.int .i64 x_frm::.int .i64 x_to::.int .i64 pe::.int .i64 pf::.int .i64 x_off::zt6) 44) ∧ Hid (Keeps (fun j => j = po) w3 w9) :=
     ⟨_,rfl,(Cl.set CO.out 5 (.int .i64 x_off)),((Keeps.refl (fun j => j = po) w3).trans (Keeps.setCell (fun j => j = po) _ ⟨po,5,none⟩ (.int .i64 x_off) rfl))⟩
    clear CO CO3
    have a0 := CA3.out.cell 0
    simp only [List.getElem?_cons_zero] at a0
    go_wp2
    first | rw [hw9] | skip
    go_meet
    case rel => exact ⟨by rw [HL.out]; exact C9.out,Cl.keep CR3.out K9.out hpo,B3.out.trans (K9.out.toBelow B3.out.size (fun k hk e => by omega))⟩
  case rest =>
   obtain ⟨hC4,hR4,hB4⟩ := hcut
   generalize wc = w4 at *
   have CP := hq' hC4
   have CQ := hq' hR4
   have B4 := hq' hB4
   clear hC4 hR4 hB4 HL0 CO3 CA3 CR3 B3 a0
   have hpr : pr ≠ po := hpo
   have C9 : Hid (Cl (w4.setRow pr L.toArray) pr L 44) := by
    have := CQ.out.row L.toArray
    rwa [List.toList_toArray] at this
   have K9 : Hid (Keeps (fun j => j = pr) w4 (w4.setRow pr L.toArray)) := Keeps.row _ _ _ rfl
   have R4 := hq' CP.out.range
   have HU := hq' Tryz.underlying44
   go_wp2_with (first
    | (refine wpList_load_mid (by rfl) _ _ (by rfl) po 0 (by rfl) L _ R4.out HU.out (by rfl) HL38.out ?_)
    | (refine wpList_store_row (by rfl) _ _ _ (by rfl) pr L.toArray (by rfl) (by rfl) 44 _ CQ.out HL39.out HLSZ.out HLON.out ?_))
   have BF : Below w.heap.size w (w4.setRow pr L.toArray) := B4.out.trans (K9.out.toBelow B4.out.size (fun k hk e => by omega))
   refine bodyPost_ret (results_cl rfl _ _ _ _ _ _ rfl C9.out Tryz.underlying44 rfl HL38.out) rfl ?_
   exact ⟨rfl,BF⟩
end Go.Proofs.YtbljbdjmgogknaaGreatDoor
