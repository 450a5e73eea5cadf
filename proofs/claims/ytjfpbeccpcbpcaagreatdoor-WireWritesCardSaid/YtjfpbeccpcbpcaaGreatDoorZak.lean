/-
  Wo8 / Wo9 / Wo / Wqa / Wqb: texts of one proof, one behind the other.
  Conditions: none of its own.
-/
import Derived.Test.YtjfpbeccpcbpcaaGreatDoorZaf
import Derived.Test.YtjfpbeccpcbpcaaGreatDoorZag
import Derived.Test.YtjfpbeccpcbpcaaGreatDoorZai
import Derived.Test.YtjfpbeccpcbpcaaGreatDoorZaj
set_option linter.unusedVariables false
set_option linter.unusedSimpArgs false
namespace Go.Proofs.YtjfpbeccpcbpcaaGreatDoor
open Go.RowKit
set_option maxRecDepth 20000 in
set_option maxHeartbeats 12800000 in
theorem only_k8 (m : Wi.Msg) (v : MsgV) (w : World) (h : MsgAt w m v) (hk : m.kind = 8) :
  Calls Tryz.prog 34 #[msgV m v] w fun e w' => e = .returned (msgV (Wi.only m) (onlyV m v)) ∧ Below w.heap.size w w' := by
 obtain ⟨s0, c0, hh0⟩ := h.chain.form
 obtain ⟨s1, c1, hh1⟩ := h.lives.form
 obtain ⟨s2, c2, hh2⟩ := h.brecs.form
 obtain ⟨s3, c3, hh3⟩ := h.table.form
 obtain ⟨s4, c4, hh4⟩ := h.qrecs.form
 obtain ⟨s5, c5, hh5⟩ := h.parts.form
 obtain ⟨s6, c6, hh6⟩ := h.arecs.form
 obtain ⟨v0, v1, v2, v3, v4, v5, v6⟩ := v
 dsimp only at hh0 hh1 hh2 hh3 hh4 hh5 hh6
 subst hh0 hh1 hh2 hh3 hh4 hh5 hh6
 obtain ⟨x_kind, x_frm, x_to, x_part, x_ep, x_off, x_high, x_life, x_pep, x_chain, x_learner, x_lives, x_batch, x_table, x_req, x_resp⟩ := m
 dsimp only at *
 clear h
 subst hk
 obtain ⟨L, hL⟩ : ∃ L, L = msgC (Wi.only ⟨8, x_frm, x_to, x_part, x_ep, x_off, x_high, x_life, x_pep, x_chain, x_learner, x_lives, x_batch, x_table, x_req, x_resp⟩) (onlyV ⟨8, x_frm, x_to, x_part, x_ep, x_off, x_high, x_life, x_pep, x_chain, x_learner, x_lives, x_batch, x_table, x_req, x_resp⟩ ⟨.slice s0 x_chain.length c0, .slice s1 x_lives.length c1, .slice s2 x_batch.recs.length c2, .slice s3 x_table.length c3, .slice s4 x_req.recs.length c4, .slice s5 x_resp.parts.length c5, .slice s6 x_resp.recs.length c6⟩) := ⟨_, rfl⟩
 have HLV : Hid (msgV (Wi.only ⟨8, x_frm, x_to, x_part, x_ep, x_off, x_high, x_life, x_pep, x_chain, x_learner, x_lives, x_batch, x_table, x_req, x_resp⟩) (onlyV ⟨8, x_frm, x_to, x_part, x_ep, x_off, x_high, x_life, x_pep, x_chain, x_learner, x_lives, x_batch, x_table, x_req, x_resp⟩ ⟨.slice s0 x_chain.length c0, .slice s1 x_lives.length c1, .slice s2 x_batch.recs.length c2, .slice s3 x_table.length c3, .slice s4 x_req.recs.length c4, .slice s5 x_resp.parts.length c5, .slice s6 x_resp.recs.length c6⟩) = .agg L.toArray) := by rw [Hid, hL, msgV]
 rw [HLV.out]
 have HL0 := Lib.hid hL
 have HL38 : Hid ((Tryz.prog.info? 36).map (·.size) = some L.length) := by rw [Hid, hL, show ∀ a b, (msgC a b).length = 38 from fun _ _ => rfl]; kernel_rfl
 have HL39 : Hid ((Tryz.prog.info? 36).map (·.size) = some (L.toArray : Array Value).size) := by rw [Hid, List.size_toArray, hL, show ∀ a b, (msgC a b).length = 38 from fun _ _ => rfl]; kernel_rfl
 have HLON : Hid ((L.toArray : Array Value).all (·.oneCell') = true) := by rw [Hid, hL]; simp [msgC, onlyV, Value.oneCell']
 have HLSZ : Hid (((zt0).toArray : Array Value).size = (L.toArray : Array Value).size) := by rw [Hid, hL]; rfl
 clear hL HLV
 unfold msgV msgC
 dsimp only
 go_enter Tryz.func34, Tryz.ntmps34
 obtain ⟨w1, hw1, CA, CR, B1⟩ := twoBox (w := w) (.int .i64 8 :: .int .i64 x_frm :: .int .i64 x_to :: .int .i64 x_part :: .int .i64 x_ep :: .int .i64 x_off :: .int .i64 x_high :: .int .i64 x_life :: .int .i64 x_pep :: .slice s0 x_chain.length c0 :: .int .i64 x_learner :: .slice s1 x_lives.length c1 :: .int .i64 x_batch.base :: .int .i64 x_batch.count :: .int .i64 x_batch.prod :: .int .i64 x_batch.seq :: .int .i64 x_batch.time :: .slice s2 x_batch.recs.length c2 :: .slice s3 x_table.length c3 :: .int .i64 x_req.client :: .int .i64 x_req.n :: .int .i64 x_req.kind :: .int .i64 x_req.part :: .int .i64 x_req.seq :: .int .i64 x_req.off :: .int .i64 x_req.max :: .int .i64 x_req.gen :: .string ⟨x_req.group.toArray⟩ :: .string ⟨x_req.member.toArray⟩ :: .slice s4 x_req.recs.length c4 :: .int .i64 x_resp.client :: .int .i64 x_resp.n :: .int .i64 x_resp.code :: .int .i64 x_resp.off :: .int .i64 x_resp.high :: .int .i64 x_resp.gen :: .slice s5 x_resp.parts.length c5 :: .slice s6 x_resp.recs.length c6 :: []) (zt0) 36
 go_upto_region 1 with (fail)
 first | rw [hw1] | skip
 clear hw1
 have hs1 : w.heap.size + 2 ≤ w1.heap.size := by have := CR.out.lt; omega
 have hsw : w.heap.size + 1 ≠ w1.heap.size := by omega
 have hsw2 : w.heap.size ≤ w1.heap.size := by omega
 obtain ⟨pr, hpr⟩ : ∃ pr, pr = w.heap.size + 1 := ⟨_, rfl⟩
 rw [← hpr] at CR hsw ⊢
 obtain ⟨pa, hpa⟩ : ∃ pa, pa = w.heap.size := ⟨_, rfl⟩
 rw [← hpa] at CA
 first | rw [← hpa] | skip
 have HPA := Lib.hid hpa
 have hprw : w.heap.size ≤ pr := by omega
 clear hpr hs1 hpa
 have a0 := CA.out.cell 0
 have a1 := CA.out.cell 1
 have a2 := CA.out.cell 2
 simp only [List.getElem?_cons_zero, List.getElem?_cons_succ] at a0 a1 a2
 have HZC : Hid ((w1.alloc (.cells (zt0).toArray 36)).heap[w1.heap.size]? = some (.cells (zt0).toArray 36 (0, 0))) := Cl.new w1 (zt0) _
 have CO : Hid (Cl ((w1.alloc (.cells (zt0).toArray 36)).setRow w1.heap.size (.int .i64 8 :: .int .i64 x_frm :: .int .i64 x_to :: zt3).toArray) w1.heap.size (.int .i64 8 :: .int .i64 x_frm :: .int .i64 x_to :: zt3) 36) := Cl.row (Cl.new w1 (zt0) _) _
 have b2 : Hid (Below w1.heap.size w1 ((w1.alloc (.cells (zt0).toArray 36)).setRow w1.heap.size (.int .i64 8 :: .int .i64 x_frm :: .int .i64 x_to :: zt3).toArray)) := ((Below.refl _ _).alloc (Nat.le_refl _) _).trans ((Keeps.row (S := fun j => j = w1.heap.size) _ w1.heap.size _ rfl).toBelow (by simp) (fun k hk e => by omega))
 have HI38 := Lib.hid (show (Tryz.prog.info? 36).map (·.size) = some ((.int .i64 8 :: .int .i64 x_frm :: .int .i64 x_to :: zt3).toArray : Array Value).size by kernel_rfl)
 have HONE : Hid (((.int .i64 8 :: .int .i64 x_frm :: .int .i64 x_to :: zt3).toArray : Array Value).all (·.oneCell') = true) := by simp [Hid, Value.oneCell']
 have HSZ : Hid (((zt0).toArray : Array Value).size = ((.int .i64 8 :: .int .i64 x_frm :: .int .i64 x_to :: zt3).toArray : Array Value).size) := rfl
 go_upto_region 2 with (refine wpList_store_row (by rfl) _ _ _ (by rfl) w1.heap.size (.int .i64 8 :: .int .i64 x_frm :: .int .i64 x_to :: zt3).toArray (by rfl) (by rfl) 36 _ HZC.out HI38.out HSZ.out HONE.out ?_)
 generalize (w1.alloc (.cells (zt0).toArray 36)).setRow w1.heap.size (.int .i64 8 :: .int .i64 x_frm :: .int .i64 x_to :: zt3).toArray = w2 at *
 clear HZC HI38 HONE HSZ a0 a1 a2
 have hpo : ¬ pr = w1.heap.size := hsw
 have hpo2 : ¬ pa = w1.heap.size := by have := CA.out.lt; omega
 have CA2 := Lib.hid (CA.out.below b2.out)
 have CR2 := Lib.hid (CR.out.below b2.out)
 have B2 := Lib.hid (bt B1.out b2.out)
 generalize w1.heap.size = po at *
 clear CA CR B1 b2 hsw
 have a0 := CA2.out.cell 0
 simp only [List.getElem?_cons_zero, List.getElem?_cons_succ] at a0
 go_upto_if 13 with (fail)
 go_cut [] (fun wz => Cl wz po (.int .i64 8 :: .int .i64 x_frm :: .int .i64 x_to :: .int .i64 x_part :: .int .i64 x_ep :: zt5) 36 ∧ Keeps (fun j => j = po) w2 wz)
 case first =>
  have a3 := CA2.out.cell 3
  have a4 := CA2.out.cell 4
  have o3 := CO.out.cell 3
  have o4 := CO.out.cell 4
  have f3 := CO.out.free 3
  have f4 := CO.out.free 4
  simp only [List.getElem?_cons_zero, List.getElem?_cons_succ] at a3 a4 o3 o4
  have C9 : Hid (Cl ((w2.setCell ⟨po, 3, none⟩ (.int .i64 x_part)).setCell ⟨po, 4, none⟩ (.int .i64 x_ep)).drew po (.int .i64 8 :: .int .i64 x_frm :: .int .i64 x_to :: .int .i64 x_part :: .int .i64 x_ep :: zt5) 36) := Cl.drewN (Cl.set (Cl.set CO.out 3 (.int .i64 x_part)) 4 (.int .i64 x_ep)) 1
  have K9 : Hid (Keeps (fun j => j = po) w2 ((w2.setCell ⟨po, 3, none⟩ (.int .i64 x_part)).setCell ⟨po, 4, none⟩ (.int .i64 x_ep)).drew) := (((Keeps.refl (fun j => j = po) w2).trans (Keeps.setCell (fun j => j = po) _ ⟨po, 3, none⟩ (.int .i64 x_part) rfl)).trans (Keeps.setCell (fun j => j = po) _ ⟨po, 4, none⟩ (.int .i64 x_ep) rfl)).trans (Keeps.drew _ _)
  go_wp2
  go_region
  go_wp2
  go_meet
  case rel => exact ⟨C9.out, K9.out⟩
 case rest =>
  obtain ⟨hC3, hK3⟩ := hcut
  generalize wc = w3 at *
  have CO3 := Lib.hid hC3
  have CA3 := Lib.hid (Cl.keep CA2.out hK3 hpo2)
  have CR3 := Lib.hid (Cl.keep CR2.out hK3 hpo)
  have B3 : Hid (Below w.heap.size w w3) := B2.out.trans (hK3.toBelow B2.out.size (fun k hk e => by omega))
  clear hC3 hK3 CA2 CR2 B2 CO a0
  have a0 := CA3.out.cell 0
  simp only [List.getElem?_cons_zero, List.getElem?_cons_succ] at a0
  go_upto_block 0 with (fail)
  go_cut [] (fun wz => Cl wz po L 36 ∧ Cl wz pr (zt0) 36 ∧ Below w.heap.size w wz)
  case first =>
   clear a0 HL38 HL39 HLON HLSZ
   have HL : Hid (L = (.int .i64 8 :: .int .i64 x_frm :: .int .i64 x_to :: .int .i64 x_part :: .int .i64 x_ep :: .int .i64 x_off :: .int .i64 0 :: .int .i64 0 :: .int .i64 0 :: .slice none 0 0 :: .int .i64 0 :: .slice none 0 0 :: .int .i64 0 :: .int .i64 0 :: .int .i64 0 :: .int .i64 0 :: .int .i64 0 :: .slice none 0 0 :: .slice s3 x_table.length c3 :: zt19)) := by
    rw [Hid, HL0.out]
    rfl
   clear HL0
   have CO := Lib.hid CO3.out
   have a5 := CA3.out.cell 5
   have o5 := CO.out.cell 5
   have f5 := CO.out.free 5
   have a18 := CA3.out.cell 18
   have o18 := CO.out.cell 18
   have f18 := CO.out.free 18
   simp only [List.getElem?_cons_zero, List.getElem?_cons_succ] at a5 o5 a18 o18
   obtain ⟨w9, hw9, C9, K9⟩ : ∃ w9, ((w3.setCell ⟨po, 5, none⟩ (.int .i64 x_off)).setCell ⟨po, 18, none⟩ (.slice s3 x_table.length c3)).drew = w9 ∧ Hid (Cl w9 po (.int .i64 8 :: .int .i64 x_frm :: .int .i64 x_to :: .int .i64 x_part :: .int .i64 x_ep :: .int .i64 x_off :: .int .i64 0 :: .int .i64 0 :: .int .i64 0 :: .slice none 0 0 :: .int .i64 0 :: .slice none 0 0 :: .int .i64 0 :: .int .i64 0 :: .int .i64 0 :: .int .i64 0 :: .int .i64 0 :: .slice none 0 0 :: .slice s3 x_table.length c3 :: zt19) 36) ∧ Hid (Keeps (fun j => j = po) w3 w9) :=
    ⟨_, rfl, Cl.drewN (Cl.set (Cl.set CO.out 5 (.int .i64 x_off)) 18 (.slice s3 x_table.length c3)) 1, ((((Keeps.refl (fun j => j = po) w3).trans (Keeps.setCell (fun j => j = po) _ ⟨po, 5, none⟩ (.int .i64 x_off) rfl)).trans (Keeps.setCell (fun j => j = po) _ ⟨po, 18, none⟩ (.slice s3 x_table.length c3) rfl)).trans (Keeps.drew _ _))⟩
   clear CO CO3
   have a0 := CA3.out.cell 0
   simp only [List.getElem?_cons_zero] at a0
   go_wp2
   go_region
   go_wp2
   first | rw [hw9] | skip
   go_meet
   case rel => exact ⟨by rw [HL.out]; exact C9.out, Cl.keep CR3.out K9.out hpo, B3.out.trans (K9.out.toBelow B3.out.size (fun k hk e => by omega))⟩
  case rest =>
   obtain ⟨hC4, hR4, hB4⟩ := hcut
   generalize wc = w4 at *
   have CP := Lib.hid hC4
   have CQ := Lib.hid hR4
   have B4 := Lib.hid hB4
   clear hC4 hR4 hB4 HL0 CO3 CA3 CR3 B3 a0
   have hpr : pr ≠ po := hpo
   have C9 : Hid (Cl (w4.setRow pr L.toArray) pr L 36) := by
    have := CQ.out.row L.toArray
    rwa [List.toList_toArray] at this
   have K9 : Hid (Keeps (fun j => j = pr) w4 (w4.setRow pr L.toArray)) := Keeps.row _ _ _ rfl
   have R4 := Lib.hid CP.out.range
   have HU := Lib.hid Tryz.underlying36
   go_wp2_with (first
    | (refine wpList_load_mid (by rfl) _ _ (by rfl) po 0 (by rfl) L _ R4.out HU.out (by rfl) HL38.out ?_)
    | (refine wpList_store_row (by rfl) _ _ _ (by rfl) pr L.toArray (by rfl) (by rfl) 36 _ CQ.out HL39.out HLSZ.out HLON.out ?_))
   have BF : Below w.heap.size w (w4.setRow pr L.toArray) := B4.out.trans (K9.out.toBelow B4.out.size (fun k hk e => by omega))
   refine bodyPost_ret (results_cl rfl _ _ _ _ _ _ rfl C9.out Tryz.underlying36 rfl HL38.out) rfl ?_
   exact ⟨rfl, BF⟩
end Go.Proofs.YtjfpbeccpcbpcaaGreatDoor
namespace Go.Proofs.YtjfpbeccpcbpcaaGreatDoor
open Go.RowKit
set_option maxRecDepth 20000 in
set_option maxHeartbeats 12800000 in
theorem only_k9 (m : Wi.Msg) (v : MsgV) (w : World) (h : MsgAt w m v) (hk : m.kind = 9) :
  Calls Tryz.prog 34 #[msgV m v] w fun e w' => e = .returned (msgV (Wi.only m) (onlyV m v)) ∧ Below w.heap.size w w' := by
 obtain ⟨s0, c0, hh0⟩ := h.chain.form
 obtain ⟨s1, c1, hh1⟩ := h.lives.form
 obtain ⟨s2, c2, hh2⟩ := h.brecs.form
 obtain ⟨s3, c3, hh3⟩ := h.table.form
 obtain ⟨s4, c4, hh4⟩ := h.qrecs.form
 obtain ⟨s5, c5, hh5⟩ := h.parts.form
 obtain ⟨s6, c6, hh6⟩ := h.arecs.form
 obtain ⟨v0, v1, v2, v3, v4, v5, v6⟩ := v
 dsimp only at hh0 hh1 hh2 hh3 hh4 hh5 hh6
 subst hh0 hh1 hh2 hh3 hh4 hh5 hh6
 obtain ⟨x_kind, x_frm, x_to, x_part, x_ep, x_off, x_high, x_life, x_pep, x_chain, x_learner, x_lives, x_batch, x_table, x_req, x_resp⟩ := m
 dsimp only at *
 clear h
 subst hk
 obtain ⟨L, hL⟩ : ∃ L, L = msgC (Wi.only ⟨9, x_frm, x_to, x_part, x_ep, x_off, x_high, x_life, x_pep, x_chain, x_learner, x_lives, x_batch, x_table, x_req, x_resp⟩) (onlyV ⟨9, x_frm, x_to, x_part, x_ep, x_off, x_high, x_life, x_pep, x_chain, x_learner, x_lives, x_batch, x_table, x_req, x_resp⟩ ⟨.slice s0 x_chain.length c0, .slice s1 x_lives.length c1, .slice s2 x_batch.recs.length c2, .slice s3 x_table.length c3, .slice s4 x_req.recs.length c4, .slice s5 x_resp.parts.length c5, .slice s6 x_resp.recs.length c6⟩) := ⟨_, rfl⟩
 have HLV : Hid (msgV (Wi.only ⟨9, x_frm, x_to, x_part, x_ep, x_off, x_high, x_life, x_pep, x_chain, x_learner, x_lives, x_batch, x_table, x_req, x_resp⟩) (onlyV ⟨9, x_frm, x_to, x_part, x_ep, x_off, x_high, x_life, x_pep, x_chain, x_learner, x_lives, x_batch, x_table, x_req, x_resp⟩ ⟨.slice s0 x_chain.length c0, .slice s1 x_lives.length c1, .slice s2 x_batch.recs.length c2, .slice s3 x_table.length c3, .slice s4 x_req.recs.length c4, .slice s5 x_resp.parts.length c5, .slice s6 x_resp.recs.length c6⟩) = .agg L.toArray) := by rw [Hid, hL, msgV]
 rw [HLV.out]
 have HL0 := Lib.hid hL
 have HL38 : Hid ((Tryz.prog.info? 36).map (·.size) = some L.length) := by rw [Hid, hL, show ∀ a b, (msgC a b).length = 38 from fun _ _ => rfl]; kernel_rfl
 have HL39 : Hid ((Tryz.prog.info? 36).map (·.size) = some (L.toArray : Array Value).size) := by rw [Hid, List.size_toArray, hL, show ∀ a b, (msgC a b).length = 38 from fun _ _ => rfl]; kernel_rfl
 have HLON : Hid ((L.toArray : Array Value).all (·.oneCell') = true) := by rw [Hid, hL]; simp [msgC, onlyV, Value.oneCell']
 have HLSZ : Hid (((zt0).toArray : Array Value).size = (L.toArray : Array Value).size) := by rw [Hid, hL]; rfl
 clear hL HLV
 unfold msgV msgC
 dsimp only
 go_enter Tryz.func34, Tryz.ntmps34
 obtain ⟨w1, hw1, CA, CR, B1⟩ := twoBox (w := w) (.int .i64 9 :: .int .i64 x_frm :: .int .i64 x_to :: .int .i64 x_part :: .int .i64 x_ep :: .int .i64 x_off :: .int .i64 x_high :: .int .i64 x_life :: .int .i64 x_pep :: .slice s0 x_chain.length c0 :: .int .i64 x_learner :: .slice s1 x_lives.length c1 :: .int .i64 x_batch.base :: .int .i64 x_batch.count :: .int .i64 x_batch.prod :: .int .i64 x_batch.seq :: .int .i64 x_batch.time :: .slice s2 x_batch.recs.length c2 :: .slice s3 x_table.length c3 :: .int .i64 x_req.client :: .int .i64 x_req.n :: .int .i64 x_req.kind :: .int .i64 x_req.part :: .int .i64 x_req.seq :: .int .i64 x_req.off :: .int .i64 x_req.max :: .int .i64 x_req.gen :: .string ⟨x_req.group.toArray⟩ :: .string ⟨x_req.member.toArray⟩ :: .slice s4 x_req.recs.length c4 :: .int .i64 x_resp.client :: .int .i64 x_resp.n :: .int .i64 x_resp.code :: .int .i64 x_resp.off :: .int .i64 x_resp.high :: .int .i64 x_resp.gen :: .slice s5 x_resp.parts.length c5 :: .slice s6 x_resp.recs.length c6 :: []) (zt0) 36
 go_upto_region 1 with (fail)
 first | rw [hw1] | skip
 clear hw1
 have hs1 : w.heap.size + 2 ≤ w1.heap.size := by have := CR.out.lt; omega
 have hsw : w.heap.size + 1 ≠ w1.heap.size := by omega
 have hsw2 : w.heap.size ≤ w1.heap.size := by omega
 obtain ⟨pr, hpr⟩ : ∃ pr, pr = w.heap.size + 1 := ⟨_, rfl⟩
 rw [← hpr] at CR hsw ⊢
 obtain ⟨pa, hpa⟩ : ∃ pa, pa = w.heap.size := ⟨_, rfl⟩
 rw [← hpa] at CA
 first | rw [← hpa] | skip
 have HPA := Lib.hid hpa
 have hprw : w.heap.size ≤ pr := by omega
 clear hpr hs1 hpa
 have a0 := CA.out.cell 0
 have a1 := CA.out.cell 1
 have a2 := CA.out.cell 2
 simp only [List.getElem?_cons_zero, List.getElem?_cons_succ] at a0 a1 a2
 have HZC : Hid ((w1.alloc (.cells (zt0).toArray 36)).heap[w1.heap.size]? = some (.cells (zt0).toArray 36 (0, 0))) := Cl.new w1 (zt0) _
 have CO : Hid (Cl ((w1.alloc (.cells (zt0).toArray 36)).setRow w1.heap.size (.int .i64 9 :: .int .i64 x_frm :: .int .i64 x_to :: zt3).toArray) w1.heap.size (.int .i64 9 :: .int .i64 x_frm :: .int .i64 x_to :: zt3) 36) := Cl.row (Cl.new w1 (zt0) _) _
 have b2 : Hid (Below w1.heap.size w1 ((w1.alloc (.cells (zt0).toArray 36)).setRow w1.heap.size (.int .i64 9 :: .int .i64 x_frm :: .int .i64 x_to :: zt3).toArray)) := ((Below.refl _ _).alloc (Nat.le_refl _) _).trans ((Keeps.row (S := fun j => j = w1.heap.size) _ w1.heap.size _ rfl).toBelow (by simp) (fun k hk e => by omega))
 have HI38 := Lib.hid (show (Tryz.prog.info? 36).map (·.size) = some ((.int .i64 9 :: .int .i64 x_frm :: .int .i64 x_to :: zt3).toArray : Array Value).size by kernel_rfl)
 have HONE : Hid (((.int .i64 9 :: .int .i64 x_frm :: .int .i64 x_to :: zt3).toArray : Array Value).all (·.oneCell') = true) := by simp [Hid, Value.oneCell']
 have HSZ : Hid (((zt0).toArray : Array Value).size = ((.int .i64 9 :: .int .i64 x_frm :: .int .i64 x_to :: zt3).toArray : Array Value).size) := rfl
 go_upto_region 2 with (refine wpList_store_row (by rfl) _ _ _ (by rfl) w1.heap.size (.int .i64 9 :: .int .i64 x_frm :: .int .i64 x_to :: zt3).toArray (by rfl) (by rfl) 36 _ HZC.out HI38.out HSZ.out HONE.out ?_)
 generalize (w1.alloc (.cells (zt0).toArray 36)).setRow w1.heap.size (.int .i64 9 :: .int .i64 x_frm :: .int .i64 x_to :: zt3).toArray = w2 at *
 clear HZC HI38 HONE HSZ a0 a1 a2
 have hpo : ¬ pr = w1.heap.size := hsw
 have hpo2 : ¬ pa = w1.heap.size := by have := CA.out.lt; omega
 have CA2 := Lib.hid (CA.out.below b2.out)
 have CR2 := Lib.hid (CR.out.below b2.out)
 have B2 := Lib.hid (bt B1.out b2.out)
 generalize w1.heap.size = po at *
 clear CA CR B1 b2 hsw
 have a0 := CA2.out.cell 0
 simp only [List.getElem?_cons_zero, List.getElem?_cons_succ] at a0
 go_upto_if 13 with (fail)
 go_cut [] (fun wz => Cl wz po (.int .i64 9 :: .int .i64 x_frm :: .int .i64 x_to :: .int .i64 x_part :: .int .i64 x_ep :: zt5) 36 ∧ Keeps (fun j => j = po) w2 wz)
 case first =>
  have a3 := CA2.out.cell 3
  have a4 := CA2.out.cell 4
  have o3 := CO.out.cell 3
  have o4 := CO.out.cell 4
  have f3 := CO.out.free 3
  have f4 := CO.out.free 4
  simp only [List.getElem?_cons_zero, List.getElem?_cons_succ] at a3 a4 o3 o4
  have C9 : Hid (Cl ((w2.setCell ⟨po, 3, none⟩ (.int .i64 x_part)).setCell ⟨po, 4, none⟩ (.int .i64 x_ep)).drew po (.int .i64 9 :: .int .i64 x_frm :: .int .i64 x_to :: .int .i64 x_part :: .int .i64 x_ep :: zt5) 36) := Cl.drewN (Cl.set (Cl.set CO.out 3 (.int .i64 x_part)) 4 (.int .i64 x_ep)) 1
  have K9 : Hid (Keeps (fun j => j = po) w2 ((w2.setCell ⟨po, 3, none⟩ (.int .i64 x_part)).setCell ⟨po, 4, none⟩ (.int .i64 x_ep)).drew) := (((Keeps.refl (fun j => j = po) w2).trans (Keeps.setCell (fun j => j = po) _ ⟨po, 3, none⟩ (.int .i64 x_part) rfl)).trans (Keeps.setCell (fun j => j = po) _ ⟨po, 4, none⟩ (.int .i64 x_ep) rfl)).trans (Keeps.drew _ _)
  go_wp2
  go_region
  go_wp2
  go_meet
  case rel => exact ⟨C9.out, K9.out⟩
 case rest =>
  obtain ⟨hC3, hK3⟩ := hcut
  generalize wc = w3 at *
  have CO3 := Lib.hid hC3
  have CA3 := Lib.hid (Cl.keep CA2.out hK3 hpo2)
  have CR3 := Lib.hid (Cl.keep CR2.out hK3 hpo)
  have B3 : Hid (Below w.heap.size w w3) := B2.out.trans (hK3.toBelow B2.out.size (fun k hk e => by omega))
  clear hC3 hK3 CA2 CR2 B2 CO a0
  have a0 := CA3.out.cell 0
  simp only [List.getElem?_cons_zero, List.getElem?_cons_succ] at a0
  go_upto_block 0 with (fail)
  go_cut [] (fun wz => Cl wz po L 36 ∧ Cl wz pr (zt0) 36 ∧ Below w.heap.size w wz)
  case first =>
   clear a0 HL38 HL39 HLON HLSZ
   have HL : Hid (L = (.int .i64 9 :: .int .i64 x_frm :: .int .i64 x_to :: .int .i64 x_part :: .int .i64 x_ep :: .int .i64 x_off :: zt6)) := by
    rw [Hid, HL0.out]
    rfl
   clear HL0
   have CO := Lib.hid CO3.out
   have a5 := CA3.out.cell 5
   have o5 := CO.out.cell 5
   have f5 := CO.out.free 5
   simp only [List.getElem?_cons_zero, List.getElem?_cons_succ] at a5 o5
   obtain ⟨w9, hw9, C9, K9⟩ : ∃ w9, (w3.setCell ⟨po, 5, none⟩ (.int .i64 x_off)) = w9 ∧ Hid (Cl w9 po (.int .i64 9 :: .int .i64 x_frm :: .int .i64 x_to :: .int .i64 x_part :: .int .i64 x_ep :: .int .i64 x_off :: zt6) 36) ∧ Hid (Keeps (fun j => j = po) w3 w9) :=
    ⟨_, rfl, (Cl.set CO.out 5 (.int .i64 x_off)), ((Keeps.refl (fun j => j = po) w3).trans (Keeps.setCell (fun j => j = po) _ ⟨po, 5, none⟩ (.int .i64 x_off) rfl))⟩
   clear CO CO3
   have a0 := CA3.out.cell 0
   simp only [List.getElem?_cons_zero] at a0
   go_wp2
   first | rw [hw9] | skip
   go_meet
   case rel => exact ⟨by rw [HL.out]; exact C9.out, Cl.keep CR3.out K9.out hpo, B3.out.trans (K9.out.toBelow B3.out.size (fun k hk e => by omega))⟩
  case rest =>
   obtain ⟨hC4, hR4, hB4⟩ := hcut
   generalize wc = w4 at *
   have CP := Lib.hid hC4
   have CQ := Lib.hid hR4
   have B4 := Lib.hid hB4
   clear hC4 hR4 hB4 HL0 CO3 CA3 CR3 B3 a0
   have hpr : pr ≠ po := hpo
   have C9 : Hid (Cl (w4.setRow pr L.toArray) pr L 36) := by
    have := CQ.out.row L.toArray
    rwa [List.toList_toArray] at this
   have K9 : Hid (Keeps (fun j => j = pr) w4 (w4.setRow pr L.toArray)) := Keeps.row _ _ _ rfl
   have R4 := Lib.hid CP.out.range
   have HU := Lib.hid Tryz.underlying36
   go_wp2_with (first
    | (refine wpList_load_mid (by rfl) _ _ (by rfl) po 0 (by rfl) L _ R4.out HU.out (by rfl) HL38.out ?_)
    | (refine wpList_store_row (by rfl) _ _ _ (by rfl) pr L.toArray (by rfl) (by rfl) 36 _ CQ.out HL39.out HLSZ.out HLON.out ?_))
   have BF : Below w.heap.size w (w4.setRow pr L.toArray) := B4.out.trans (K9.out.toBelow B4.out.size (fun k hk e => by omega))
   refine bodyPost_ret (results_cl rfl _ _ _ _ _ _ rfl C9.out Tryz.underlying36 rfl HL38.out) rfl ?_
   exact ⟨rfl, BF⟩
end Go.Proofs.YtjfpbeccpcbpcaaGreatDoor
namespace Go.Proofs.YtjfpbeccpcbpcaaGreatDoor
open Go.RowKit
theorem only_any (m : Wi.Msg) (v : MsgV) (w : World) (h : MsgAt w m v) (hk : 1 ≤ m.kind ∧ m.kind ≤ 9) :
  Calls Tryz.prog 34 #[msgV m v] w fun e w' => e = .returned (msgV (Wi.only m) (onlyV m v)) ∧ Below w.heap.size w w' := by
 obtain ⟨h1, h9⟩ := hk
 rcases (show m.kind = 1 ∨ m.kind = 2 ∨ m.kind = 3 ∨ m.kind = 4 ∨ m.kind = 5 ∨ m.kind = 6 ∨ m.kind = 7 ∨ m.kind = 8 ∨ m.kind = 9 by omega) with e | e | e | e | e | e | e | e | e
 ·exact only_k1 m v w h e
 ·exact only_k2 m v w h e
 ·exact only_k3 m v w h e
 ·exact only_k4 m v w h e
 ·exact only_k5 m v w h e
 ·exact only_k6 m v w h e
 ·exact only_k7 m v w h e
 ·exact only_k8 m v w h e
 ·exact only_k9 m v w h e
end Go.Proofs.YtjfpbeccpcbpcaaGreatDoor
namespace Go.Proofs.YtjfpbeccpcbpcaaGreatDoor.Wi
open Bd (St bInt bText sInt sText sSign sMore sDone inR)
end Go.Proofs.YtjfpbeccpcbpcaaGreatDoor.Wi
namespace Go.Proofs.YtjfpbeccpcbpcaaGreatDoor.Wi
open Bd (St bInt bText sInt sText sSign sMore sDone inR)
theorem inB_iff {n a b : Int} : inB n a b = true ↔ a ≤ n ∧ n ≤ b := by simp [inB]
theorem areB_iff {a b : Int} {l : List Int} : areB a b l = true ↔ ∀ x ∈ l, a ≤ x ∧ x ≤ b := by
 unfold areB
 rw [List.all_eq_true]
 exact ⟨fun h x hx => inB_iff.1 (h x hx), fun h x hx => inB_iff.2 (h x hx)⟩
theorem unitB_iff {n : Int} : unitB n = true ↔ (0 ≤ n ∧ n ≤ 5) ∨ (11 ≤ n ∧ n ≤ 14) := by simp [unitB, inB]
theorem inR_of {n a b : Int} (h : a ≤ n ∧ n ≤ b) (ha : -9223372036854775808 ≤ a) (hb : b ≤ 9223372036854775807) : inR n := ⟨by omega, by omega⟩
theorem rising_all {l : List Cr.Rec} : ∀ {p : Int}, risingB p l = true → ∀ x ∈ l, (0 ≤ x.off ∧ x.off ≤ 1099511627776) ∧ Cr.isRec x = true := by
 induction l with
 | nil => intro p _ x hx; cases hx
 | cons y l ih =>
  intro p h x hx
  simp only [risingB, Bool.and_eq_true] at h
  obtain ⟨h1, h2, h3, h4⟩ := h
  rcases List.mem_cons.1 hx with rfl | hx
  ·refine ⟨inB_iff.1 h1, ?_⟩
   simpa [Cr.fits] using h2
  ·exact ih h4 x hx
theorem fits_all {l : List Cr.Rec} (h : Cr.fits l = true) : l.length ≤ 8 ∧ ∀ x ∈ l, Cr.isRec x = true := by
 simp only [Cr.fits, Bool.and_eq_true, decide_eq_true_eq, List.all_eq_true] at h
 exact ⟨h.2.1, h.2.2⟩
theorem reqB_parts {q : Req} (h : reqB q = true) : (1 ≤ q.client ∧ q.client ≤ 4) ∧ (1 ≤ q.kind ∧ q.kind ≤ 8) ∧ (0 ≤ q.n ∧ q.n ≤ 1099511627776) ∧ (0 ≤ q.part ∧ q.part ≤ 1099511627776) ∧ (0 ≤ q.seq ∧ q.seq ≤ 1099511627776) ∧ (0 ≤ q.max ∧ q.max ≤ 1099511627776) ∧ (0 ≤ q.gen ∧ q.gen ≤ 1099511627776) ∧
  (-1099511627776 ≤ q.off ∧ q.off ≤ 1099511627776) ∧ q.group.length ≤ 8 ∧ q.member.length ≤ 8 ∧ q.recs.length ≤ 8 ∧ ∀ x ∈ q.recs, x.off = 0 ∧ Cr.isRec x = true := by
 simp only [reqB, Bool.and_eq_true, inB_iff, areB_iff, List.mem_cons, List.not_mem_nil, or_false, forall_eq_or_imp, forall_eq, decide_eq_true_eq, List.all_eq_true, Bool.or_eq_true] at h
 obtain ⟨h1, h2, ⟨h3, h4, h5, h6, h7⟩, h8, h9, h10, h11, h12⟩ := h
 refine ⟨h1, h2, h3, h4, h5, h6, h7, h8, h10, h11, ?_, ?_⟩
 ·rcases h12 with h | h
  ·omega
  ·exact (fits_all h).1
 ·intro x hx
  refine ⟨h9 x hx, ?_⟩
  rcases h12 with h | h
  ·rw [List.length_eq_zero_iff.1 h] at hx; cases hx
  ·exact (fits_all h).2 x hx
theorem respB_parts {a : Resp} (h : respB a = true) : (1 ≤ a.client ∧ a.client ≤ 4) ∧ (0 ≤ a.code ∧ a.code ≤ 99) ∧ (0 ≤ a.n ∧ a.n ≤ 1099511627776) ∧ (0 ≤ a.off ∧ a.off ≤ 1099511627776) ∧ (0 ≤ a.high ∧ a.high ≤ 1099511627776) ∧ (0 ≤ a.gen ∧ a.gen ≤ 1099511627776) ∧
  a.parts.length ≤ 4 ∧ (∀ x ∈ a.parts, 0 ≤ x ∧ x ≤ 3) ∧ a.recs.length ≤ 16 ∧ ∀ x ∈ a.recs, (0 ≤ x.off ∧ x.off ≤ 1099511627776) ∧ Cr.isRec x = true := by
 simp only [respB, Bool.and_eq_true, inB_iff, areB_iff, List.mem_cons, List.not_mem_nil, or_false, forall_eq_or_imp, forall_eq, decide_eq_true_eq] at h
 obtain ⟨h1, h2, ⟨h3, h4, h5, h6⟩, h7, h8, h9, h10⟩ := h
 exact ⟨h1, h2, h3, h4, h5, h6, h7, h8, h9, rising_all h10⟩
theorem placeB_parts {m : Msg} (h : placeB m = true) : (0 ≤ m.pep ∧ m.pep ≤ 1073741824) ∧ (0 ≤ m.learner ∧ m.learner ≤ 5) ∧ m.chain.length ≤ 5 ∧ (∀ x ∈ m.chain, 1 ≤ x ∧ x ≤ 5) ∧ m.lives.length ≤ 5 ∧ ∀ x ∈ m.lives, (1 ≤ x.1 ∧ x.1 ≤ 5) ∧ (0 ≤ x.2 ∧ x.2 ≤ 1073741824) := by
 simp only [placeB, Bool.and_eq_true, inB_iff, areB_iff, decide_eq_true_eq, List.all_eq_true, lifeB] at h
 obtain ⟨h1, h2, h3, h4, h5, h6⟩ := h
 exact ⟨h1, h2, h3, h4, h5, h6⟩
theorem isNum_iff {n : Int} : Cr.isNum n = true ↔ 0 ≤ n ∧ n ≤ 1099511627776 := by simp [Cr.isNum]
theorem row_all {l : List Slot} : ∀ {p : Option Slot}, rowB p l = true → ∀ y ∈ l, (0 ≤ y.1 ∧ y.1 ≤ 1099511627776) ∧ (0 ≤ y.2.1 ∧ y.2.1 ≤ 1099511627776) ∧ (0 ≤ y.2.2 ∧ y.2.2 ≤ 1099511627776) := by
 induction l with
 | nil => intro p _ x hx; cases hx
 | cons y l ih =>
  intro p h x hx
  simp only [rowB, slotB, Bool.and_eq_true, isNum_iff] at h
  obtain ⟨⟨h1, h2, h3, _⟩, _, h4⟩ := h
  rcases List.mem_cons.1 hx with rfl | hx
  ·exact ⟨h1, h2, h3⟩
  ·exact ih h4 x hx
theorem seens_all {l : List Seen} : ∀ {p : Option Int}, seensB p l = true → ∀ x ∈ l, (0 ≤ x.1 ∧ x.1 ≤ 1099511627776) ∧ x.2.length ≤ 5 ∧ ∀ y ∈ x.2, (0 ≤ y.1 ∧ y.1 ≤ 1099511627776) ∧ (0 ≤ y.2.1 ∧ y.2.1 ≤ 1099511627776) ∧ (0 ≤ y.2.2 ∧ y.2.2 ≤ 1099511627776) := by
 induction l with
 | nil => intro p _ x hx; cases hx
 | cons y l ih =>
  intro p h x hx
  simp only [seensB, slotsB, Bool.and_eq_true, isNum_iff, decide_eq_true_eq] at h
  obtain ⟨h1, _, ⟨h2, _, h3⟩, h4⟩ := h
  rcases List.mem_cons.1 hx with rfl | hx
  ·exact ⟨h1, h3, row_all h2⟩
  ·exact ih h4 x hx
theorem inR_num {n : Int} (h : 0 ≤ n ∧ n ≤ 1099511627776) : inR n := inR_of h (by omega) (by omega)
theorem tableB_all {t : List Seen} (h : tableB t = true) : t.length ≤ 64 ∧ ∀ x ∈ t, (0 ≤ x.1 ∧ x.1 ≤ 1099511627776) ∧ x.2.length ≤ 5 ∧ ∀ y ∈ x.2, (0 ≤ y.1 ∧ y.1 ≤ 1099511627776) ∧ (0 ≤ y.2.1 ∧ y.2.1 ≤ 1099511627776) ∧ (0 ≤ y.2.2 ∧ y.2.2 ≤ 1099511627776) := by
 simp only [tableB, Bool.and_eq_true, decide_eq_true_eq] at h
 exact ⟨h.2, seens_all h.1⟩
/-! ### How long -/
theorem itoa_len {n : Int} (h0 : -10000000000000 < n) (h1 : n < 10000000000000) : (Lib.itoa n).length ≤ 14 := by
 by_cases hn : n < 0
 ·have e : Lib.itoa n = 45 :: Lib.decDigits n.natAbs := by unfold Lib.itoa; rw [if_pos hn]
  have hd := Cr.nDigits_le_pow 13 n.natAbs (by decide) (by have := (show (10 : Nat) ^ 13 = 10000000000000 by decide); omega)
  rw [e, List.length_cons, Lib.decDigits_length]
  omega
 ·have := (Cr.bInt_len (n := n) (by omega) h1).2
  simp only [bInt, List.length_cons, List.length_append, List.length_nil] at this
  omega
theorem bInt_le {n : Int} (h0 : -10000000000000 < n) (h1 : n < 10000000000000) : (bInt n).length ≤ 16 := by
 have := itoa_len h0 h1
 simp only [bInt, List.length_cons, List.length_append, List.length_nil]
 omega
theorem bText_le {t : List UInt8} (h : t.length < 100000) : (bText t).length ≤ 6 + t.length := by
 have e : Lib.itoa (t.length : Int) = Lib.decDigits t.length := by unfold Lib.itoa; rw [if_neg (by omega)]; rfl
 have hd := Cr.nDigits_le_pow 5 t.length (by decide) (by omega)
 simp only [bText, List.length_cons, List.length_append, e, Lib.decDigits_length]
 omega
theorem bText_8 {t : List UInt8} (h : t.length ≤ 64) : (bText t).length ≤ 70 := by
 have := bText_le (t := t) (by omega)
 omega
theorem flat_le {α : Type} {e : α → List UInt8} {k : Nat} (l : List α) (h : ∀ x ∈ l, (e x).length ≤ k) : ((l.map e).flatten).length ≤ l.length * k := by
 induction l with
 | nil => simp
 | cons x l ih =>
  have h1 := h x (by simp)
  have h2 := ih (fun y hy => h y (List.mem_cons_of_mem _ hy))
  simp only [List.map_cons, List.flatten_cons, List.length_append, List.length_cons, Nat.succ_mul]
  omega
theorem listB_len (b : List UInt8) : (listB b).length = b.length + 2 := by simp [listB]
theorem encRec_le {x : Cr.Rec} (hx : Cr.isRec x = true) (h0 : 0 ≤ x.off) (h1 : x.off ≤ 1099511627776) : (encRec x).length ≤ 130 := by
 have := Cr.encRec_len hx h0 (by omega)
 simp only [Cr.encRec, encRec, List.length_cons, List.length_append, List.length_nil] at this ⊢
 omega
theorem encSlot_le {y : Slot} (h1 : 0 ≤ y.1 ∧ y.1 ≤ 1099511627776) (h2 : 0 ≤ y.2.1 ∧ y.2.1 ≤ 1099511627776) (h3 : 0 ≤ y.2.2 ∧ y.2.2 ≤ 1099511627776) : (encSlot y).length ≤ 47 := by
 have a := (Cr.bInt_len (n := y.1) (by omega) (by omega)).2
 have b := (Cr.bInt_len (n := y.2.1) (by omega) (by omega)).2
 have c := (Cr.bInt_len (n := y.2.2) (by omega) (by omega)).2
 simp only [encSlot, listB_len, List.length_append]
 omega
theorem encTable_le {t : List Seen} (h : tableB t = true) : (encTable t).length ≤ 16130 := by
 obtain ⟨hl, ha⟩ := tableB_all h
 have := flat_le (e := encSeen) (k := 252) t (fun x hx => by
  obtain ⟨h1, h2, h3⟩ := ha x hx
  have a := (Cr.bInt_len (n := x.1) (by omega) (by omega)).2
  have b := flat_le (e := encSlot) (k := 47) x.2 (fun y hy => encSlot_le (h3 y hy).1 (h3 y hy).2.1 (h3 y hy).2.2)
  simp only [encSeen, listB_len, List.length_append]
  omega)
 simp only [encTable, listB_len]
 omega
theorem good_first {m : Msg} (h : good m = true) : (1 ≤ m.kind ∧ m.kind ≤ 9) ∧ (0 ≤ m.frm ∧ m.frm ≤ 14) ∧ (0 ≤ m.to ∧ m.to ≤ 14) ∧ (0 ≤ m.part ∧ m.part ≤ 3) ∧ (0 ≤ m.ep ∧ m.ep ≤ 1073741824) ∧ (0 ≤ m.life ∧ m.life ≤ 1073741824) ∧ (-1 ≤ m.off ∧ m.off ≤ 1099511627776) ∧ (-1 ≤ m.high ∧ m.high ≤ 1099511627776) ∧ m = only m ∧ lastB m = true := by
 simp only [good, first, Bool.and_eq_true, inB_iff, unitB_iff, areB_iff, List.mem_cons, List.not_mem_nil, or_false, forall_eq_or_imp, forall_eq, same_iff] at h
 obtain ⟨⟨h1, h2, h3, h4, ⟨h5, h6⟩, ⟨h7, h8⟩, h9⟩, h10⟩ := h
 exact ⟨h1, by omega, by omega, h4, h5, h6, h7, h8, h9, h10⟩
theorem tailL_le {m : Msg} (h : good m = true) : (tailL m).flatten.length ≤ 16200 := by
 obtain ⟨hk, _, _, _, _, hl, ho, hh, _, hb⟩ := good_first h
 unfold tailL
 unfold lastB at hb
 by_cases k1 : m.kind = 1 ∨ m.kind = 7
 ·rw [if_pos k1] at hb ⊢
  obtain ⟨p1, p2, p3, p4, p5, p6, p7, p8, p9, p10, p11, p12⟩ := reqB_parts hb
  have r := flat_le (e := encRec) (k := 130) m.req.recs (fun x hx => encRec_le (p12 x hx).2 (by rw [(p12 x hx).1]; decide) (by rw [(p12 x hx).1]; decide))
  have n := flat_le (e := bInt) (k := 16) (reqNumsL m.req) (fun x hx => by
   simp only [reqNumsL, List.mem_cons, List.not_mem_nil, or_false] at hx
   exact bInt_le (by omega) (by omega))
  have g := bText_8 (t := m.req.group) (by omega)
  have g2 := bText_8 (t := m.req.member) (by omega)
  simp only [reqNumsL, List.length_cons, List.length_nil] at n
  simp only [reqNumsL, List.flatten_append, List.length_append, List.flatten_cons, List.flatten_nil, List.length_nil, encRecs, listB_len]
  omega
 ·rw [if_neg k1] at hb ⊢
  by_cases k2 : m.kind = 2
  ·rw [if_pos k2] at hb ⊢
   obtain ⟨p1, p2, p3, p4, p5, p6, p7, p8, p9, p10⟩ := respB_parts hb
   have r := flat_le (e := encRec) (k := 130) m.resp.recs (fun x hx => encRec_le (p10 x hx).2 (p10 x hx).1.1 (p10 x hx).1.2)
   have n := flat_le (e := bInt) (k := 16) (respNumsL m.resp) (fun x hx => by
    simp only [respNumsL, List.mem_cons, List.not_mem_nil, or_false] at hx
    exact bInt_le (by omega) (by omega))
   have q := flat_le (e := bInt) (k := 16) m.resp.parts (fun x hx => by have := p8 x hx; exact bInt_le (by omega) (by omega))
   simp only [respNumsL, List.length_cons, List.length_nil] at n
   simp only [respNumsL, List.flatten_append, List.length_append, List.flatten_cons, List.flatten_nil, List.length_nil, encRecs, encInts, listB_len]
   omega
  ·rw [if_neg k2] at hb ⊢
   have bl := bInt_le (n := m.life) (by omega) (by omega)
   have bo := bInt_le (n := m.off) (by omega) (by omega)
   have bh := bInt_le (n := m.high) (by omega) (by omega)
   by_cases k3 : m.kind = 3
   ·rw [if_pos k3]; simp only [List.flatten_cons, List.flatten_nil, List.length_append, List.length_nil]; omega
   ·rw [if_neg k3]
    by_cases k4 : m.kind = 4
    ·rw [if_pos k4] at hb ⊢
     obtain ⟨p1, p2, p3, p4, p5, p6⟩ := placeB_parts hb
     have a := bInt_le (n := m.pep) (by omega) (by omega)
     have b := bInt_le (n := m.learner) (by omega) (by omega)
     have c := flat_le (e := bInt) (k := 16) m.chain (fun x hx => by have := p4 x hx; exact bInt_le (by omega) (by omega))
     have fl : (flatLives m.lives).length = m.lives.length * 2 := by
      unfold flatLives
      induction m.lives with
      | nil => rfl
      | cons x l ih => simp only [List.flatMap_cons, List.length_append, List.length_cons, List.length_nil] at ih ⊢; omega
     have d := flat_le (e := bInt) (k := 16) (flatLives m.lives) (fun x hx => by
      obtain ⟨y, hy, hx⟩ := List.mem_flatMap.1 hx
      have := p6 y hy
      simp only [List.mem_cons, List.not_mem_nil, or_false] at hx
      exact bInt_le (by omega) (by omega))
     simp only [List.length_append, List.flatten_cons, List.flatten_nil, List.length_nil, encInts, listB_len]
     omega
    ·rw [if_neg k4] at hb ⊢
     by_cases k5 : m.kind = 5
     ·rw [if_pos k5] at hb ⊢
      obtain ⟨_, e1, e2⟩ := Cr.enc_len hb
      have := bText_le (t := Cr.enc m.batch) (by omega)
      simp only [List.flatten_cons, List.flatten_nil, List.length_append, List.length_nil]
      omega
     ·rw [if_neg k5] at hb ⊢
      by_cases k6 : m.kind = 6
      ·rw [if_pos k6]; simp only [List.flatten_cons, List.flatten_nil, List.length_append, List.length_nil]; omega
      ·rw [if_neg k6]
       by_cases k8 : m.kind = 8
       ·rw [if_pos k8] at hb ⊢
        have e1 := encTable_le hb
        have := bText_le (t := encTable m.table) (by omega)
        simp only [List.flatten_cons, List.flatten_nil, List.length_append, List.length_nil]
        omega
       ·rw [if_neg k8]
        by_cases k9 : m.kind = 9
        ·rw [if_pos k9]; simp only [List.flatten_cons, List.flatten_nil, List.length_append, List.length_nil]; omega
        ·omega
theorem enc_le {m : Msg} (h : good m = true) : (enc m).length ≤ 16384 := by
 have ht := tailL_le h
 obtain ⟨hk, hf, hto, hp, he, hl, ho, hh, _, hb⟩ := good_first h
 have a := bInt_le (n := m.kind) (by omega) (by omega)
 have b := bInt_le (n := m.frm) (by omega) (by omega)
 have c := bInt_le (n := m.to) (by omega) (by omega)
 have d := bInt_le (n := m.part) (by omega) (by omega)
 have e := bInt_le (n := m.ep) (by omega) (by omega)
 simp only [enc, fieldsL, listB_len, List.flatten_append, List.length_append, headL]
 split <;> simp only [List.map_cons, List.map_nil, List.flatten_cons, List.flatten_nil, List.length_append, List.length_nil] <;> omega
end Go.Proofs.YtjfpbeccpcbpcaaGreatDoor.Wi
