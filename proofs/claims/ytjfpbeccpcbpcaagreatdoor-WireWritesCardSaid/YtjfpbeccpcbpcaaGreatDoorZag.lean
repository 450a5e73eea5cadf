/-
  Wo3 / Qs / Qw: texts of one proof, one behind the other.
  Conditions: none of its own.
-/
import Derived.Test.YtjfpbeccpcbpcaaGreatDoorZab
import Derived.Test.YtjfpbeccpcbpcaaGreatDoorZaf
import Derived.Deep.MidRow
import Derived.Deep.Quiet
import Derived.StillTail
set_option linter.unusedVariables false
set_option linter.unusedSimpArgs false
namespace Go.Proofs.YtjfpbeccpcbpcaaGreatDoor
open Go.RowKit
abbrev zt0 : List Value := .int .i64 0 :: .int .i64 0 :: .int .i64 0 :: .int .i64 0 :: .int .i64 0 :: .int .i64 0 :: .int .i64 0 :: .int .i64 0 :: .int .i64 0 :: .slice none 0 0 :: .int .i64 0 :: .slice none 0 0 :: .int .i64 0 :: .int .i64 0 :: .int .i64 0 :: .int .i64 0 :: .int .i64 0 :: .slice none 0 0 :: .slice none 0 0 :: .int .i64 0 :: .int .i64 0 :: .int .i64 0 :: .int .i64 0 :: .int .i64 0 :: .int .i64 0 :: .int .i64 0 :: .int .i64 0 :: .string ⟨#[]⟩ :: .string ⟨#[]⟩ :: .slice none 0 0 :: .int .i64 0 :: .int .i64 0 :: .int .i64 0 :: .int .i64 0 :: .int .i64 0 :: .int .i64 0 :: .slice none 0 0 :: .slice none 0 0 :: []
abbrev zt3 : List Value := .int .i64 0 :: .int .i64 0 :: .int .i64 0 :: .int .i64 0 :: .int .i64 0 :: .int .i64 0 :: .slice none 0 0 :: .int .i64 0 :: .slice none 0 0 :: .int .i64 0 :: .int .i64 0 :: .int .i64 0 :: .int .i64 0 :: .int .i64 0 :: .slice none 0 0 :: .slice none 0 0 :: .int .i64 0 :: .int .i64 0 :: .int .i64 0 :: .int .i64 0 :: .int .i64 0 :: .int .i64 0 :: .int .i64 0 :: .int .i64 0 :: .string ⟨#[]⟩ :: .string ⟨#[]⟩ :: .slice none 0 0 :: .int .i64 0 :: .int .i64 0 :: .int .i64 0 :: .int .i64 0 :: .int .i64 0 :: .int .i64 0 :: .slice none 0 0 :: .slice none 0 0 :: []
abbrev zt5 : List Value := .int .i64 0 :: .int .i64 0 :: .int .i64 0 :: .int .i64 0 :: .slice none 0 0 :: .int .i64 0 :: .slice none 0 0 :: .int .i64 0 :: .int .i64 0 :: .int .i64 0 :: .int .i64 0 :: .int .i64 0 :: .slice none 0 0 :: .slice none 0 0 :: .int .i64 0 :: .int .i64 0 :: .int .i64 0 :: .int .i64 0 :: .int .i64 0 :: .int .i64 0 :: .int .i64 0 :: .int .i64 0 :: .string ⟨#[]⟩ :: .string ⟨#[]⟩ :: .slice none 0 0 :: .int .i64 0 :: .int .i64 0 :: .int .i64 0 :: .int .i64 0 :: .int .i64 0 :: .int .i64 0 :: .slice none 0 0 :: .slice none 0 0 :: []
abbrev zt6 : List Value := .int .i64 0 :: .int .i64 0 :: .int .i64 0 :: .slice none 0 0 :: .int .i64 0 :: .slice none 0 0 :: .int .i64 0 :: .int .i64 0 :: .int .i64 0 :: .int .i64 0 :: .int .i64 0 :: .slice none 0 0 :: .slice none 0 0 :: .int .i64 0 :: .int .i64 0 :: .int .i64 0 :: .int .i64 0 :: .int .i64 0 :: .int .i64 0 :: .int .i64 0 :: .int .i64 0 :: .string ⟨#[]⟩ :: .string ⟨#[]⟩ :: .slice none 0 0 :: .int .i64 0 :: .int .i64 0 :: .int .i64 0 :: .int .i64 0 :: .int .i64 0 :: .int .i64 0 :: .slice none 0 0 :: .slice none 0 0 :: []
abbrev zt7 : List Value := .int .i64 0 :: .int .i64 0 :: .slice none 0 0 :: .int .i64 0 :: .slice none 0 0 :: .int .i64 0 :: .int .i64 0 :: .int .i64 0 :: .int .i64 0 :: .int .i64 0 :: .slice none 0 0 :: .slice none 0 0 :: .int .i64 0 :: .int .i64 0 :: .int .i64 0 :: .int .i64 0 :: .int .i64 0 :: .int .i64 0 :: .int .i64 0 :: .int .i64 0 :: .string ⟨#[]⟩ :: .string ⟨#[]⟩ :: .slice none 0 0 :: .int .i64 0 :: .int .i64 0 :: .int .i64 0 :: .int .i64 0 :: .int .i64 0 :: .int .i64 0 :: .slice none 0 0 :: .slice none 0 0 :: []
abbrev zt8 : List Value := .int .i64 0 :: .slice none 0 0 :: .int .i64 0 :: .slice none 0 0 :: .int .i64 0 :: .int .i64 0 :: .int .i64 0 :: .int .i64 0 :: .int .i64 0 :: .slice none 0 0 :: .slice none 0 0 :: .int .i64 0 :: .int .i64 0 :: .int .i64 0 :: .int .i64 0 :: .int .i64 0 :: .int .i64 0 :: .int .i64 0 :: .int .i64 0 :: .string ⟨#[]⟩ :: .string ⟨#[]⟩ :: .slice none 0 0 :: .int .i64 0 :: .int .i64 0 :: .int .i64 0 :: .int .i64 0 :: .int .i64 0 :: .int .i64 0 :: .slice none 0 0 :: .slice none 0 0 :: []
abbrev zt12 : List Value := .int .i64 0 :: .int .i64 0 :: .int .i64 0 :: .int .i64 0 :: .int .i64 0 :: .slice none 0 0 :: .slice none 0 0 :: .int .i64 0 :: .int .i64 0 :: .int .i64 0 :: .int .i64 0 :: .int .i64 0 :: .int .i64 0 :: .int .i64 0 :: .int .i64 0 :: .string ⟨#[]⟩ :: .string ⟨#[]⟩ :: .slice none 0 0 :: .int .i64 0 :: .int .i64 0 :: .int .i64 0 :: .int .i64 0 :: .int .i64 0 :: .int .i64 0 :: .slice none 0 0 :: .slice none 0 0 :: []
abbrev zt18 : List Value := .slice none 0 0 :: .int .i64 0 :: .int .i64 0 :: .int .i64 0 :: .int .i64 0 :: .int .i64 0 :: .int .i64 0 :: .int .i64 0 :: .int .i64 0 :: .string ⟨#[]⟩ :: .string ⟨#[]⟩ :: .slice none 0 0 :: .int .i64 0 :: .int .i64 0 :: .int .i64 0 :: .int .i64 0 :: .int .i64 0 :: .int .i64 0 :: .slice none 0 0 :: .slice none 0 0 :: []
abbrev zt19 : List Value := .int .i64 0 :: .int .i64 0 :: .int .i64 0 :: .int .i64 0 :: .int .i64 0 :: .int .i64 0 :: .int .i64 0 :: .int .i64 0 :: .string ⟨#[]⟩ :: .string ⟨#[]⟩ :: .slice none 0 0 :: .int .i64 0 :: .int .i64 0 :: .int .i64 0 :: .int .i64 0 :: .int .i64 0 :: .int .i64 0 :: .slice none 0 0 :: .slice none 0 0 :: []
abbrev zt30 : List Value := .int .i64 0 :: .int .i64 0 :: .int .i64 0 :: .int .i64 0 :: .int .i64 0 :: .int .i64 0 :: .slice none 0 0 :: .slice none 0 0 :: []
def onlyV (m : Wi.Msg) (v : MsgV) : MsgV :=
 {chain := if m.kind = 4 then v.chain else .slice none 0 0
  lives := if m.kind = 4 then v.lives else .slice none 0 0
  brecs := if m.kind = 5 then v.brecs else .slice none 0 0
  table := if m.kind = 8 then v.table else .slice none 0 0
  qrecs := if m.kind = 1 ∨ m.kind = 7 then v.qrecs else .slice none 0 0
  parts := if m.kind = 2 then v.parts else .slice none 0 0
  arecs := if m.kind = 2 then v.arecs else .slice none 0 0 }
theorem recs_nil0 (w : World) : Recs w (.slice none 0 0) [] := ⟨none, 0, rfl, fun i x hx => by simp at hx⟩
theorem MsgAt.only {w : World} {m : Wi.Msg} {v : MsgV} (h : MsgAt w m v) : MsgAt w (Wi.only m) (onlyV m v) := by
 unfold Wi.only onlyV
 constructor <;> dsimp only
 ·split; exact h.chain; exact Ints.nil w
 ·split; exact h.lives; exact Rw.nil _ _ w
 ·split; exact h.brecs; exact recs_nil0 w
 ·split; exact h.table; exact Tbl.nil w
 ·split; exact h.qrecs; exact recs_nil0 w
 ·split; exact h.parts; exact Ints.nil w
 ·split; exact h.arecs; exact recs_nil0 w
theorem Cl.row {w : World} {g : Nat} {old : List Value} {t : TypeId} (h : Cl w g old t) (cs : Array Value) : Cl (w.setRow g cs) g cs.toList t := setRow_heap _ _ _ _ _ _ h
theorem Keeps.row {S : Nat → Prop} (w : World) (g : Nat) (cs : Array Value) (h : S g) : Keeps S w (w.setRow g cs) := ⟨rfl, rfl, rfl, by simp, fun k hk hn => setRow_other _ _ _ _ (fun e => hn (by rw [e]; exact h))⟩
theorem Cl.range {w : World} {g : Nat} {cs : List Value} {t : TypeId} (h : Cl w g cs t) : w.rangeAt g 0 cs := fun j v hv => by rw [Nat.zero_add, Cl.cell h j]; exact hv
set_option maxRecDepth 20000 in
set_option maxHeartbeats 12800000 in
theorem only_k3 (m : Wi.Msg) (v : MsgV) (w : World) (h : MsgAt w m v) (hk : m.kind = 3) :
  Calls Tryz.prog 34 #[msgV m v] w fun e w' => e = .returned (msgV (Wi.only m) (onlyV m v)) ∧ Below w.heap.size w w' := by
 obtain ⟨s0, c0, hh0⟩ := h.chain.form
 obtain ⟨s1, c1, hh1⟩ := h.lives.form
 obtain ⟨s2, c2, hh2⟩ := h.brecs.form
 obtain ⟨s3, c3, hh3⟩ := h.table.form
 obtain ⟨s4, c4, hh4⟩ := h.qrecs.form
 obtain ⟨s5, c5, hh5⟩ := h.parts.form
 obtain ⟨s6, c6, hh6⟩ := h.arecs.form
 obtain ⟨v0, v1, v2, v3, v4, v5, v6⟩ := v
 dsimp only at hh0 hh1 hh2 hh3 hh4 hh5 hh6
 subst hh0 hh1 hh2 hh3 hh4 hh5 hh6
 obtain ⟨x_kind, x_frm, x_to, x_part, x_ep, x_off, x_high, x_life, x_pep, x_chain, x_learner, x_lives, x_batch, x_table, x_req, x_resp⟩ := m
 dsimp only at *
 clear h
 subst hk
 obtain ⟨L, hL⟩ : ∃ L, L = msgC (Wi.only ⟨3, x_frm, x_to, x_part, x_ep, x_off, x_high, x_life, x_pep, x_chain, x_learner, x_lives, x_batch, x_table, x_req, x_resp⟩) (onlyV ⟨3, x_frm, x_to, x_part, x_ep, x_off, x_high, x_life, x_pep, x_chain, x_learner, x_lives, x_batch, x_table, x_req, x_resp⟩ ⟨.slice s0 x_chain.length c0, .slice s1 x_lives.length c1, .slice s2 x_batch.recs.length c2, .slice s3 x_table.length c3, .slice s4 x_req.recs.length c4, .slice s5 x_resp.parts.length c5, .slice s6 x_resp.recs.length c6⟩) := ⟨_, rfl⟩
 have HLV : Hid (msgV (Wi.only ⟨3, x_frm, x_to, x_part, x_ep, x_off, x_high, x_life, x_pep, x_chain, x_learner, x_lives, x_batch, x_table, x_req, x_resp⟩) (onlyV ⟨3, x_frm, x_to, x_part, x_ep, x_off, x_high, x_life, x_pep, x_chain, x_learner, x_lives, x_batch, x_table, x_req, x_resp⟩ ⟨.slice s0 x_chain.length c0, .slice s1 x_lives.length c1, .slice s2 x_batch.recs.length c2, .slice s3 x_table.length c3, .slice s4 x_req.recs.length c4, .slice s5 x_resp.parts.length c5, .slice s6 x_resp.recs.length c6⟩) = .agg L.toArray) := by rw [Hid, hL, msgV]
 rw [HLV.out]
 have HL0 := Lib.hid hL
 have HL38 : Hid ((Tryz.prog.info? 36).map (·.size) = some L.length) := by rw [Hid, hL, show ∀ a b, (msgC a b).length = 38 from fun _ _ => rfl]; kernel_rfl
 have HL39 : Hid ((Tryz.prog.info? 36).map (·.size) = some (L.toArray : Array Value).size) := by rw [Hid, List.size_toArray, hL, show ∀ a b, (msgC a b).length = 38 from fun _ _ => rfl]; kernel_rfl
 have HLON : Hid ((L.toArray : Array Value).all (·.oneCell') = true) := by rw [Hid, hL]; simp [msgC, onlyV, Value.oneCell']
 have HLSZ : Hid (((zt0).toArray : Array Value).size = (L.toArray : Array Value).size) := by rw [Hid, hL]; rfl
 clear hL HLV
 unfold msgV msgC
 dsimp only
 go_enter Tryz.func34, Tryz.ntmps34
 obtain ⟨w1, hw1, CA, CR, B1⟩ := twoBox (w := w) (.int .i64 3 :: .int .i64 x_frm :: .int .i64 x_to :: .int .i64 x_part :: .int .i64 x_ep :: .int .i64 x_off :: .int .i64 x_high :: .int .i64 x_life :: .int .i64 x_pep :: .slice s0 x_chain.length c0 :: .int .i64 x_learner :: .slice s1 x_lives.length c1 :: .int .i64 x_batch.base :: .int .i64 x_batch.count :: .int .i64 x_batch.prod :: .int .i64 x_batch.seq :: .int .i64 x_batch.time :: .slice s2 x_batch.recs.length c2 :: .slice s3 x_table.length c3 :: .int .i64 x_req.client :: .int .i64 x_req.n :: .int .i64 x_req.kind :: .int .i64 x_req.part :: .int .i64 x_req.seq :: .int .i64 x_req.off :: .int .i64 x_req.max :: .int .i64 x_req.gen :: .string ⟨x_req.group.toArray⟩ :: .string ⟨x_req.member.toArray⟩ :: .slice s4 x_req.recs.length c4 :: .int .i64 x_resp.client :: .int .i64 x_resp.n :: .int .i64 x_resp.code :: .int .i64 x_resp.off :: .int .i64 x_resp.high :: .int .i64 x_resp.gen :: .slice s5 x_resp.parts.length c5 :: .slice s6 x_resp.recs.length c6 :: []) (zt0) 36
 go_upto_region 1 with (fail)
 first | rw [hw1] | skip
 clear hw1
 have hs1 : w.heap.size + 2 ≤ w1.heap.size := by have := CR.out.lt; omega
 have hsw : w.heap.size + 1 ≠ w1.heap.size := by omega
 have hsw2 : w.heap.size ≤ w1.heap.size := by omega
 obtain ⟨pr, hpr⟩ : ∃ pr, pr = w.heap.size + 1 := ⟨_, rfl⟩
 rw [← hpr] at CR hsw ⊢
 obtain ⟨pa, hpa⟩ : ∃ pa, pa = w.heap.size := ⟨_, rfl⟩
 rw [← hpa] at CA
 first | rw [← hpa] | skip
 have HPA := Lib.hid hpa
 have hprw : w.heap.size ≤ pr := by omega
 clear hpr hs1 hpa
 have a0 := CA.out.cell 0
 have a1 := CA.out.cell 1
 have a2 := CA.out.cell 2
 simp only [List.getElem?_cons_zero, List.getElem?_cons_succ] at a0 a1 a2
 have HZC : Hid ((w1.alloc (.cells (zt0).toArray 36)).heap[w1.heap.size]? = some (.cells (zt0).toArray 36 (0, 0))) := Cl.new w1 (zt0) _
 have CO : Hid (Cl ((w1.alloc (.cells (zt0).toArray 36)).setRow w1.heap.size (.int .i64 3 :: .int .i64 x_frm :: .int .i64 x_to :: zt3).toArray) w1.heap.size (.int .i64 3 :: .int .i64 x_frm :: .int .i64 x_to :: zt3) 36) := Cl.row (Cl.new w1 (zt0) _) _
 have b2 : Hid (Below w1.heap.size w1 ((w1.alloc (.cells (zt0).toArray 36)).setRow w1.heap.size (.int .i64 3 :: .int .i64 x_frm :: .int .i64 x_to :: zt3).toArray)) := ((Below.refl _ _).alloc (Nat.le_refl _) _).trans ((Keeps.row (S := fun j => j = w1.heap.size) _ w1.heap.size _ rfl).toBelow (by simp) (fun k hk e => by omega))
 have HI38 := Lib.hid (show (Tryz.prog.info? 36).map (·.size) = some ((.int .i64 3 :: .int .i64 x_frm :: .int .i64 x_to :: zt3).toArray : Array Value).size by kernel_rfl)
 have HONE : Hid (((.int .i64 3 :: .int .i64 x_frm :: .int .i64 x_to :: zt3).toArray : Array Value).all (·.oneCell') = true) := by simp [Hid, Value.oneCell']
 have HSZ : Hid (((zt0).toArray : Array Value).size = ((.int .i64 3 :: .int .i64 x_frm :: .int .i64 x_to :: zt3).toArray : Array Value).size) := rfl
 go_upto_region 2 with (refine wpList_store_row (by rfl) _ _ _ (by rfl) w1.heap.size (.int .i64 3 :: .int .i64 x_frm :: .int .i64 x_to :: zt3).toArray (by rfl) (by rfl) 36 _ HZC.out HI38.out HSZ.out HONE.out ?_)
 generalize (w1.alloc (.cells (zt0).toArray 36)).setRow w1.heap.size (.int .i64 3 :: .int .i64 x_frm :: .int .i64 x_to :: zt3).toArray = w2 at *
 clear HZC HI38 HONE HSZ a0 a1 a2
 have hpo : ¬ pr = w1.heap.size := hsw
 have hpo2 : ¬ pa = w1.heap.size := by have := CA.out.lt; omega
 have CA2 := Lib.hid (CA.out.below b2.out)
 have CR2 := Lib.hid (CR.out.below b2.out)
 have B2 := Lib.hid (bt B1.out b2.out)
 generalize w1.heap.size = po at *
 clear CA CR B1 b2 hsw
 have a0 := CA2.out.cell 0
 simp only [List.getElem?_cons_zero, List.getElem?_cons_succ] at a0
 go_upto_if 13 with (fail)
 go_cut [] (fun wz => Cl wz po (.int .i64 3 :: .int .i64 x_frm :: .int .i64 x_to :: zt3) 36 ∧ Keeps (fun j => j = po) w2 wz)
 case first =>
  have K9 := Keeps.refl (fun j => j = po) w2
  go_wp2
  go_meet
  case rel => exact ⟨CO.out, K9⟩
 case rest =>
  obtain ⟨hC3, hK3⟩ := hcut
  generalize wc = w3 at *
  have CO3 := Lib.hid hC3
  have CA3 := Lib.hid (Cl.keep CA2.out hK3 hpo2)
  have CR3 := Lib.hid (Cl.keep CR2.out hK3 hpo)
  have B3 : Hid (Below w.heap.size w w3) := B2.out.trans (hK3.toBelow B2.out.size (fun k hk e => by omega))
  clear hC3 hK3 CA2 CR2 B2 CO a0
  have a0 := CA3.out.cell 0
  simp only [List.getElem?_cons_zero, List.getElem?_cons_succ] at a0
  go_upto_block 0 with (fail)
  go_cut [] (fun wz => Cl wz po L 36 ∧ Cl wz pr (zt0) 36 ∧ Below w.heap.size w wz)
  case first =>
   clear a0 HL38 HL39 HLON HLSZ
   have HL : Hid (L = (.int .i64 3 :: .int .i64 x_frm :: .int .i64 x_to :: .int .i64 0 :: .int .i64 0 :: .int .i64 0 :: .int .i64 0 :: .int .i64 x_life :: zt8)) := by
    rw [Hid, HL0.out]
    rfl
   clear HL0
   have CO := Lib.hid CO3.out
   have a7 := CA3.out.cell 7
   have o7 := CO.out.cell 7
   have f7 := CO.out.free 7
   simp only [List.getElem?_cons_zero, List.getElem?_cons_succ] at a7 o7
   obtain ⟨w9, hw9, C9, K9⟩ : ∃ w9, (w3.setCell ⟨po, 7, none⟩ (.int .i64 x_life)) = w9 ∧ Hid (Cl w9 po (.int .i64 3 :: .int .i64 x_frm :: .int .i64 x_to :: .int .i64 0 :: .int .i64 0 :: .int .i64 0 :: .int .i64 0 :: .int .i64 x_life :: zt8) 36) ∧ Hid (Keeps (fun j => j = po) w3 w9) :=
    ⟨_, rfl, (Cl.set CO.out 7 (.int .i64 x_life)), ((Keeps.refl (fun j => j = po) w3).trans (Keeps.setCell (fun j => j = po) _ ⟨po, 7, none⟩ (.int .i64 x_life) rfl))⟩
   clear CO CO3
   have a0 := CA3.out.cell 0
   simp only [List.getElem?_cons_zero] at a0
   go_wp2
   first | rw [hw9] | skip
   go_meet
   case rel => exact ⟨by rw [HL.out]; exact C9.out, Cl.keep CR3.out K9.out hpo, B3.out.trans (K9.out.toBelow B3.out.size (fun k hk e => by omega))⟩
  case rest =>
   obtain ⟨hC4, hR4, hB4⟩ := hcut
   generalize wc = w4 at *
   have CP := Lib.hid hC4
   have CQ := Lib.hid hR4
   have B4 := Lib.hid hB4
   clear hC4 hR4 hB4 HL0 CO3 CA3 CR3 B3 a0
   have hpr : pr ≠ po := hpo
   have C9 : Hid (Cl (w4.setRow pr L.toArray) pr L 36) := by
    have := CQ.out.row L.toArray
    rwa [List.toList_toArray] at this
   have K9 : Hid (Keeps (fun j => j = pr) w4 (w4.setRow pr L.toArray)) := Keeps.row _ _ _ rfl
   have R4 := Lib.hid CP.out.range
   have HU := Lib.hid Tryz.underlying36
   go_wp2_with (first
    | (refine wpList_load_mid (by rfl) _ _ (by rfl) po 0 (by rfl) L _ R4.out HU.out (by rfl) HL38.out ?_)
    | (refine wpList_store_row (by rfl) _ _ _ (by rfl) pr L.toArray (by rfl) (by rfl) 36 _ CQ.out HL39.out HLSZ.out HLON.out ?_))
   have BF : Below w.heap.size w (w4.setRow pr L.toArray) := B4.out.trans (K9.out.toBelow B4.out.size (fun k hk e => by omega))
   refine bodyPost_ret (results_cl rfl _ _ _ _ _ _ rfl C9.out Tryz.underlying36 rfl HL38.out) rfl ?_
   exact ⟨rfl, BF⟩
end Go.Proofs.YtjfpbeccpcbpcaaGreatDoor
namespace Go.Proofs.YtjfpbeccpcbpcaaGreatDoor
open Go Go.RowKit
section
variable {P : Program} {ops : Array Oper} {md : Region.Mode} {C : Array Bool → World → Prop}
def sUpon (P : Program) (D : World → Prop) (v : Value) : Result Next → Prop
 | .ok (.value u) w' => D w' ∧ u = v
 | .ok .skip w' => D w' ∧ v = undef
 | .ok (.enter f args) w' => Calls P f args w' (fun e w'' => e = .returned v ∧ D w'')
 | _ => False
def listedAll : Nat → Nat → Array Bool → Array Bool
 | 0, _, L => L
 | n + 1, k, L => listedAll n (k + 1) (L.setIfInBounds k true)
theorem no_enter_v (s : Sem Value) (f : FuncId) (args : Array Value) (w w' : World) : (do pure (Next.value (← s)) : Sem Next).run P w ≠ .ok (.enter f args) w' := by
 simp only [Sem.run_bind, Sem.run_pure]
 cases s.run P w <;> simp [Result.andThen]
def AnyOf (C : Array Bool → World → Prop) : Type := {W : World // ∃ L, C L W}
end
def stL (sts : List (Nat × Nat × Value)) (L : Array Bool) (cs : List Value) : List Value := cs.mapIdx fun k c => match sts.find? (fun s => s.2.1 == k) with | some s => if L.getD s.1 false = true then s.2.2 else c | none => c
structure StC (w2 : World) (q : Nat) (t : TypeId) (n : Nat) (cs : List Value) (sts : List (Nat × Nat × Value)) (L : Array Bool) (W : World) : Prop where
 keep : Keeps (fun j => j = q) w2 W
 cl : Cl W q (stL sts L cs) t
 size : L.size = n
theorem StC.quiet {w2 : World} {q : Nat} {t : TypeId} {n : Nat} {cs : List Value} {sts : List (Nat × Nat × Value)} {L : Array Bool} {W : World} (h : StC w2 q t n cs sts L W) {i : Nat} (hi : sts.all (fun s => s.1 != i) = true) : StC w2 q t n cs sts (L.setIfInBounds i true) W := by
 refine ⟨h.keep, ?_, by rw [Array.size_setIfInBounds]; exact h.size⟩
 have : stL sts (L.setIfInBounds i true) cs = stL sts L cs := by
  unfold stL
  congr 1
  funext k c
  cases hf : sts.find? (fun s => s.2.1 == k) with
  | none => rfl
  | some s =>
   have hs := List.all_eq_true.1 hi s (List.mem_of_find?_eq_some hf)
   simp only [bne_iff_ne, ne_eq] at hs
   simp only
   rw [getD_set_ne false (fun e => hs e.symm)]
 rw [this]
 exact h.cl
theorem StC.store {w2 : World} {q : Nat} {t : TypeId} {n : Nat} {cs : List Value} {sts : List (Nat × Nat × Value)} {L : Array Bool} {W : World} (h : StC w2 q t n cs sts L W) {i off : Nat} {v : Value} (hin : i < n) (hf : sts.find? (fun s => s.2.1 == off) = some (i, off, v)) (hu : ∀ s ∈ sts, s.1 = i → s.2.1 = off) :
  StC w2 q t n cs sts (L.setIfInBounds i true) (W.setCell ⟨q, off, none⟩ v) := by
 refine ⟨h.keep.trans (Keeps.setCell _ _ _ _ rfl), ?_, by rw [Array.size_setIfInBounds]; exact h.size⟩
 have : stL sts (L.setIfInBounds i true) cs = (stL sts L cs).set off v := by
  apply List.ext_getElem?
  intro k
  unfold stL
  rw [List.getElem?_mapIdx, List.getElem?_set]
  by_cases e : off = k
  ·subst e
   rw [if_pos rfl, hf]
   have hL : (L.setIfInBounds i true).getD i false = true := by
    have : i < L.size := by rw [h.size]; exact hin
    simp [this]
   simp only [hL, if_true, List.length_mapIdx]
   by_cases hk : off < cs.length
   ·rw [if_pos hk, List.getElem?_eq_getElem hk]; rfl
   ·rw [if_neg hk, List.getElem?_eq_none (by omega)]; rfl
  ·rw [if_neg e, List.getElem?_mapIdx]
   cases cs[k]? with
   | none => rfl
   | some c =>
    simp only [Option.map_some]
    cases hg : sts.find? (fun s => s.2.1 == k) with
    | none => rfl
    | some s =>
     have h1 := List.find?_some hg
     simp only [beq_iff_eq] at h1
     have h2 : s.1 ≠ i := fun e2 => e ((hu s (List.mem_of_find?_eq_some hg) e2).symm.trans h1)
     simp only
     rw [getD_set_ne false (fun e => h2 e.symm)]
 rw [this]
 exact h.cl.set off v
theorem StC.cell {w2 : World} {q : Nat} {t : TypeId} {n : Nat} {cs : List Value} {sts : List (Nat × Nat × Value)} {L : Array Bool} {W : World} (h : StC w2 q t n cs sts L W) {p : Addr} {v : Value} (hp : w2.cell? p = some v) (hq : p.block ≠ q) : W.cell? p = some v :=
 (h.keep.cell (World.block_lt_of_cell? w2 _ hp) hq).trans hp
theorem StC.has {w2 : World} {q : Nat} {t : TypeId} {n : Nat} {cs : List Value} {sts : List (Nat × Nat × Value)} {L : Array Bool} {W : World} (h : StC w2 q t n cs sts L W) {off : Nat} (ho : off < cs.length) : ∃ u, W.cell? ⟨q, off, none⟩ = some u := by
 rw [h.cl.cell off]
 have : off < (stL sts L cs).length := by unfold stL; rw [List.length_mapIdx]; exact ho
 exact ⟨_, List.getElem?_eq_getElem this⟩
theorem StC.free {w2 : World} {q : Nat} {t : TypeId} {n : Nat} {cs : List Value} {sts : List (Nat × Nat × Value)} {L : Array Bool} {W : World} (h : StC w2 q t n cs sts L W) (off : Nat) : W.frozen? ⟨q, off, none⟩ = false := h.cl.free off
end Go.Proofs.YtjfpbeccpcbpcaaGreatDoor
namespace Go.Proofs.YtjfpbeccpcbpcaaGreatDoor
open Go Go.RowKit
section
variable {P : Program} {ops : Array Oper} {md : Region.Mode} {C : Array Bool → World → Prop}
def DCl (md : Region.Mode) (ops : Array Oper) (L : Array Bool) : Prop := L.size = ops.size ∧ ∀ j oj, ops[j]? = some oj → L.getD j false = true → ∀ e ∈ oj.after, Region.binds md e = true → L.getD e.on false = true
theorem DCl.set {L : Array Bool} {i : Nat} (h : DCl md ops L) (hi : i ∈ Region.ready md ops L) : DCl md ops (L.setIfInBounds i true) := by
 obtain ⟨_, oi, hoi, hall⟩ := mem_ready.1 hi
 refine ⟨by simp [h.1], fun j oj hj hl e he hb => ?_⟩
 by_cases hij : i = j
 ·subst hij
  obtain rfl : oj = oi := Option.some.inj (hj.symm.trans hoi)
  exact getD_set_true (hall e he hb)
 ·rw [getD_set_ne false hij] at hl
  exact getD_set_true (h.2 j oj hj hl e he hb)
theorem DCl.wait {L : Array Bool} (h : DCl md ops L) {j i : Nat} (hw : Region.waitsFor md ops j i = true) (hj : L.getD j false = true) : L.getD i false = true := by
 obtain ⟨oj, ho, e, he, hb, rfl⟩ := Region.waitsFor_spec hw
 exact h.2 j oj ho hj e he hb
theorem ready_wait {L : Array Bool} {j i : Nat} (hj : j ∈ Region.ready md ops L) (hw : Region.waitsFor md ops j i = true) : L.getD i false = true := by
 obtain ⟨oj, ho, e, he, hb, rfl⟩ := Region.waitsFor_spec hw
 obtain ⟨_, o, ho2, hall⟩ := mem_ready.1 hj
 obtain rfl : o = oj := Option.some.inj (ho2.symm.trans ho)
 exact hall e he hb
theorem ready_not {L : Array Bool} {j : Nat} (hj : j ∈ Region.ready md ops L) : L.getD j false = false := getD_both (mem_ready.1 hj).1
def rYields (P : Program) (md : Region.Mode) (ops : Array Oper) (C : Array Bool → World → Prop) (i : Nat) (o : Oper) (v : Value) (a : Act) : Prop :=
 (Region.wanted o (yielded ops a.tmps) = true ∧ ∀ L w, DCl md ops L → i ∈ Region.ready md ops L → C L w → sUpon P (C (L.setIfInBounds i true)) v ((execOp a.eval o).run P w)) ∨
 (Region.wanted o (yielded ops a.tmps) = false ∧ v = undef ∧ ∀ L w, DCl md ops L → i ∈ Region.ready md ops L → C L w → C (L.setIfInBounds i true) w)
def rAny (P : Program) (md : Region.Mode) (ops : Array Oper) (C : Array Bool → World → Prop) (Q : Array Bool → Act → Prop) : Nat → Array Bool → Act → Prop
 | 0, L, a => Region.ready md ops L = [] ∧ Q L a
 | f + 1, L, a => Region.ready md ops L ≠ [] ∧ ∀ i ∈ Region.ready md ops L, ∀ o, ops[i]? = some o → ∃ v, rYields P md ops C i o v a ∧ rAny P md ops C Q f (L.setIfInBounds i true) (a.put o.dst v)
theorem wpOp_of_r {i : Nat} {o : Oper} {v : Value} {a : Act} {L : Array Bool} {K' : Act → World → Prop} {Q' : Exit → Act → World → Prop} {w : World} (ho : ops[i]? = some o) (hD : DCl md ops L) (hi : i ∈ Region.ready md ops L) (hC : C L w) (hy : rYields P md ops C i o v a)
  (h : ∀ w', C (L.setIfInBounds i true) w' → K' (a.put o.dst v) w') : wpOp P ops Q' i K' a w := by
 unfold wpOp
 simp only [ho]
 rcases hy with ⟨hw, hy⟩ | ⟨hw, rfl, hy⟩
 ·rw [if_pos hw]
  left
  have h3 := hy L w hD hi hC
  unfold Oper.wp
  generalize (execOp a.eval o).run P w = r at *
  cases r with
  | ok n w' =>
   cases n <;> simp only [sUpon] at h3 <;> simp only [Oper.upon]
   case value u => rw [h3.2]; exact h _ h3.1
   case skip => rw [← h3.2]; exact h _ h3.1
   case enter f args => exact h3.mono fun e w'' ⟨he, hw''⟩ => by subst he; exact h _ hw''
  | halt x w' => simp only [sUpon] at h3
 ·rw [if_neg (by rw [hw]; exact Bool.false_ne_true)]
  exact h _ (hy L w hD hi hC)
theorem wpAny_of_r {Q : Array Bool → Act → Prop} {Q' : Exit → Act → World → Prop} (hQ : ∀ L a w, C L w → Q L a → Q' .normal a w) : ∀ (f : Nat) (L : Array Bool) (a : Act) (w : World), DCl md ops L → C L w →
  rAny P md ops C Q f L a → wpAny P md ops Q' f L a w
 | 0, _, _, _, _, hw, h => ⟨h.1, hQ _ _ _ hw h.2⟩
 | f + 1, L, a, w, hD, hw, h => ⟨fun h0 => absurd h0 h.1, fun i hi => by
   obtain ⟨_, o, ho, _⟩ := mem_ready.1 hi
   obtain ⟨v, hy, hr⟩ := h.2 i hi o ho
   exact wpOp_of_r ho hD hi hw hy (fun w' hw' => wpAny_of_r hQ f _ _ w' (hD.set hi) hw' hr)⟩
theorem r_swap {i j : Nat} {oi oj : Oper} {v u : Value} (hap : oi.apart ops oj = true) (hsi : ∀ cs b, oi.op ≠ .select cs b) (hsj : ∀ cs b, oj.op ≠ .select cs b) {a : Act}
  (hy : rYields P md ops C i oi v a) (h : rYields P md ops C j oj u (a.put oi.dst v)) : rYields P md ops C j oj u a ∧ rYields P md ops C i oi v (a.put oj.dst u) ∧ (a.put oj.dst u).put oi.dst v = (a.put oi.dst v).put oj.dst u := by
 obtain ⟨h1, h2, h3⟩ := Oper.apart_spec hap
 refine ⟨?_, ?_, (Act.put_comm a v u h2).symm⟩
 ·unfold rYields at *
  rwa [execOp_put oj hsj a oi.dst v h1, wanted_put oj a oi.dst v h1] at h
 ·unfold rYields at *
  rw [execOp_put oi hsi a oj.dst u h3, wanted_put oi a oj.dst u h3]
  exact hy
theorem rAny_first {Q : Array Bool → Act → Prop} {i : Nat} {oi : Oper} {v : Value} (hi : ops[i]? = some oi) (hsel : ∀ (j : Nat) (o : Oper) cs b, ops[j]? = some o → o.op ≠ .select cs b) :
  ∀ (f : Nat) (L : Array Bool) (a : Act),
   (∀ j oj, ops[j]? = some oj → j ≠ i → L.getD j true = false → (∀ e ∈ oj.after, Region.binds md e = true → e.on ≠ i) → oi.apart ops oj = true) →
   i ∈ Region.ready md ops L → rYields P md ops C i oi v a → rAny P md ops C Q f (L.setIfInBounds i true) (a.put oi.dst v) → rAny P md ops C Q (f + 1) L a := by
 intro f
 induction f with
 | zero =>
  intro L a _ hr hy H
  refine ⟨fun h => (by rw [h] at hr; cases hr), fun j hj o ho => ?_⟩
  by_cases e : j = i
  ·subst e
   rw [hi] at ho
   injection ho with ho
   subst ho
   exact ⟨v, hy, H⟩
  ·have := ready_mono hj e
   rw [H.1] at this
   cases this
 | succ f ih =>
  intro L a hfree hr hy H
  refine ⟨fun h => (by rw [h] at hr; cases hr), fun j hj o ho => ?_⟩
  by_cases e : j = i
  ·subst e
   rw [hi] at ho
   injection ho with ho
   subst ho
   exact ⟨v, hy, H⟩
  ·obtain ⟨u, hu, hrest⟩ := H.2 j (ready_mono hj e) o ho
   obtain ⟨hjun, oj, hoj, hall⟩ := mem_ready.1 hj
   have hun := (mem_ready.1 hr).1
   rw [ho] at hoj
   injection hoj with hoj
   subst hoj
   have hnot : ∀ x ∈ o.after, Region.binds md x = true → x.on ≠ i := fun x hx hb heq => by
    have h1 := hall x hx hb
    rw [heq] at h1
    rcases Nat.lt_or_ge i L.size with h' | h'
    ·simp [h'] at hun h1; rw [hun] at h1; cases h1
    ·simp [Array.getElem?_eq_none h'] at h1
   obtain ⟨k1, k2, k3⟩ := r_swap (hfree j o ho e hjun hnot) (fun cs b => hsel i oi cs b hi) (fun cs b => hsel j o cs b ho) hy hu
   refine ⟨u, k1, ih _ _ (fun k ok hk hki hunk hno => hfree k ok hk hki ?_ hno) (ready_mono hr (Ne.symm e)) k2 ?_⟩
   ·by_cases hjk : j = k
    ·subst hjk; exact hjun
    ·rw [getD_set_ne true hjk] at hunk; exact hunk
   ·rw [Array.setIfInBounds_comm _ _ e, k3]
    exact hrest
def rQuiet (P : Program) (md : Region.Mode) (ops : Array Oper) (C : Array Bool → World → Prop) (Q : Act → Prop) : Nat → List Oper → Act → Prop
 | _, [], a => Q a
 | k, o :: r, a => ∃ v, rYields P md ops C k o v a ∧ rQuiet P md ops C Q (k + 1) r (a.put o.dst v)
theorem rAny_lex {Q : Act → Prop} (hs : Region.noSelect ops = true) (F : Array Bool) : ∀ (l : List Oper) (k : Nat) (L : Array Bool) (a : Act), (∀ j, l[j]? = ops[k + j]?) → listedAll l.length k L = F →
  Region.lexFrom md ops l.length k L = true → rQuiet P md ops C Q k l a → rAny P md ops C (fun L a => L = F ∧ Q a) l.length L a
 | [], _, _, _, _, hF, hB, h => ⟨by simpa [Region.lexFrom] using hB, hF, h⟩
 | o :: l, k, L, a, hl, hF, hB, h => by
  have h0 : ops[k]? = some o := by simpa using (hl 0).symm
  simp only [List.length_cons, Region.lexFrom, Bool.and_eq_true] at hB
  obtain ⟨⟨hr, hf⟩, hB'⟩ := hB
  obtain ⟨v, hy, hK⟩ := h
  exact rAny_first h0 (Region.noSelect_spec hs) l.length L a (Region.free_spec h0 hf) (by simpa using hr) hy
   (rAny_lex hs F l (k + 1) _ _ (fun j => by have := hl (j + 1); simpa [Nat.add_assoc, Nat.add_comm 1 j] using this) hF hB' hK)
theorem wp_region_ranks {id : Nat} {Q : Exit → Act → World → Prop} {a : Act} {w : World} {l : List Oper} (C : Array Bool → World → Prop) (F : Array Bool) (hm : P.follows .mixedOrders = true) (hB : Region.lexB .any l.toArray = true)
  (hF : listedAll l.length 0 (Array.replicate l.length false) = F) (hC : C (Array.replicate l.length false) w.drew) (h : rQuiet P .any l.toArray C (fun a' => ∀ w', C F w' → Q .normal a' w') 0 l a) : (Code.region id l.toArray true).wp P Q a w := by
 simp only [Region.lexB, Bool.and_eq_true] at hB
 have hsz : l.toArray.size = l.length := by simp
 refine wp_region_any hm (wpAny_of_r (C := C) (Q := fun L a' => L = F ∧ ∀ w', C F w' → Q .normal a' w') (fun L a' w' hw' h => h.2 w' (h.1 ▸ hw')) _ _ _ _ ⟨by simp, fun j oj _ hl => (by rw [getD_replicate_false] at hl; cases hl)⟩ (by rw [hsz]; exact hC) ?_)
 have := rAny_lex (P := P) (C := C) (md := .any) hB.1 F l 0 (Array.replicate l.toArray.size false) a (by simp) (by rw [hsz]; exact hF) (by simpa using hB.2) h
 simpa using this
def vB (o : Oper) : Bool :=
 match o.op with
 | .move _ | .assign _ | .load _ _ | .fieldAddr _ _ _ | .indexAddr _ _ _ | .unOp _ _ _ | .binOp _ _ _ _ _ | .pick _ _ _ | .extract _ _ => true
 | _ => false
theorem v_ne {o : Oper} (h : vB o = true) (f : FuncId) (args : Array Value) (w w' : World) (a : Act) : (execOp a.eval o).run P w ≠ .ok (.enter f args) w' := by
 unfold vB at h
 unfold execOp
 cases ho : o.op <;> rw [ho] at h <;> try (cases h; done)
 case move x => simp [Sem.run_pure]
 case assign x => simp [Sem.run_pure]
 case load t x => exact no_enter_v _ _ _ _ _
 case fieldAddr t x k => exact no_enter_v _ _ _ _ _
 case indexAddr t x k => exact no_enter_v _ _ _ _ _
 case unOp u t x => exact no_enter_v _ _ _ _ _
 case binOp u t x y s => exact no_enter_v _ _ _ _ _
 case extract t i => exact no_enter_v _ _ _ _ _
 case pick c x y =>
  simp only [Sem.run_bind, Sem.run_pure]
  cases (asBool (a.eval c)).run P w <;> simp [Result.andThen]
theorem rQuiet_run {Q : Act → Prop} : ∀ (l1 l2 : List Oper) (k : Nat) (a : Act), (∀ (i : Nat) L w, k ≤ i → i < k + l1.length → C L w → C (L.setIfInBounds i true) w) →
  (∀ o ∈ l1, ∀ f args w w' (a : Act), (execOp a.eval o).run P w ≠ .ok (.enter f args) w') →
  wpQuiet P ops (fun W => ∃ b : AnyOf C, W = b.1) (fun a' => rQuiet P md ops C Q (k + l1.length) l2 a') l1 a → rQuiet P md ops C Q k (l1 ++ l2) a
 | [], l2, k, a, _, _, h => by simpa [wpQuiet] using h
 | o :: l1, l2, k, a, hC, hne, h => by
  have hrec := fun a' => rQuiet_run (Q := Q) l1 l2 (k + 1) a' (fun i L w h1 h2 => hC i L w (by omega) (by simp only [List.length_cons]; omega)) (fun o ho => hne o (List.mem_cons_of_mem _ ho))
  have hlen : k + 1 + l1.length = k + (o :: l1).length := by simp only [List.length_cons]; omega
  rw [wpQuiet] at h
  rw [List.cons_append, rQuiet]
  by_cases hw : Region.wanted o (yielded ops a.tmps) = true
  ·rw [if_pos hw] at h
   obtain ⟨v, hv, hn⟩ := h
   refine ⟨v, .inl ⟨hw, fun L w _ _ hc => ?_⟩, hrec _ (by rw [hlen]; exact hn)⟩
   have h1 := hv w ⟨⟨w, L, hc⟩, rfl⟩
   have h2 := hne o (by simp)
   unfold Oper.quietAt at h1
   generalize hr : (execOp a.eval o).run P w = r at *
   cases r with
   | ok n w' =>
    cases n <;> simp only [Oper.quietUpon] at h1 <;> simp only [sUpon]
    case value u => rw [h1.1]; exact ⟨hC k L w (Nat.le_refl _) (by simp) hc, h1.2⟩
    case skip => rw [h1.1]; exact ⟨hC k L w (Nat.le_refl _) (by simp) hc, h1.2⟩
    case enter f args => exact absurd hr (h2 f args w w' a)
   | halt x w' => simp only [Oper.quietUpon] at h1
  ·rw [if_neg hw] at h
   exact ⟨undef, .inr ⟨by simpa using hw, rfl, fun L w _ _ hc => hC k L w (Nat.le_refl _) (by simp) hc⟩, hrec _ (by rw [hlen]; exact h)⟩
theorem rQuiet_head {Q : Act → Prop} {l : List Oper} {k : Nat} {a : Act} (n : Nat) (hn : n ≤ l.length) (hp : (l.take n).all vB = true) (hC : ∀ (i : Nat) L w, k ≤ i → i < k + n → C L w → C (L.setIfInBounds i true) w)
  (h : wpQuiet P ops (fun W => ∃ b : AnyOf C, W = b.1) (fun a' => rQuiet P md ops C Q (k + n) (l.drop n) a') (l.take n) a) : rQuiet P md ops C Q k l a := by
 have hlen : (l.take n).length = n := by rw [List.length_take]; omega
 have := rQuiet_run (P := P) (ops := ops) (C := C) (Q := Q) (md := md) (l.take n) (l.drop n) k a (fun i L w h1 h2 => hC i L w h1 (by rw [hlen] at h2; exact h2)) (fun o ho => v_ne (List.all_eq_true.1 hp o ho)) (by rw [hlen]; exact h)
 rwa [List.take_append_drop] at this
theorem rQuiet_call {Q : Act → Prop} {o : Oper} {r : List Oper} {k : Nat} {a : Act} {f : FuncId} {args : Array Value} (v : Value) (hw : Region.wanted o (yielded ops a.tmps) = true) (he : ∀ w, (execOp a.eval o).run P w = .ok (.enter f args) w)
  (hc : ∀ L w, DCl md ops L → k ∈ Region.ready md ops L → C L w → Calls P f args w fun e w' => e = .returned v ∧ C (L.setIfInBounds k true) w') (h : rQuiet P md ops C Q (k + 1) r (a.put o.dst v)) : rQuiet P md ops C Q k (o :: r) a :=
 ⟨v, .inl ⟨hw, fun L w hD hi hC => by rw [he w]; exact hc L w hD hi hC⟩, h⟩
theorem rQuiet_value {Q : Act → Prop} {o : Oper} {r : List Oper} {k : Nat} {a : Act} (v : Value) (W : World → World) (hw : Region.wanted o (yielded ops a.tmps) = true)
  (hc : ∀ L w, DCl md ops L → k ∈ Region.ready md ops L → C L w → (execOp a.eval o).run P w = .ok (.value v) (W w) ∧ C (L.setIfInBounds k true) (W w)) (h : rQuiet P md ops C Q (k + 1) r (a.put o.dst v)) : rQuiet P md ops C Q k (o :: r) a :=
 ⟨v, .inl ⟨hw, fun L w hD hi hC => by rw [(hc L w hD hi hC).1]; exact ⟨(hc L w hD hi hC).2, rfl⟩⟩, h⟩
theorem rQuiet_none {Q : Act → Prop} {o : Oper} {r : List Oper} {k : Nat} {a : Act} (hw : Region.wanted o (yielded ops a.tmps) = false)
  (hc : ∀ L w, DCl md ops L → k ∈ Region.ready md ops L → C L w → C (L.setIfInBounds k true) w) (h : rQuiet P md ops C Q (k + 1) r (a.put o.dst undef)) : rQuiet P md ops C Q k (o :: r) a :=
 ⟨undef, .inr ⟨hw, rfl, hc⟩, h⟩
end
end Go.Proofs.YtjfpbeccpcbpcaaGreatDoor
