/-
  Wu1 / Wu2 / Cwg / Cwf: texts of one proof, one behind the other.
  Conditions: none of its own.
-/
import Derived.Test.YtbljbdjmgogknaaGreatDoorZac
import Derived.Test.YtbljbdjmgogknaaGreatDoorZag
import Derived.Test.YtbljbdjmgogknaaGreatDoorZak
import Derived.Test.YtbljbdjmgogknaaGreatDoorZbi
import Derived.Lib.SlicesMore
import Derived.Deep.RegionHeld3
set_option linter.unusedVariables false
set_option linter.unusedSimpArgs false
namespace Go.Proofs.YtbljbdjmgogknaaGreatDoor
open Go.RowKit
theorem fieldsL_len (m : Wi.Msg) : (Wi.fieldsL m).length ≤ 16 := by
 have h1 : (Wi.headL m).length ≤ 5 := by unfold Wi.headL; split <;> simp
 have h2 : (Wi.tailL m).length ≤ 11 := by unfold Wi.tailL; (repeat' split) <;> simp [Wi.reqNumsL, Wi.respNumsL]
 rw [Wi.fieldsL, List.length_append]; omega
theorem wgood_true (m : Wi.Msg) (v : MsgV) (w : World) (h : MsgAt w m v) (ok : MsgOk m) (hcap : CapOk v.arecs) (hw : Lw w) (hg : Wi.good m = true) :
  Calls Tryz.prog 44 #[msgV m v] w fun e w' => e = .returned (.bool true) ∧ Below w.heap.size w w' := by
 have := wgood_any m v w h ok hcap hw
 rw [hg] at this
 exact this
set_option maxRecDepth 20000 in
set_option maxHeartbeats 6400000 in
theorem wencode_yes (m : Wi.Msg) (v : MsgV) (w : World) (h : MsgAt w m v) (ok : MsgOk m) (hcap : CapOk v.arecs) (hf : Wi.good m = true) (hw : Lw w) :
  Calls Tryz.prog 23 #[msgV m v] w fun e w' => e = .returned (.tuple #[.string ⟨(Frm.put (Wi.enc m)).toArray⟩, .int .i64 0]) ∧ Below w.heap.size w w' := by
 have HW := Lib.hid hw
 have HM := Lib.hid h
 have HO := Lib.hid ok
 have HF := Lib.hid hf
 have HLN := Lib.hid (Wi.enc_le hf)
 have HCP := Lib.hid hcap
 obtain ⟨s0, c0, hh0⟩ := h.chain.form
 obtain ⟨s1, c1, hh1⟩ := h.lives.form
 obtain ⟨s2, c2, hh2⟩ := h.brecs.form
 obtain ⟨s3, c3, hh3⟩ := h.table.form
 obtain ⟨s4, c4, hh4⟩ := h.qrecs.form
 obtain ⟨s5, c5, hh5⟩ := h.parts.form
 obtain ⟨s6, c6, hh6⟩ := h.arecs.form
 obtain ⟨v0, v1, v2, v3, v4, v5, v6⟩ := v
 dsimp only at hh0 hh1 hh2 hh3 hh4 hh5 hh6
 subst hh0 hh1 hh2 hh3 hh4 hh5 hh6
 obtain ⟨x_kind, x_frm, x_to, x_part, x_ep, x_off, x_high, x_life, x_pep, x_chain, x_learner, x_lives, x_batch, x_table, x_req, x_resp⟩ := m
 dsimp only at *
 clear h ok hw hf hcap
 have HI38 := Lib.hid (show (Tryz.prog.info? 44).map (·.size) = some ((.int .i64 x_kind :: .int .i64 x_frm :: .int .i64 x_to :: .int .i64 x_part :: .int .i64 x_ep :: .int .i64 x_off :: .int .i64 x_high :: .int .i64 x_life :: .int .i64 x_pep :: .slice s0 x_chain.length c0 :: .int .i64 x_learner :: .slice s1 x_lives.length c1 :: .int .i64 x_batch.base :: .int .i64 x_batch.count :: .int .i64 x_batch.prod :: .int .i64 x_batch.seq :: .int .i64 x_batch.time :: .slice s2 x_batch.recs.length c2 :: .slice s3 x_table.length c3 :: .int .i64 x_req.client :: .int .i64 x_req.n :: .int .i64 x_req.kind :: .int .i64 x_req.part :: .int .i64 x_req.seq :: .int .i64 x_req.off :: .int .i64 x_req.max :: .int .i64 x_req.gen :: .string ⟨x_req.group.toArray⟩ :: .string ⟨x_req.member.toArray⟩ :: .slice s4 x_req.recs.length c4 :: .int .i64 x_resp.client :: .int .i64 x_resp.n :: .int .i64 x_resp.code :: .int .i64 x_resp.off :: .int .i64 x_resp.high :: .int .i64 x_resp.gen :: .slice s5 x_resp.parts.length c5 :: .slice s6 x_resp.recs.length c6 :: []) : List Value).length by kernel_rfl)
 have HU := Lib.hid Tryz.underlying44
 have HG := Lib.hid (fun (W : World) (hW : Below w.heap.size w W) => wgood_true ⟨x_kind, x_frm, x_to, x_part, x_ep, x_off, x_high, x_life, x_pep, x_chain, x_learner, x_lives, x_batch, x_table, x_req, x_resp⟩ ⟨.slice s0 x_chain.length c0, .slice s1 x_lives.length c1, .slice s2 x_batch.recs.length c2, .slice s3 x_table.length c3, .slice s4 x_req.recs.length c4, .slice s5 x_resp.parts.length c5, .slice s6 x_resp.recs.length c6⟩ W (HM.out.kept hW) HO.out HCP.out (HW.out.below hW) HF.out)
 have HFD := Lib.hid (fun (W : World) (hW : Below w.heap.size w W) => wfields_any ⟨x_kind, x_frm, x_to, x_part, x_ep, x_off, x_high, x_life, x_pep, x_chain, x_learner, x_lives, x_batch, x_table, x_req, x_resp⟩ ⟨.slice s0 x_chain.length c0, .slice s1 x_lives.length c1, .slice s2 x_batch.recs.length c2, .slice s3 x_table.length c3, .slice s4 x_req.recs.length c4, .slice s5 x_resp.parts.length c5, .slice s6 x_resp.recs.length c6⟩ W (HM.out.kept hW) HO.out HF.out (HW.out.below hW))
 have HBL : Hid (∀ W v, Strs W v (Wi.fieldsL ⟨x_kind, x_frm, x_to, x_part, x_ep, x_off, x_high, x_life, x_pep, x_chain, x_learner, x_lives, x_batch, x_table, x_req, x_resp⟩) → Calls Tryz.prog 46 #[v] W fun e w' => e = .returned (.string ⟨(Wi.enc ⟨x_kind, x_frm, x_to, x_part, x_ep, x_off, x_high, x_life, x_pep, x_chain, x_learner, x_lives, x_batch, x_table, x_req, x_resp⟩).toArray⟩) ∧ Below W.heap.size W w') := fun W v hv => by
  have h1 : (Wi.listB (Wi.fieldsL ⟨x_kind, x_frm, x_to, x_part, x_ep, x_off, x_high, x_life, x_pep, x_chain, x_learner, x_lives, x_batch, x_table, x_req, x_resp⟩).flatten).length ≤ 16384 := HLN.out
  unfold Wi.listB at h1
  simp only [List.length_cons, List.length_append] at h1
  exact beadList_any v _ W hv (Nat.le_trans (fieldsL_len _) (by decide)) (by omega)
 have HPT := Lib.hid (fun (W : World) => put_any (Wi.enc ⟨x_kind, x_frm, x_to, x_part, x_ep, x_off, x_high, x_life, x_pep, x_chain, x_learner, x_lives, x_batch, x_table, x_req, x_resp⟩) W HLN.out)
 generalize Wi.enc ⟨x_kind, x_frm, x_to, x_part, x_ep, x_off, x_high, x_life, x_pep, x_chain, x_learner, x_lives, x_batch, x_table, x_req, x_resp⟩ = bb at *
 generalize hbf : Wi.fieldsL ⟨x_kind, x_frm, x_to, x_part, x_ep, x_off, x_high, x_life, x_pep, x_chain, x_learner, x_lives, x_batch, x_table, x_req, x_resp⟩ = bf at *
 clear hbf HLN HF
 unfold msgV msgC at HG HFD ⊢
 dsimp only at HG HFD ⊢
 go_enter Tryz.func23, Tryz.ntmps23
 obtain ⟨w1, hw1, CA, B1⟩ := oneBox (w := w) (.int .i64 x_kind :: .int .i64 x_frm :: .int .i64 x_to :: .int .i64 x_part :: .int .i64 x_ep :: .int .i64 x_off :: .int .i64 x_high :: .int .i64 x_life :: .int .i64 x_pep :: .slice s0 x_chain.length c0 :: .int .i64 x_learner :: .slice s1 x_lives.length c1 :: .int .i64 x_batch.base :: .int .i64 x_batch.count :: .int .i64 x_batch.prod :: .int .i64 x_batch.seq :: .int .i64 x_batch.time :: .slice s2 x_batch.recs.length c2 :: .slice s3 x_table.length c3 :: .int .i64 x_req.client :: .int .i64 x_req.n :: .int .i64 x_req.kind :: .int .i64 x_req.part :: .int .i64 x_req.seq :: .int .i64 x_req.off :: .int .i64 x_req.max :: .int .i64 x_req.gen :: .string ⟨x_req.group.toArray⟩ :: .string ⟨x_req.member.toArray⟩ :: .slice s4 x_req.recs.length c4 :: .int .i64 x_resp.client :: .int .i64 x_resp.n :: .int .i64 x_resp.code :: .int .i64 x_resp.off :: .int .i64 x_resp.high :: .int .i64 x_resp.gen :: .slice s5 x_resp.parts.length c5 :: .slice s6 x_resp.recs.length c6 :: []) 44
 have HW1 := Lib.hid hw1
 clear hw1
 go_upto_region 1 with (fail)
 first | rw [HW1.out] | skip
 clear HW1
 have BW : Hid (∀ W, Below w1.heap.size w1 W → Below w.heap.size w W) := fun W h => bt B1.out h
 obtain ⟨pa, hpa2⟩ : ∃ pa, pa = w.heap.size := ⟨_, rfl⟩
 rw [← hpa2] at CA
 first | rw [← hpa2] | skip
 have HPA := Lib.hid hpa2
 clear hpa2
 have R1 := Lib.hid CA.out.range
 go_wp2_with (refine wpList_load_mid (by rfl) _ _ (by rfl) pa 0 (by rfl) (.int .i64 x_kind :: .int .i64 x_frm :: .int .i64 x_to :: .int .i64 x_part :: .int .i64 x_ep :: .int .i64 x_off :: .int .i64 x_high :: .int .i64 x_life :: .int .i64 x_pep :: .slice s0 x_chain.length c0 :: .int .i64 x_learner :: .slice s1 x_lives.length c1 :: .int .i64 x_batch.base :: .int .i64 x_batch.count :: .int .i64 x_batch.prod :: .int .i64 x_batch.seq :: .int .i64 x_batch.time :: .slice s2 x_batch.recs.length c2 :: .slice s3 x_table.length c3 :: .int .i64 x_req.client :: .int .i64 x_req.n :: .int .i64 x_req.kind :: .int .i64 x_req.part :: .int .i64 x_req.seq :: .int .i64 x_req.off :: .int .i64 x_req.max :: .int .i64 x_req.gen :: .string ⟨x_req.group.toArray⟩ :: .string ⟨x_req.member.toArray⟩ :: .slice s4 x_req.recs.length c4 :: .int .i64 x_resp.client :: .int .i64 x_resp.n :: .int .i64 x_resp.code :: .int .i64 x_resp.off :: .int .i64 x_resp.high :: .int .i64 x_resp.gen :: .slice s5 x_resp.parts.length c5 :: .slice s6 x_resp.recs.length c6 :: []) _ R1.out HU.out (by rfl) HI38.out ?_)
 refine (HG.out _ B1.out).mono ?_
 rintro e w2 ⟨rfl, hb2⟩
 have B2 := Lib.hid (bt B1.out hb2)
 have R2 := Lib.hid (CA.out.below hb2).range
 clear hb2 R1 HG
 go_wp2_with (refine wpList_load_mid (by rfl) _ _ (by rfl) pa 0 (by rfl) (.int .i64 x_kind :: .int .i64 x_frm :: .int .i64 x_to :: .int .i64 x_part :: .int .i64 x_ep :: .int .i64 x_off :: .int .i64 x_high :: .int .i64 x_life :: .int .i64 x_pep :: .slice s0 x_chain.length c0 :: .int .i64 x_learner :: .slice s1 x_lives.length c1 :: .int .i64 x_batch.base :: .int .i64 x_batch.count :: .int .i64 x_batch.prod :: .int .i64 x_batch.seq :: .int .i64 x_batch.time :: .slice s2 x_batch.recs.length c2 :: .slice s3 x_table.length c3 :: .int .i64 x_req.client :: .int .i64 x_req.n :: .int .i64 x_req.kind :: .int .i64 x_req.part :: .int .i64 x_req.seq :: .int .i64 x_req.off :: .int .i64 x_req.max :: .int .i64 x_req.gen :: .string ⟨x_req.group.toArray⟩ :: .string ⟨x_req.member.toArray⟩ :: .slice s4 x_req.recs.length c4 :: .int .i64 x_resp.client :: .int .i64 x_resp.n :: .int .i64 x_resp.code :: .int .i64 x_resp.off :: .int .i64 x_resp.high :: .int .i64 x_resp.gen :: .slice s5 x_resp.parts.length c5 :: .slice s6 x_resp.recs.length c6 :: []) _ R2.out HU.out (by rfl) HI38.out ?_)
 refine (HFD.out _ B2.out).mono ?_
 rintro e w3 ⟨v3, rfl, ho3, hb3⟩
 have B3 := Lib.hid (bt B2.out hb3)
 have S3 := Lib.hid (strs_own ho3)
 clear hb3 ho3 R2 HFD
 go_wp2_with fail
 refine (HBL.out _ _ S3.out).mono ?_
 rintro e w4 ⟨rfl, hb4⟩
 have B4 := Lib.hid (bt B3.out hb4)
 clear hb4 S3 HBL
 go_wp2_with fail
 refine (HPT.out _).mono ?_
 rintro e w5 ⟨rfl, hb5⟩
 have B5 := Lib.hid (bt B4.out hb5)
 clear hb5 HPT
 go_wp2
 go_ret2
 exact ⟨rfl, B5.out⟩
end Go.Proofs.YtbljbdjmgogknaaGreatDoor
namespace Go.Proofs.YtbljbdjmgogknaaGreatDoor
open Go.RowKit
def wencR (m : Wi.Msg) : Value := if Wi.good m then .tuple #[.string ⟨(Frm.put (Wi.enc m)).toArray⟩, .int .i64 0] else .tuple #[.string ⟨#[]⟩, .int .i64 1]
theorem wencode_any (m : Wi.Msg) (v : MsgV) (w : World) (h : MsgAt w m v) (ok : MsgOk m) (hcap : CapOk v.arecs) (hw : Lw w) :
  Calls Tryz.prog 23 #[msgV m v] w fun e w' => e = .returned (wencR m) ∧ Below w.heap.size w w' := by
 unfold wencR
 cases hg : Wi.good m
 ·refine encode_no (msgC m v) rfl w fun W hW => ?_
  have := wgood_any m v W (h.kept hW) ok hcap (hw.below hW)
  rw [hg] at this
  exact this
 ·exact wencode_yes m v w h ok hcap hg hw
end Go.Proofs.YtbljbdjmgogknaaGreatDoor
namespace Go.Proofs.YtbljbdjmgogknaaGreatDoor
open Go.RowKit
theorem recInfo : (Tryz.prog.info? 67).map (fun i => (i.zero, i.size, i.bytes)) = some (some (.agg #[.int .i64 0, .string ⟨#[]⟩, .string ⟨#[]⟩, .bool false]), 4, 48) := by kernel_rfl
def recCells (l : List Cr.Rec) : List Value := l.flatMap fun x => [.int .i64 x.off, .string ⟨x.key.toArray⟩, .string ⟨x.val.toArray⟩, .bool x.gone]
theorem recCells_get : ∀ (l : List Cr.Rec) (k : Nat) (x : Cr.Rec), l[k]? = some x → (recCells l)[k * 4]? = some (.int .i64 x.off) ∧ (recCells l)[k * 4 + 1]? = some (.string ⟨x.key.toArray⟩) ∧ (recCells l)[k * 4 + 2]? = some (.string ⟨x.val.toArray⟩) ∧ (recCells l)[k * 4 + 3]? = some (.bool x.gone) := by
 intro l
 induction l with
 | nil => intro k x h; simp at h
 | cons y l ih =>
  intro k x h
  cases k with
  | zero =>
   simp at h
   subst h
   exact ⟨rfl, rfl, rfl, rfl⟩
  | succ k =>
   have e : recCells (y :: l) = [.int .i64 y.off, .string ⟨y.key.toArray⟩, .string ⟨y.val.toArray⟩, .bool y.gone] ++ recCells l := rfl
   have hk := ih k x (by simpa using h)
   rw [e, show (k + 1) * 4 = 4 + k * 4 by omega]
   simp only [List.cons_append, List.nil_append, Nat.add_assoc, Nat.add_comm 4, List.getElem?_cons_succ]
   exact hk
theorem Sl.recs {w : World} {B : Nat} {v : Value} {l : List Cr.Rec} (h : Sl w B 4 v l.length (recCells l)) : Recs w v l := by
 rcases h.2 with ⟨rfl, h0⟩ | ⟨g, off, cap, rfl, hB, hg, hn, hm, hr, ht⟩
 ·exact ⟨none, 0, by rw [h0], fun i x hx => by
   have := (List.getElem?_eq_some_iff.1 hx).1
   omega⟩
 ·refine ⟨_, cap, rfl, fun i x hx => ⟨g, off, rfl, hg, ?_⟩⟩
  obtain ⟨h0, h1, h2, h3⟩ := recCells_get l i x hx
  exact ⟨hr _ _ h0, by rw [Nat.add_assoc]; exact hr _ _ h1, by rw [Nat.add_assoc]; exact hr _ _ h2, by rw [Nat.add_assoc]; exact hr _ _ h3⟩
def zeroBat : Cr.Batch := ⟨0, 0, 0, 0, 0, []⟩
def BatR (w : World) (o : Option Cr.Batch) (bad : Int) (e : Ending) (w' : World) : Prop :=
 ∃ rv, e = .returned (.tuple #[batV (o.getD zeroBat) rv, .int .i64 (if o.isSome then 0 else bad)]) ∧ Recs w' rv (o.getD zeroBat).recs ∧ Below w.heap.size w w'
theorem recs_none (w : World) : Recs w (.slice none 0 0) [] := ⟨none, 0, rfl, fun i x h => by simp at h⟩
def zeroCells : List Value := [.int .i64 0, .int .i64 0, .int .i64 0, .int .i64 0, .int .i64 0, .slice none 0 0]
theorem BatR.no {w w' : World} {bad : Int} (h : Below w.heap.size w w') : BatR w none bad (.returned (.tuple #[.agg zeroCells.toArray, .int .i64 bad])) w' := ⟨.slice none 0 0, rfl, recs_none w', h⟩
end Go.Proofs.YtbljbdjmgogknaaGreatDoor
namespace Go.Proofs.YtbljbdjmgogknaaGreatDoor
open Go.RowKit
set_option maxRecDepth 20000 in
set_option maxHeartbeats 3200000 in
theorem rec_any (p : Nat) (q : Bd.St) (w : World) (h : Rd w p q) (hl : q.1.length < 4294967281) (hw : ∀ W, Kp w p W → Lw W) :
  Calls Tryz.prog 123 #[.pointer (some ⟨p, 0, none⟩)] w fun e w' => e = .returned (.tuple #[recV (Cr.sRec q).1, .bool (Cr.sRec q).2.1]) ∧ Rds w p (Cr.sRec q).2.2 w' := by
 have HLW := Lib.hid hw
 have X0 : Hid (Rx w p w.heap.size (w.alloc (.cells #[.int .i64 0, .string ⟨#[]⟩, .string ⟨#[]⟩, .bool false] 67)) q [.int .i64 0, .string ⟨#[]⟩, .string ⟨#[]⟩, .bool false] 67) := Rx.new h _ _
 have l1 := sSign_len 108 q
 have l2 := sInt_len (Bd.sSign 108 q)
 have l3 := sText_len 16 (Bd.sInt (Bd.sSign 108 q)).2
 have l4 := sText_len 64 (Bd.sText 16 (Bd.sInt (Bd.sSign 108 q)).2).2
 have HS : Hid (Cr.sRec q = (let q1 := Bd.sSign 108 q
  let o := Bd.sInt q1
  let k := Bd.sText 16 o.2
  let v := Bd.sText 64 k.2
  let g := Bd.sInt v.2
  (⟨o.1, k.1, v.1, g.1 == 1⟩, g.1 == Cr.flag (g.1 == 1), Bd.sSign 101 g.2))) := rfl
 clear h hw
 generalize hq1 : Bd.sSign 108 q = q1 at *
 have HQ1 := Lib.hid hq1
 clear hq1
 generalize hi : Bd.sInt q1 = o1 at *
 obtain ⟨o, q2⟩ := o1
 generalize hk : Bd.sText 16 q2 = o2 at *
 obtain ⟨k, q3⟩ := o2
 generalize hv : Bd.sText 64 q3 = o3 at *
 obtain ⟨v, q4⟩ := o3
 generalize hg : Bd.sInt q4 = o4 at *
 obtain ⟨g, q5⟩ := o4
 dsimp only at *
 have HI := Lib.hid hi
 have HK := Lib.hid hk
 have HV := Lib.hid hv
 have HG := Lib.hid hg
 clear hi hk hv hg
 have HO := Lib.hid (open_any p q _ X0.out.1)
 rw [HQ1.out] at HO
 go_enter Tryz.func123, Tryz.ntmps123
 go_wp2_with fail
 refine HO.out.mono ?_
 rintro e w1 ⟨rfl, h1⟩
 have X1 := Lib.hid (X0.out.call h1)
 clear h1 X0 HO
 generalize hx : w.heap.size = x at *
 have C2 := Lib.hid (int_any p q1 w1 X1.out.1 (by omega) (HLW.out _ X1.out.2.2.2.2))
 rw [HI.out] at C2
 go_wp2_with fail
 refine C2.out.mono ?_
 rintro e w2 ⟨rfl, h2⟩
 have Y2 := Lib.hid (X1.out.call h2)
 clear h2 X1 C2
 obtain ⟨c0, c1, c2, c3⟩ := Y2.out.2.1.cell4
 have f0 := Y2.out.2.1.free 0
 have Z2 := Lib.hid (Y2.out.store 0 (.int .i64 o))
 go_wp2_with fail
 have X2 : Hid (Rx w p x (w2.setCell ⟨x, 0, none⟩ (.int .i64 o)) _ [.int .i64 o, .string ⟨#[]⟩, .string ⟨#[]⟩, .bool false] 67) := Z2.out
 clear Y2 Z2 c0 c1 c2 c3 f0
 generalize w2.setCell ⟨x, 0, none⟩ (.int .i64 o) = w2 at *
 have C3 := Lib.hid (text_any p 16 q2 w2 X2.out.1 (by omega) (HLW.out _ X2.out.2.2.2.2))
 rw [HK.out] at C3
 go_wp2_with fail
 refine C3.out.mono ?_
 rintro e w3 ⟨rfl, h3⟩
 have Y3 := Lib.hid (X2.out.call h3)
 clear h3 X2 C3
 obtain ⟨c0, c1, c2, c3⟩ := Y3.out.2.1.cell4
 have f0 := Y3.out.2.1.free 1
 have Z3 := Lib.hid (Y3.out.store 1 (.string ⟨k.toArray⟩))
 go_wp2_with fail
 have X3 : Hid (Rx w p x (w3.setCell ⟨x, 1, none⟩ (.string ⟨k.toArray⟩)) _ [.int .i64 o, .string ⟨k.toArray⟩, .string ⟨#[]⟩, .bool false] 67) := Z3.out
 clear Y3 Z3 c0 c1 c2 c3 f0
 generalize w3.setCell ⟨x, 1, none⟩ (.string ⟨k.toArray⟩) = w3 at *
 have C4 := Lib.hid (text_any p 64 q3 w3 X3.out.1 (by omega) (HLW.out _ X3.out.2.2.2.2))
 rw [HV.out] at C4
 go_wp2_with fail
 refine C4.out.mono ?_
 rintro e w4 ⟨rfl, h4⟩
 have Y4 := Lib.hid (X3.out.call h4)
 clear h4 X3 C4
 obtain ⟨c0, c1, c2, c3⟩ := Y4.out.2.1.cell4
 have f0 := Y4.out.2.1.free 2
 have Z4 := Lib.hid (Y4.out.store 2 (.string ⟨v.toArray⟩))
 go_wp2_with fail
 have X4 : Hid (Rx w p x (w4.setCell ⟨x, 2, none⟩ (.string ⟨v.toArray⟩)) _ [.int .i64 o, .string ⟨k.toArray⟩, .string ⟨v.toArray⟩, .bool false] 67) := Z4.out
 clear Y4 Z4 c0 c1 c2 c3 f0
 generalize w4.setCell ⟨x, 2, none⟩ (.string ⟨v.toArray⟩) = w4 at *
 have C5 := Lib.hid (int_any p q4 w4 X4.out.1 (by omega) (HLW.out _ X4.out.2.2.2.2))
 rw [HG.out] at C5
 refine C5.out.mono ?_
 rintro e w5 ⟨rfl, h5⟩
 have X5 := Lib.hid (X4.out.call h5)
 clear h5 X4 C5
 go_wp2_with fail
 refine (close_any p _ w5 X5.out.1).mono ?_
 rintro e w7 ⟨rfl, h7⟩
 have X7 := Lib.hid (X5.out.call h7)
 clear h7 X5
 obtain ⟨c0, c1, c2, c3⟩ := X7.out.2.1.cell4
 have f0 := X7.out.2.1.free 3
 have X8 : Hid (Rx w p x (w7.setCell ⟨x, 3, none⟩ (.bool (g == 1))) _ [.int .i64 o, .string ⟨k.toArray⟩, .string ⟨v.toArray⟩, .bool (g == 1)] 67) := X7.out.store 3 (.bool (g == 1))
 clear X7
 go_wp2_with fail
 clear c0 c1 c2 c3 f0
 generalize w7.setCell ⟨x, 3, none⟩ (.bool (g == 1)) = w8 at *
 generalize hgb : (g == 1) = gb at *
 have hgf : Cr.flag gb = if gb then 1 else 0 := rfl
 have X9 := Lib.hid X8.out.drew
 obtain ⟨c0, c1, c2, c3⟩ := X9.out.2.1.cell4
 obtain ⟨f0, f1, f2, f3, -, -⟩ := X9.out.2.1.free6
 obtain ⟨d0, d1, d2, d3⟩ := X8.out.2.1.cell4
 obtain ⟨g0, g1, g2, g3, -, -⟩ := X8.out.2.1.free6
 have XA : Hid (Rx w p x ((((w8.drew.setCell ⟨x, 0, none⟩ (.int .i64 o)).setCell ⟨x, 1, none⟩ (.string ⟨k.toArray⟩)).setCell ⟨x, 2, none⟩ (.string ⟨v.toArray⟩)).setCell ⟨x, 3, none⟩ (.bool gb)) _ [.int .i64 o, .string ⟨k.toArray⟩, .string ⟨v.toArray⟩, .bool gb] 67) :=
  (((X9.out.store 0 (.int .i64 o)).store 1 (.string ⟨k.toArray⟩)).store 2 (.string ⟨v.toArray⟩)).store 3 (.bool gb)
 have HSA := Lib.hid XA.out.2.1.cell4
 have HS9 := Lib.hid X9.out.2.1.cell4
 generalize hfl : Cr.flag gb = fl at *
 have HFL := Lib.hid (fun W => flag_any gb W)
 rw [hfl] at HFL
 clear hgf
 go_region_held3 (fun W => W.cell? ⟨x, 0, none⟩ = some (.int .i64 o) ∧ W.cell? ⟨x, 1, none⟩ = some (.string ⟨k.toArray⟩) ∧ W.cell? ⟨x, 2, none⟩ = some (.string ⟨v.toArray⟩) ∧ W.cell? ⟨x, 3, none⟩ = some (.bool gb)) (first | assumption | exact HS9.out | exact HSA.out) (first
  | (go_at_call 114; refine (HFL.out _).mono ?_; rintro e w94 ⟨rfl, rfl⟩)
  | fail)
 go_wp2
 refine bodyPost_ret (results_cl_tmp rfl _ _ _ _ _ _ rfl XA.out.2.1 Tryz.underlying67 rfl (by kernel_rfl)) rfl ?_
 refine ⟨?_, ?_⟩
 ·rw [HS.out]
  simp only [HI.out, HK.out, HV.out, HG.out, hgb, hfl]
  rfl
 ·rw [HS.out]
  simp only [HI.out, HK.out, HV.out, HG.out]
  exact XA.out.done
end Go.Proofs.YtbljbdjmgogknaaGreatDoor
