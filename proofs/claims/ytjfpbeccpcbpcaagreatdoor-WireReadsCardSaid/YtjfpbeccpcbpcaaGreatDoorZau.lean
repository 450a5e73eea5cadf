/-
  Wu1 / Wu2 / Cwg / Cwf / Cwh: texts of one proof, one behind the other.
  Conditions: none of its own.
-/
import Derived.Test.YtjfpbeccpcbpcaaGreatDoorZat
import Derived.Lib.SlicesMore
set_option linter.unusedVariables false
set_option linter.unusedSimpArgs false
set_option maxHeartbeats 12800000
set_option maxRecDepth 20000
namespace Go.Proofs.YtjfpbeccpcbpcaaGreatDoor
open Go.RowKit
theorem fieldsL_len (m : Wi.Msg) : (Wi.fieldsL m).length ≤ 16 := by
 have h1 : (Wi.headL m).length ≤ 5 := by unfold Wi.headL; split <;> simp
 have h2 : (Wi.tailL m).length ≤ 11 := by unfold Wi.tailL; (repeat' split) <;> simp [Wi.reqNumsL, Wi.respNumsL]
 rw [Wi.fieldsL, List.length_append]; omega
theorem wgood_true (m : Wi.Msg) (v : MsgV) (w : World) (h : MsgAt w m v) (ok : MsgOk m) (hcap : CapOk v.arecs) (hw : Lw w) (hg : Wi.good m = true) :
  Calls Tryz.prog 13 #[msgV m v] w fun e w' => e = .returned (.bool true) ∧ Below w.heap.size w w' := by
 have := wgood_any m v w h ok hcap hw
 rw [hg] at this
 exact this
theorem wencode_of (m : Wi.Msg) (v : MsgV) (w : World) (h : MsgAt w m v) (ok : MsgOk m) (hcap : CapOk v.arecs) (hf : Wi.good m = true) (hw : Lw w) (hfd : ∀ W, Below w.heap.size w W → Calls Tryz.prog 23 #[msgV m v] W (WStrs W (Wi.fieldsL m))) :
  Calls Tryz.prog 11 #[msgV m v] w fun e w' => e = .returned (.tuple #[.string ⟨(Frm.put (Wi.enc m)).toArray⟩, .int .i64 0]) ∧ Below w.heap.size w w' := by
 have HW := hq' hw
 have HM := hq' h
 have HO := hq' ok
 have HF := hq' hf
 have HLN := hq' (Wi.enc_le hf)
 have HCP := hq' hcap
 obtain ⟨s0, c0, s1, c1, s2, c2, s3, c3, s4, c4, s5, c5, s6, c6, rfl⟩ := h.slices
 obtain ⟨x_kind, x_frm, x_to, x_part, x_ep, x_off, x_high, x_life, x_pep, x_chain, x_learner, x_lives, x_batch, x_table, x_req, x_resp⟩ := m
 dsimp only at *
 clear h ok hw hf hcap
 have HI38 := hq' (show (Tryz.prog.info? 36).map (·.size) = some ((.int .i64 x_kind :: .int .i64 x_frm :: .int .i64 x_to :: xt x_part x_ep x_off x_high x_life x_pep x_chain x_learner x_lives x_batch x_table x_req x_resp s0 c0 s1 c1 s2 c2 s3 c3 s4 c4 s5 c5 s6 c6) : List Value).length by kernel_rfl)
 have HU := hq' Tryz.underlying36
 have HG := hq' (fun (W : World) (hW : Below w.heap.size w W) => wgood_true ⟨x_kind, x_frm, x_to, x_part, x_ep, x_off, x_high, x_life, x_pep, x_chain, x_learner, x_lives, x_batch, x_table, x_req, x_resp⟩ ⟨.slice s0 x_chain.length c0, .slice s1 x_lives.length c1, .slice s2 x_batch.recs.length c2, .slice s3 x_table.length c3, .slice s4 x_req.recs.length c4, .slice s5 x_resp.parts.length c5, .slice s6 x_resp.recs.length c6⟩ W (HM.out.kept hW) HO.out HCP.out (HW.out.below hW) HF.out)
 have HFD := hq' hfd
 clear hfd
 have HBL : Hid (∀ W v, Strs W v (Wi.fieldsL ⟨x_kind, x_frm, x_to, x_part, x_ep, x_off, x_high, x_life, x_pep, x_chain, x_learner, x_lives, x_batch, x_table, x_req, x_resp⟩) → Calls Tryz.prog 22 #[v] W fun e w' => e = .returned (.string ⟨(Wi.enc ⟨x_kind, x_frm, x_to, x_part, x_ep, x_off, x_high, x_life, x_pep, x_chain, x_learner, x_lives, x_batch, x_table, x_req, x_resp⟩).toArray⟩) ∧ Below W.heap.size W w') := fun W v hv => by
  have h1 : (Wi.listB (Wi.fieldsL ⟨x_kind, x_frm, x_to, x_part, x_ep, x_off, x_high, x_life, x_pep, x_chain, x_learner, x_lives, x_batch, x_table, x_req, x_resp⟩).flatten).length ≤ 16384 := HLN.out
  unfold Wi.listB at h1
  simp only [List.length_cons, List.length_append] at h1
  exact beadList_any v _ W hv (Nat.le_trans (fieldsL_len _) (by decide)) (by omega)
 have HPT := hq' (fun (W : World) => put_any (Wi.enc ⟨x_kind, x_frm, x_to, x_part, x_ep, x_off, x_high, x_life, x_pep, x_chain, x_learner, x_lives, x_batch, x_table, x_req, x_resp⟩) W HLN.out)
 generalize Wi.enc ⟨x_kind, x_frm, x_to, x_part, x_ep, x_off, x_high, x_life, x_pep, x_chain, x_learner, x_lives, x_batch, x_table, x_req, x_resp⟩ = bb at *
 generalize hbf : Wi.fieldsL ⟨x_kind, x_frm, x_to, x_part, x_ep, x_off, x_high, x_life, x_pep, x_chain, x_learner, x_lives, x_batch, x_table, x_req, x_resp⟩ = bf at *
 clear hbf HLN HF
 unfold msgV msgC at HG HFD ⊢
 dsimp only at HG HFD ⊢
 go_enter Tryz.func11, Tryz.ntmps11
 obtain ⟨w1, hw1, CA, B1⟩ := oneBox (w := w) (.int .i64 x_kind :: .int .i64 x_frm :: .int .i64 x_to :: xt x_part x_ep x_off x_high x_life x_pep x_chain x_learner x_lives x_batch x_table x_req x_resp s0 c0 s1 c1 s2 c2 s3 c3 s4 c4 s5 c5 s6 c6) 36
 have HW1 := hq' hw1
 clear hw1
 go_upto_region 1 with (fail)
 first | rw [HW1.out] | skip
 clear HW1
 have BW : Hid (∀ W, Below w1.heap.size w1 W → Below w.heap.size w W) := fun W h => bt B1.out h
 obtain ⟨pa, hpa2⟩ : ∃ pa, pa = w.heap.size := ⟨_, rfl⟩
 rw [← hpa2] at CA
 first | rw [← hpa2] | skip
 have HPA := hq' hpa2
 clear hpa2
 have R1 := hq' CA.out.range
 go_wp2_with (refine wpList_load_mid (by rfl) _ _ (by rfl) pa 0 (by rfl) (.int .i64 x_kind :: .int .i64 x_frm :: .int .i64 x_to :: xt x_part x_ep x_off x_high x_life x_pep x_chain x_learner x_lives x_batch x_table x_req x_resp s0 c0 s1 c1 s2 c2 s3 c3 s4 c4 s5 c5 s6 c6) _ R1.out HU.out (by rfl) HI38.out ?_)
 refine (HG.out _ B1.out).mono ?_
 rintro e w2 ⟨rfl, hb2⟩
 have B2 := hq' (bt B1.out hb2)
 have R2 := hq' (CA.out.below hb2).range
 clear hb2 R1 HG
 go_wp2_with (refine wpList_load_mid (by rfl) _ _ (by rfl) pa 0 (by rfl) (.int .i64 x_kind :: .int .i64 x_frm :: .int .i64 x_to :: xt x_part x_ep x_off x_high x_life x_pep x_chain x_learner x_lives x_batch x_table x_req x_resp s0 c0 s1 c1 s2 c2 s3 c3 s4 c4 s5 c5 s6 c6) _ R2.out HU.out (by rfl) HI38.out ?_)
 refine (HFD.out _ B2.out).mono ?_
 rintro e w3 ⟨v3, rfl, ho3, hb3⟩
 have B3 := hq' (bt B2.out hb3)
 have S3 := hq' (strs_own ho3)
 clear hb3 ho3 R2 HFD
 go_wp2_with fail
 refine (HBL.out _ _ S3.out).mono ?_
 rintro e w4 ⟨rfl, hb4⟩
 have B4 := hq' (bt B3.out hb4)
 clear hb4 S3 HBL
 go_wp2_with fail
 refine (HPT.out _).mono ?_
 rintro e w5 ⟨rfl, hb5⟩
 have B5 := hq' (bt B4.out hb5)
 clear hb5 HPT
 go_wp2
 go_ret2
 exact ⟨rfl, B5.out⟩
theorem recInfo : (Tryz.prog.info? 107).map (fun i => (i.zero, i.size, i.bytes)) = some (some (.agg #[.int .i64 0, .string ⟨#[]⟩, .string ⟨#[]⟩, .bool false]), 4, 48) := by kernel_rfl
def recCells (l : List Cr.Rec) : List Value := l.flatMap fun x => [.int .i64 x.off, .string ⟨x.key.toArray⟩, .string ⟨x.val.toArray⟩, .bool x.gone]
theorem recCells_get : ∀ (l : List Cr.Rec) (k : Nat) (x : Cr.Rec), l[k]? = some x → (recCells l)[k * 4]? = some (.int .i64 x.off) ∧ (recCells l)[k * 4 + 1]? = some (.string ⟨x.key.toArray⟩) ∧ (recCells l)[k * 4 + 2]? = some (.string ⟨x.val.toArray⟩) ∧ (recCells l)[k * 4 + 3]? = some (.bool x.gone) := by
 intro l
 induction l with
 | nil => intro k x h; simp at h
 | cons y l ih =>
  intro k x h
  cases k with
  | zero =>
   simp at h
   subst h
   exact ⟨rfl, rfl, rfl, rfl⟩
  | succ k =>
   have e : recCells (y :: l) = [.int .i64 y.off, .string ⟨y.key.toArray⟩, .string ⟨y.val.toArray⟩, .bool y.gone] ++ recCells l := rfl
   have hk := ih k x (by simpa using h)
   rw [e, show (k + 1) * 4 = 4 + k * 4 by omega]
   simp only [List.cons_append, List.nil_append, Nat.add_assoc, Nat.add_comm 4, List.getElem?_cons_succ]
   exact hk
theorem Sl.recs {w : World} {B : Nat} {v : Value} {l : List Cr.Rec} (h : Sl w B 4 v l.length (recCells l)) : Recs w v l := by
 rcases h.2 with ⟨rfl, h0⟩ | ⟨g, off, cap, rfl, hB, hg, hn, hm, hr, ht⟩
 ·exact ⟨none, 0, by rw [h0], fun i x hx => by
   have := (List.getElem?_eq_some_iff.1 hx).1
   omega⟩
 ·refine ⟨_, cap, rfl, fun i x hx => ⟨g, off, rfl, hg, ?_⟩⟩
  obtain ⟨h0, h1, h2, h3⟩ := recCells_get l i x hx
  exact ⟨hr _ _ h0, by rw [Nat.add_assoc]; exact hr _ _ h1, by rw [Nat.add_assoc]; exact hr _ _ h2, by rw [Nat.add_assoc]; exact hr _ _ h3⟩
def zeroBat : Cr.Batch := ⟨0, 0, 0, 0, 0, []⟩
def BatR (w : World) (o : Option Cr.Batch) (bad : Int) (e : Ending) (w' : World) : Prop :=
 ∃ rv, e = .returned (.tuple #[batV (o.getD zeroBat) rv, .int .i64 (if o.isSome then 0 else bad)]) ∧ Recs w' rv (o.getD zeroBat).recs ∧ Below w.heap.size w w'
theorem recs_none (w : World) : Recs w (.slice none 0 0) [] := ⟨none, 0, rfl, fun i x h => by simp at h⟩
def zeroCells : List Value := [.int .i64 0, .int .i64 0, .int .i64 0, .int .i64 0, .int .i64 0, .slice none 0 0]
theorem BatR.no {w w' : World} {bad : Int} (h : Below w.heap.size w w') : BatR w none bad (.returned (.tuple #[.agg zeroCells.toArray, .int .i64 bad])) w' := ⟨.slice none 0 0, rfl, recs_none w', h⟩
theorem rec_any (p : Nat) (q : Bd.St) (w : World) (h : Rd w p q) (hl : q.1.length < 4294967281) (hw : ∀ W, Kp w p W → Lw W) :
  Calls Tryz.prog 142 #[.pointer (some ⟨p, 0, none⟩)] w fun e w' => e = .returned (.tuple #[recV (Cr.sRec q).1, .bool (Cr.sRec q).2.1]) ∧ Rds w p (Cr.sRec q).2.2 w' := by
 have HLW := hq' hw
 have X0 : Hid (Rx w p w.heap.size (w.alloc (.cells #[.int .i64 0, .string ⟨#[]⟩, .string ⟨#[]⟩, .bool false] 107)) q [.int .i64 0, .string ⟨#[]⟩, .string ⟨#[]⟩, .bool false] 107) := Rx.new h _ _
 have l1 := sSign_len 108 q
 have l2 := sInt_len (Bd.sSign 108 q)
 have l3 := sText_len 16 (Bd.sInt (Bd.sSign 108 q)).2
 have l4 := sText_len 64 (Bd.sText 16 (Bd.sInt (Bd.sSign 108 q)).2).2
 have HS : Hid (Cr.sRec q = (let q1 := Bd.sSign 108 q
  let o := Bd.sInt q1
  let k := Bd.sText 16 o.2
  let v := Bd.sText 64 k.2
  let g := Bd.sInt v.2
  (⟨o.1, k.1, v.1, g.1 == 1⟩, g.1 == Cr.flag (g.1 == 1), Bd.sSign 101 g.2))) := rfl
 clear h hw
 generalize hq1 : Bd.sSign 108 q = q1 at *
 have HQ1 := hq' hq1
 clear hq1
 generalize hi : Bd.sInt q1 = o1 at *
 obtain ⟨o, q2⟩ := o1
 generalize hk : Bd.sText 16 q2 = o2 at *
 obtain ⟨k, q3⟩ := o2
 generalize hv : Bd.sText 64 q3 = o3 at *
 obtain ⟨v, q4⟩ := o3
 generalize hg : Bd.sInt q4 = o4 at *
 obtain ⟨g, q5⟩ := o4
 dsimp only at *
 have HI := hq' hi
 have HK := hq' hk
 have HV := hq' hv
 have HG := hq' hg
 clear hi hk hv hg
 have HO := hq' (open_any p q _ X0.out.1)
 rw [HQ1.out] at HO
 go_enter Tryz.func142, Tryz.ntmps142
 go_wp2_with fail
 refine HO.out.mono ?_
 rintro e w1 ⟨rfl, h1⟩
 have X1 := hq' (X0.out.call h1)
 clear h1 X0 HO
 generalize hx : w.heap.size = x at *
 have C2 := hq' (int_any p q1 w1 X1.out.1 (by omega) (HLW.out _ X1.out.2.2.2.2))
 rw [HI.out] at C2
 go_wp2_with fail
 refine C2.out.mono ?_
 rintro e w2 ⟨rfl, h2⟩
 have Y2 := hq' (X1.out.call h2)
 clear h2 X1 C2
 obtain ⟨c0, c1, c2, c3⟩ := Y2.out.2.1.cell4
 have f0 := Y2.out.2.1.free 0
 have Z2 := hq' (Y2.out.store 0 (.int .i64 o))
 go_wp2_with fail
 have X2 : Hid (Rx w p x (w2.setCell ⟨x, 0, none⟩ (.int .i64 o)) _ [.int .i64 o, .string ⟨#[]⟩, .string ⟨#[]⟩, .bool false] 107) := Z2.out
 clear Y2 Z2 c0 c1 c2 c3 f0
 generalize w2.setCell ⟨x, 0, none⟩ (.int .i64 o) = w2 at *
 have C3 := hq' (text_any p 16 q2 w2 X2.out.1 (by omega) (HLW.out _ X2.out.2.2.2.2))
 rw [HK.out] at C3
 go_wp2_with fail
 refine C3.out.mono ?_
 rintro e w3 ⟨rfl, h3⟩
 have Y3 := hq' (X2.out.call h3)
 clear h3 X2 C3
 obtain ⟨c0, c1, c2, c3⟩ := Y3.out.2.1.cell4
 have f0 := Y3.out.2.1.free 1
 have Z3 := hq' (Y3.out.store 1 (.string ⟨k.toArray⟩))
 go_wp2_with fail
 have X3 : Hid (Rx w p x (w3.setCell ⟨x, 1, none⟩ (.string ⟨k.toArray⟩)) _ [.int .i64 o, .string ⟨k.toArray⟩, .string ⟨#[]⟩, .bool false] 107) := Z3.out
 clear Y3 Z3 c0 c1 c2 c3 f0
 generalize w3.setCell ⟨x, 1, none⟩ (.string ⟨k.toArray⟩) = w3 at *
 have C4 := hq' (text_any p 64 q3 w3 X3.out.1 (by omega) (HLW.out _ X3.out.2.2.2.2))
 rw [HV.out] at C4
 go_wp2_with fail
 refine C4.out.mono ?_
 rintro e w4 ⟨rfl, h4⟩
 have Y4 := hq' (X3.out.call h4)
 clear h4 X3 C4
 obtain ⟨c0, c1, c2, c3⟩ := Y4.out.2.1.cell4
 have f0 := Y4.out.2.1.free 2
 have Z4 := hq' (Y4.out.store 2 (.string ⟨v.toArray⟩))
 go_wp2_with fail
 have X4 : Hid (Rx w p x (w4.setCell ⟨x, 2, none⟩ (.string ⟨v.toArray⟩)) _ [.int .i64 o, .string ⟨k.toArray⟩, .string ⟨v.toArray⟩, .bool false] 107) := Z4.out
 clear Y4 Z4 c0 c1 c2 c3 f0
 generalize w4.setCell ⟨x, 2, none⟩ (.string ⟨v.toArray⟩) = w4 at *
 have C5 := hq' (int_any p q4 w4 X4.out.1 (by omega) (HLW.out _ X4.out.2.2.2.2))
 rw [HG.out] at C5
 refine C5.out.mono ?_
 rintro e w5 ⟨rfl, h5⟩
 have X5 := hq' (X4.out.call h5)
 clear h5 X4 C5
 go_wp2_with fail
 refine (close_any p _ w5 X5.out.1).mono ?_
 rintro e w7 ⟨rfl, h7⟩
 have X7 := hq' (X5.out.call h7)
 clear h7 X5
 obtain ⟨c0, c1, c2, c3⟩ := X7.out.2.1.cell4
 have f0 := X7.out.2.1.free 3
 have X8 : Hid (Rx w p x (w7.setCell ⟨x, 3, none⟩ (.bool (g == 1))) _ [.int .i64 o, .string ⟨k.toArray⟩, .string ⟨v.toArray⟩, .bool (g == 1)] 107) := X7.out.store 3 (.bool (g == 1))
 clear X7
 go_wp2_with fail
 clear c0 c1 c2 c3 f0
 generalize w7.setCell ⟨x, 3, none⟩ (.bool (g == 1)) = w8 at *
 generalize hgb : (g == 1) = gb at *
 have hgf : Cr.flag gb = if gb then 1 else 0 := rfl
 have X9 := hq' X8.out.drew
 obtain ⟨c0, c1, c2, c3⟩ := X9.out.2.1.cell4
 obtain ⟨f0, f1, f2, f3, -, -⟩ := X9.out.2.1.free6
 obtain ⟨d0, d1, d2, d3⟩ := X8.out.2.1.cell4
 obtain ⟨g0, g1, g2, g3, -, -⟩ := X8.out.2.1.free6
 have XA : Hid (Rx w p x ((((w8.drew.setCell ⟨x, 0, none⟩ (.int .i64 o)).setCell ⟨x, 1, none⟩ (.string ⟨k.toArray⟩)).setCell ⟨x, 2, none⟩ (.string ⟨v.toArray⟩)).setCell ⟨x, 3, none⟩ (.bool gb)) _ [.int .i64 o, .string ⟨k.toArray⟩, .string ⟨v.toArray⟩, .bool gb] 107) :=
  (((X9.out.store 0 (.int .i64 o)).store 1 (.string ⟨k.toArray⟩)).store 2 (.string ⟨v.toArray⟩)).store 3 (.bool gb)
 have HSA := hq' XA.out.2.1.cell4
 have HS9 := hq' X9.out.2.1.cell4
 generalize hfl : Cr.flag gb = fl at *
 have HFL := hq' (fun W => flag_any gb W)
 rw [hfl] at HFL
 clear hgf
 go_region_held3 (fun W => W.cell? ⟨x, 0, none⟩ = some (.int .i64 o) ∧ W.cell? ⟨x, 1, none⟩ = some (.string ⟨k.toArray⟩) ∧ W.cell? ⟨x, 2, none⟩ = some (.string ⟨v.toArray⟩) ∧ W.cell? ⟨x, 3, none⟩ = some (.bool gb)) (first | assumption | exact HS9.out | exact HSA.out) (first
  | (go_at_call 127; refine (HFL.out _).mono ?_; rintro e w94 ⟨rfl, rfl⟩)
  | fail)
 go_wp2
 refine bodyPost_ret (results_cl_tmp rfl _ _ _ _ _ _ rfl XA.out.2.1 Tryz.underlying107 rfl (by kernel_rfl)) rfl ?_
 refine ⟨?_, ?_⟩
 ·rw [HS.out]
  simp only [HI.out, HK.out, HV.out, HG.out, hgb, hfl]
  rfl
 ·rw [HS.out]
  simp only [HI.out, HK.out, HV.out, HG.out]
  exact XA.out.done
def stN (q : Bd.St) : Nat → Bd.St
 | 0 => q
 | k + 1 => (Bd.sInt (stN q k)).2
def vN (q : Bd.St) (k : Nat) : Int := (Bd.sInt (stN q k)).1
def upN (q : Bd.St) (k j : Nat) : Value := .int .i64 (if j < k then vN q j else 0)
def cellsN (q : Bd.St) (k : Nat) (v : Value) : List Value := [upN q k 0, upN q k 1, upN q k 2, upN q k 3, upN q k 4, v]
theorem cellsN_get (q : Bd.St) (k : Nat) (hk : k < 5) (v : Value) : (cellsN q k v)[k]? = some (.int .i64 0) := by
 match k, hk with
 | 0, _ => rfl
 | 1, _ => rfl
 | 2, _ => rfl
 | 3, _ => rfl
 | 4, _ => rfl
theorem cellsN_set (q : Bd.St) (k : Nat) (hk : k < 5) (v : Value) : (cellsN q k v).set k (.int .i64 (vN q k)) = cellsN q (k + 1) v := by
 match k, hk with
 | 0, _ => rfl
 | 1, _ => rfl
 | 2, _ => rfl
 | 3, _ => rfl
 | 4, _ => rfl
theorem sNums_N (q : Bd.St) : Cr.sNums q = (vN q 0, vN q 1, vN q 2, vN q 3, vN q 4, stN q 5) := rfl
theorem stN_len (q : Bd.St) : ∀ k, (stN q k).1.length ≤ q.1.length := by
 intro k
 induction k with
 | zero => exact Nat.le_refl _
 | succ k ih => exact Nat.le_trans (sInt_len _) ih
theorem sRec_len (q : Bd.St) : (Cr.sRec q).2.2.1.length ≤ q.1.length :=
 Nat.le_trans (sSign_len _ _) (Nat.le_trans (sInt_len _) (Nat.le_trans (sText_len _ _) (Nat.le_trans (sText_len _ _) (Nat.le_trans (sInt_len _) (sSign_len _ _)))))
theorem sRec_ok (q : Bd.St) (hl : q.1.length < 4294967281) : RecOk (Cr.sRec q).1 := by
 have l1 := sSign_len 108 q
 have l2 := sInt_len (Bd.sSign 108 q)
 have l3 := sText_len 16 (Bd.sInt (Bd.sSign 108 q)).2
 have l4 := sText_le 16 (Bd.sInt (Bd.sSign 108 q)).2
 have l5 := sText_le 64 (Bd.sText 16 (Bd.sInt (Bd.sSign 108 q)).2).2
 refine ⟨sInt_inR _, ?_, ?_⟩
 ·unfold maxLen
  show (Bd.sText 16 (Bd.sInt (Bd.sSign 108 q)).2).1.length ≤ _
  omega
 ·unfold maxLen
  show (Bd.sText 64 (Bd.sText 16 (Bd.sInt (Bd.sSign 108 q)).2).2).1.length ≤ _
  omega
theorem ownsRow_keeps {w w' : World} {base j : Nat} {e : TypeId} {size : Nat} {v : Value} {n : Nat} {xs : List Value} (h : w.ownsRow base e size v n xs) (k : Keeps (fun i => i = j) w w') (hj : j < base) : w'.ownsRow base e size v n xs := by
 refine World.ownsRow.kept (row := some j) h ⟨k.os, k.tape, k.output, k.size, fun i hi hne => k.block i hi (fun e => hne (by rw [e]))⟩ ?_
 rcases hv : v.ownBlock with _ | g
 ·exact .inl rfl
 ·right
  intro e
  have := (h.lt g hv).1
  injection e with e
  omega
theorem ownsRow_cell {w : World} {base : Nat} {e : TypeId} {size : Nat} {v : Value} {n : Nat} {xs : List Value} (h : w.ownsRow base e size v n xs) (a : Addr) (u : Value) (hj : a.block < base) : (w.setCell a u).ownsRow base e size v n xs :=
 ownsRow_keeps (j := a.block) h (Keeps.setCell _ _ _ _ rfl) hj
def ptrsN (x : Nat) : List Value := [.pointer (some ⟨x, 0, none⟩), .pointer (some ⟨x, 1, none⟩), .pointer (some ⟨x, 2, none⟩), .pointer (some ⟨x, 3, none⟩), .pointer (some ⟨x, 4, none⟩)]
theorem ptrsN_get (x k : Nat) (hk : k < 5) : (ptrsN x)[k]? = some (.pointer (some ⟨x, k, none⟩)) := by
 match k, hk with
 | 0, _ => rfl
 | 1, _ => rfl
 | 2, _ => rfl
 | 3, _ => rfl
 | 4, _ => rfl
def lenAt (w : World) (g : Nat) : Nat := match w.cell? ⟨g, 5, none⟩ with
 | some (.slice _ n _) => n
 | _ => 0
theorem lenAt_of {W : World} {g n : Nat} {a b c d e : Value} {t : TypeId} {ao : Option Addr} {cap : Nat} (h : Cl W g [a, b, c, d, e, .slice ao n cap] t) : lenAt W g = n := by
 have := h.cell 5
 unfold lenAt
 rw [this]
 rfl
theorem sRecs_step (n : Nat) (acc : List Cr.Rec) (q : Bd.St) (hm : Bd.sMore q = true) : Cr.sRecs (n + 1) acc q = if (Cr.sRec q).2.1 && decide (acc.length ≤ 8) then Cr.sRecs n (acc ++ [(Cr.sRec q).1]) (Cr.sRec q).2.2 else none := by
 rw [Cr.sRecs, if_pos hm]
theorem sRecs_stop (n : Nat) (acc : List Cr.Rec) (q : Bd.St) (hm : Bd.sMore q = false) : Cr.sRecs (n + 1) acc q = some (acc, q) := by
 rw [Cr.sRecs, if_neg (by rw [hm]; simp)]
theorem recCells_app (l : List Cr.Rec) (x : Cr.Rec) : recCells (l ++ [x]) = recCells l ++ [.int .i64 x.off, .string ⟨x.key.toArray⟩, .string ⟨x.val.toArray⟩, .bool x.gone] := by simp [recCells]
theorem own_weaken {w : World} {b b' : Nat} {e : TypeId} {size : Nat} {v : Value} {n : Nat} {xs : List Value} (h : w.ownsRow b e size v n xs) (hb : b' ≤ b) : w.ownsRow b' e size v n xs := by
 refine ⟨h.1, ?_⟩
 rcases h.2 with h2 | ⟨g, cap, cur, e1, hB, r⟩
 ·exact .inl h2
 ·exact .inr ⟨g, cap, cur, e1, Nat.le_trans hb hB, r⟩
def BatO (w : World) (o : Option Cr.Batch) (bad : Int) (e : Ending) (w' : World) : Prop :=
 ∃ rv, e = .returned (.tuple #[batV (o.getD zeroBat) rv, .int .i64 (if o.isSome then 0 else bad)]) ∧ w'.ownsRow w.heap.size 107 4 rv (o.getD zeroBat).recs.length (recCells (o.getD zeroBat).recs) ∧ BatOk (o.getD zeroBat) ∧ Below w.heap.size w w'
theorem BatO.no {w w' : World} {bad : Int} (h : Below w.heap.size w w') : BatO w none bad (.returned (.tuple #[.agg zeroCells.toArray, .int .i64 bad])) w' :=
 ⟨.slice none 0 0, rfl, ⟨rfl, .inl ⟨rfl, rfl⟩⟩, ⟨⟨by decide, by decide⟩, ⟨by decide, by decide⟩, ⟨by decide, by decide⟩, ⟨by decide, by decide⟩, ⟨by decide, by decide⟩, by unfold maxLen; exact Nat.zero_le _, fun x hx => by cases hx⟩, h⟩
theorem decode_own (s : List UInt8) (hs : s.length < 4294967281) (w : World) (hw : Lw w) :
  Calls Tryz.prog 115 #[.string ⟨s.toArray⟩] w (BatO w (Cr.dec s) 3) := by
 have HW := hq' hw
 have hs1 := World.size_alloc w (.cells #[.int .i64 0, .int .i64 0, .int .i64 0, .int .i64 0, .int .i64 0, .slice none 0 0] 28)
 have K0 : Hid (Keeps (fun k => k = w.heap.size + 1 ∨ w.heap.size ≤ k) w (w.alloc (.cells #[.int .i64 0, .int .i64 0, .int .i64 0, .int .i64 0, .int .i64 0, .slice none 0 0] 28))) := Keeps.alloc _ _ _
 have C0 : Hid (Cl (w.alloc (.cells #[.int .i64 0, .int .i64 0, .int .i64 0, .int .i64 0, .int .i64 0, .slice none 0 0] 28)) w.heap.size zeroCells 28) := Cl.new w zeroCells 28
 have HD : Hid (Cr.dec s = Cr.fin (Cr.sNums (Bd.sSign 108 (s, false))) (Cr.sRecs 11 [] (Cr.sNums (Bd.sSign 108 (s, false))).2.2.2.2.2)) := Cr.dec_fin s
 have hq : (Bd.sSign 108 (s, false)).1.length ≤ s.length := sSign_len 108 (s, false)
 have HQ : Hid (∀ W, Rd W (w.heap.size + 1) (s, false) → Calls Tryz.prog 62 #[.pointer (some ⟨w.heap.size + 1, 0, none⟩)] W fun e w' => e = .returned (.tuple #[]) ∧ Rds W (w.heap.size + 1) (Bd.sSign 108 (s, false)) w') := fun W h => open_any _ _ _ h
 generalize Bd.sSign 108 (s, false) = q at *
 rw [sNums_N] at HD
 clear hw
 go_enter Tryz.func115, Tryz.ntmps115
 go_wp2_with fail
 refine wp_scope_fwd 0 rfl ?_
 go_wp2_with fail
 refine (new_any s _).mono ?_
 rintro e w1 ⟨rfl, rfl⟩
 have X1 : Hid (Rx w (w.heap.size + 1) w.heap.size ((w.alloc (.cells #[.int .i64 0, .int .i64 0, .int .i64 0, .int .i64 0, .int .i64 0, .slice none 0 0] 28)).alloc (.cells #[.string ⟨s.toArray⟩, .bool false] 124)) (s, false) zeroCells 28) :=
  ⟨by have := Rd.new s (w.alloc (.cells #[.int .i64 0, .int .i64 0, .int .i64 0, .int .i64 0, .int .i64 0, .slice none 0 0] 28)); rwa [hs1] at this, C0.out.alloc _, by omega, Nat.le_refl _, K0.out.trans (Keeps.alloc _ _ _)⟩
 rw [hs1]
 clear C0 K0 hs1
 generalize hp : w.heap.size + 1 = p at *
 generalize hx : w.heap.size = x at *
 go_wp2_with fail
 refine (HQ.out _ X1.out.1).mono ?_
 rintro e w2 ⟨rfl, h2⟩
 have X2 := hq' (X1.out.call h2)
 have hpl := X2.out.1.lt
 clear h2 X1 HQ
 have P3 : Hid (Cl (w2.alloc (.cells #[.pointer (some ⟨x, 0, none⟩), .pointer (some ⟨x, 1, none⟩), .pointer (some ⟨x, 2, none⟩), .pointer (some ⟨x, 3, none⟩), .pointer (some ⟨x, 4, none⟩)] 153)) w2.heap.size (ptrsN x) 153) := Cl.new w2 (ptrsN x) _
 have X3 : Hid (Rx w p x (w2.alloc (.cells #[.pointer (some ⟨x, 0, none⟩), .pointer (some ⟨x, 1, none⟩), .pointer (some ⟨x, 2, none⟩), .pointer (some ⟨x, 3, none⟩), .pointer (some ⟨x, 4, none⟩)] 153)) (stN q 0) (cellsN q 0 (.slice none 0 0)) 28) :=
  ⟨X2.out.1.keep (S := fun _ => False) (Keeps.alloc _ _ _) id, X2.out.2.1.alloc _, X2.out.2.2.1, X2.out.2.2.2.1, X2.out.2.2.2.2.trans (Keeps.alloc _ _ _)⟩
 have hpx : p ≠ w2.heap.size := by omega
 have hxx : x ≠ w2.heap.size := by omega
 clear X2
 go_wp2_with fail
 generalize w2.alloc (.cells #[.pointer (some ⟨x, 0, none⟩), .pointer (some ⟨x, 1, none⟩), .pointer (some ⟨x, 2, none⟩), .pointer (some ⟨x, 3, none⟩), .pointer (some ⟨x, 4, none⟩)] 153) = w3 at *
 generalize w2.heap.size = pb at *
 go_loopw [20] (fun i wr => ∃ k : Nat, i = .int .i64 k ∧ k ≤ 5 ∧ Rx w p x wr (stN q k) (cellsN q k (.slice none 0 0)) 28 ∧ Cl wr pb (ptrsN x) 153) (fun i _ => 5 - (intOf i).toNat)
 case atStart => exact ⟨0, rfl, by omega, X3.out, P3.out⟩
 case round =>
  obtain ⟨k, rfl, hk, hrx, hcl⟩ := hrel
  have X4 := hq' hrx
  have P4 := hq' hcl
  clear hrx hcl X3 P3
  by_cases hlt : k < 5
  ·have hc1 := (P4.out.cell k).trans (ptrsN_get x k hlt)
   have hln := stN_len q k
   have HN : Hid (Calls Tryz.prog 111 #[.pointer (some ⟨p, 0, none⟩)] wr (RdV (.int .i64 (vN q k)) wr p (stN q (k + 1)))) := int_any p (stN q k) wr X4.out.1 (by omega) (X4.out.2.2.2.2.lw HW.out (by omega))
   have HCS := cellsN_set q k hlt (.slice none 0 0)
   have HCG := cellsN_get q k hlt (.slice none 0 0)
   go_wp2_with fail
   refine HN.out.mono ?_
   rintro e w5 ⟨rfl, h5⟩
   have X5 := hq' (X4.out.call h5)
   have P5 := hq' (P4.out.keep h5.2 (fun e => hpx e.symm))
   have d0 := (X5.out.2.1.cell k).trans HCG
   have f0 := X5.out.2.1.free k
   have X6 : Hid (Rx w p x (w5.setCell ⟨x, k, none⟩ (.int .i64 (vN q k))) (stN q (k + 1)) (cellsN q (k + 1) (.slice none 0 0)) 28) := by
    rw [← HCS]
    exact X5.out.store k _
   have P6 := hq' (P5.out.other ⟨x, k, none⟩ (.int .i64 (vN q k)) hxx)
   clear h5 X4 P4 HN HCS HCG X5 P5
   generalize vN q k = n at *
   go_wp2
   go_roundw
   case rel => exact ⟨k + 1, by go_num, by omega, X6.out, P6.out⟩
   case measure => simp [intOf]; omega
  ·obtain rfl : k = 5 := by omega
   have hln := stN_len q 5
   have X5 : Hid (Rx w p x wr (stN q 5) [.int .i64 (vN q 0), .int .i64 (vN q 1), .int .i64 (vN q 2), .int .i64 (vN q 3), .int .i64 (vN q 4), .slice none 0 0] 28) := X4.out
   have HV : Hid (Bd.inR (vN q 0) ∧ Bd.inR (vN q 1) ∧ Bd.inR (vN q 2) ∧ Bd.inR (vN q 3) ∧ Bd.inR (vN q 4)) := ⟨sInt_inR _, sInt_inR _, sInt_inR _, sInt_inR _, sInt_inR _⟩
   have HDN : Hid (Cr.sRecs 11 [] (stN q 5) = none → Cr.dec s = none) := fun h => by rw [HD.out, h]; rfl
   have HDS : Hid (∀ rs qz, Cr.sRecs 11 [] (stN q 5) = some (rs, qz) → Cr.dec s = if (decide (Bd.sDone (Bd.sSign 101 qz) = 0) && Cr.good ⟨vN q 0, vN q 1, vN q 2, vN q 3, vN q 4, rs⟩) then some ⟨vN q 0, vN q 1, vN q 2, vN q 3, vN q 4, rs⟩ else none) := fun rs qz h => by rw [HD.out, h]; rfl
   clear X4 P4 HD
   rw [show ((5 : Nat) : Int) = 5 from rfl]
   generalize vN q 0 = n0 at *
   generalize vN q 1 = n1 at *
   generalize vN q 2 = n2 at *
   generalize vN q 3 = n3 at *
   generalize vN q 4 = n4 at *
   generalize stN q 5 = q5 at *
   have hB := X5.out.1.lt
   generalize wr = w7 at *
   go_wp2_with fail
   go_loopw [30] (fun _ wr => ∃ (acc : List Cr.Rec) (qq : Bd.St) (v : Value), Rx w p x wr qq [.int .i64 n0, .int .i64 n1, .int .i64 n2, .int .i64 n3, .int .i64 n4, v] 28 ∧ wr.ownsRow w7.heap.size 107 4 v acc.length (recCells acc) ∧ acc.length ≤ 9 ∧
    Cr.sRecs 11 [] q5 = Cr.sRecs (11 - acc.length) acc qq ∧ qq.1.length ≤ q5.1.length ∧ (∀ x ∈ acc, RecOk x) ∧ w7.heap.size ≤ wr.heap.size) (fun _ W => 10 - lenAt W x)
   case atStart => exact ⟨[], q5, .slice none 0 0, X5.out, ⟨rfl, .inl ⟨rfl, rfl⟩⟩, by simp, rfl, Nat.le_refl _, by simp, Nat.le_refl _⟩
   case round =>
    obtain ⟨acc, qq, v, hrx, hown, hal, hsr, hql, hao, hbs⟩ := hrel
    have X8 := hq' hrx
    have O8 := hq' hown
    have HSR := hq' hsr
    have HAO := hq' hao
    have hn11 : 11 - acc.length = (10 - acc.length) + 1 := by omega
    have HLW : Hid (∀ W, Kp wr p W → Lw W) := fun W hW => (X8.out.2.2.2.2.trans hW).lw HW.out (by omega)
    have HM := hq' (more_any p qq wr X8.out.1)
    have HST := hq' (sRecs_step (10 - acc.length) acc qq)
    have HSP := hq' (sRecs_stop (10 - acc.length) acc qq)
    rw [hn11] at HSR
    obtain ⟨c0, c1, c2, c3, c4, c5⟩ := X8.out.2.1.cell6
    clear hrx hown hsr hao
    cases hm : Bd.sMore qq with
    | true =>
     have HS2 : Hid (Cr.sRecs 11 [] q5 = if (Cr.sRec qq).2.1 && decide (acc.length ≤ 8) then Cr.sRecs (10 - acc.length) (acc ++ [(Cr.sRec qq).1]) (Cr.sRec qq).2.2 else none) := by rw [Hid, HSR.out, HST.out hm]
     have HRC := hq' (rec_any p qq wr X8.out.1 (by omega) HLW.out)
     have hrl := sRec_len qq
     have HRO := hq' (sRec_ok qq (by omega))
     rw [hm] at HM
     clear hm HST HSP HSR
     generalize (Cr.sRec qq).1 = rx at *
     generalize hok : (Cr.sRec qq).2.1 = ok at *
     generalize (Cr.sRec qq).2.2 = q9 at *
     obtain ⟨r0, rk, rv, rg⟩ := rx
     unfold recV at HRC
     dsimp only at *
     go_wp2_with fail
     refine HM.out.mono ?_
     rintro e w8 ⟨rfl, rfl⟩
     go_wp2_with fail
     refine HRC.out.mono ?_
     rintro e w9 ⟨rfl, h9⟩
     have X9 := hq' (X8.out.call h9)
     have O9 := hq' (ownsRow_keeps O8.out h9.2 (by omega))
     have hs9 := h9.2.size
     have XA : Hid (Rx w p x (w9.alloc (.cells #[.int .i64 r0, .string ⟨rk.toArray⟩, .string ⟨rv.toArray⟩, .bool rg] 107)) q9 [.int .i64 n0, .int .i64 n1, .int .i64 n2, .int .i64 n3, .int .i64 n4, v] 28) :=
      ⟨X9.out.1.keep (S := fun _ => False) (Keeps.alloc _ _ _) id, X9.out.2.1.alloc _, X9.out.2.2.1, X9.out.2.2.2.1, X9.out.2.2.2.2.trans (Keeps.alloc _ _ _)⟩
     have CA : Hid (Cl (w9.alloc (.cells #[.int .i64 r0, .string ⟨rk.toArray⟩, .string ⟨rv.toArray⟩, .bool rg] 107)) w9.heap.size [.int .i64 r0, .string ⟨rk.toArray⟩, .string ⟨rv.toArray⟩, .bool rg] 107) := Cl.new _ _ _
     have OA := hq' (World.ownsRow.alloc O9.out (.cells #[.int .i64 r0, .string ⟨rk.toArray⟩, .string ⟨rv.toArray⟩, .bool rg] 107))
     have hsa := World.size_alloc w9 (.cells #[.int .i64 r0, .string ⟨rk.toArray⟩, .string ⟨rv.toArray⟩, .bool rg] 107)
     have X8' := hq' X8.out.2.1
     clear h9 X9 O9 c0 c1 c2 c3 c4 c5 X8 O8
     obtain ⟨c0, c1, c2, c3, c4, c5⟩ := XA.out.2.1.cell6
     obtain ⟨f0, f1, f2, f3, f4, f5⟩ := XA.out.2.1.free6
     obtain ⟨t0, t1, t2, t3⟩ := CA.out.cell4
     obtain ⟨av, capv, hve, hcv⟩ : ∃ a c, v = .slice a acc.length c ∧ True := by
      rcases OA.out.2 with ⟨rfl, h0⟩ | ⟨g, cap, cur, rfl, _⟩
      ·exact ⟨none, 0, by rw [h0], trivial⟩
      ·exact ⟨_, _, rfl, trivial⟩
     subst hve
     have HL0 := hq' (lenAt_of X8'.out)
     have hlA : w9.heap.size < (w9.alloc (.cells #[.int .i64 r0, .string ⟨rk.toArray⟩, .string ⟨rv.toArray⟩, .bool rg] 107)).heap.size := by omega
     clear hsa
     go_upto_region 10 with (fail)
     generalize w9.alloc (.cells #[.int .i64 r0, .string ⟨rk.toArray⟩, .string ⟨rv.toArray⟩, .bool rg] 107) = wA at *
     cases ok with
     | false =>
      have HNO : Hid (Cr.dec s = none) := HDN.out (by rw [HS2.out]; rfl)
      go_wp2
      go_step3
      refine ⟨rfl, ?_⟩
      go_wp2
      rw [Exit.noGoto_ret]
      have Z := (((((XA.out.store 0 (.int .i64 0)).store 1 (.int .i64 0)).store 2 (.int .i64 0)).store 3 (.int .i64 0)).store 4 (.int .i64 0)).store 5 (.slice none 0 0)
      refine bodyPost_ret (results_cl_tmp rfl _ _ _ _ _ _ rfl Z.2.1 Tryz.underlying28 rfl (by kernel_rfl)) rfl ?_
      rw [HNO.out]
      exact BatO.no (Z.bel (by omega))
     | true =>
      by_cases hl8 : acc.length ≤ 8
      ·have HS3 : Hid (Cr.sRecs 11 [] q5 = Cr.sRecs (10 - acc.length) (acc ++ [⟨r0, rk, rv, rg⟩]) q9) := by rw [Hid, HS2.out, decide_eq_true hl8]; rfl
       obtain ⟨i0, hi, hz0, hz1, hz2⟩ := info_parts recInfo
       have hone : ∀ u ∈ [Value.int .i64 r0, .string ⟨rk.toArray⟩, .string ⟨rv.toArray⟩, .bool rg], u.oneCell' = true := by simp [Value.oneCell']
       have hbase : w7.heap.size ≤ wA.heap.size := by omega
       clear HS2 HDS HRC HM
       go_wp2_with (at_builtin; refine wpList_append_own _ rfl (.tmp 45) (.tmp 47) 26 rfl w7.heap.size 107 i0 _ 4 48 Tryz.underlying26 hi hz0 hz1 hz2 rfl (by decide) _ _ _ rfl (World.ownsRow.alloc OA.out _) ⟨wA.heap.size, 0, none⟩ 1 1 [.int .i64 r0, .string ⟨rk.toArray⟩, .string ⟨rv.toArray⟩, .bool rg] rfl rfl (World.news_of_block (cs := #[.int .i64 r0, .string ⟨rk.toArray⟩, .string ⟨rv.toArray⟩, .bool rg]) (t := 107) (fr := (0, 0)) (heap_alloc_new wA _)) hone ?_ ?_ ?_ ?_)
       ·unfold maxLen; omega
       ·omega
       ·simp; omega
       intro v' wB hownB hgB _
       have OB : Hid (wB.ownsRow w7.heap.size 107 4 v' (acc ++ [(⟨r0, rk, rv, rg⟩ : Cr.Rec)]).length (recCells (acc ++ [⟨r0, rk, rv, rg⟩]))) := by
        rw [Hid, recCells_app, List.length_append]
        exact hownB
       have KB : Hid (Keeps (fun j => w7.heap.size ≤ j) wA wB) := (Keeps.alloc _ _ _).trans (Keeps.grown hgB (fun j hj => (OA.out.lt j hj).1))
       have XB := hq' (XA.out.keeps KB.out (by omega) (by omega))
       have hsB := KB.out.size
       obtain ⟨av', capv', hve'⟩ : ∃ a c, v' = .slice a (acc.length + 1) c := by
        rcases hownB.2 with ⟨_, h0⟩ | ⟨g, cap, cur, rfl, _⟩
        ·omega
        ·exact ⟨_, _, rfl⟩
       subst hve'
       clear hownB hgB KB c0 c1 c2 c3 c4 c5 f0 f1 f2 f3 f4 f5 t0 t1 t2 t3
       obtain ⟨c0, c1, c2, c3, c4, c5⟩ := XB.out.2.1.cell6
       obtain ⟨f0, f1, f2, f3, f4, f5⟩ := XB.out.2.1.free6
       have XC : Hid (Rx w p x (wB.setCell ⟨x, 5, none⟩ (.slice av' (acc.length + 1) capv')) q9 [.int .i64 n0, .int .i64 n1, .int .i64 n2, .int .i64 n3, .int .i64 n4, .slice av' (acc.length + 1) capv'] 28) := XB.out.store 5 _
       have OC := hq' (ownsRow_cell OB.out ⟨x, 5, none⟩ (.slice av' (acc.length + 1) capv') (by simp only; omega))
       have hsC : w7.heap.size ≤ (wB.setCell ⟨x, 5, none⟩ (.slice av' (acc.length + 1) capv')).heap.size := by
        have : (wB.setCell ⟨x, 5, none⟩ (.slice av' (acc.length + 1) capv')).heap.size = wB.heap.size := by simp [World.setCell]
        omega
       have HL1 := hq' (lenAt_of XC.out.2.1)
       go_wp2
       go_roundw
       case rel =>
        refine ⟨acc ++ [(⟨r0, rk, rv, rg⟩ : Cr.Rec)], q9, _, XC.out, OC.out, by rw [List.length_append, List.length_singleton]; omega, ?_, by omega, ?_, hsC⟩
        ·rw [HS3.out, List.length_append, List.length_singleton, show 11 - (acc.length + 1) = 10 - acc.length by omega]
        ·intro y hy
         rcases List.mem_append.1 hy with hy | hy
         ·exact HAO.out y hy
         ·rw [List.mem_singleton.1 hy]; exact HRO.out
       case measure =>
        rw [HL1.out, HL0.out]
        omega
      ·have HNO : Hid (Cr.dec s = none) := HDN.out (by rw [HS2.out, decide_eq_false hl8]; rfl)
       go_wp2
       go_step3
       refine ⟨rfl, ?_⟩
       go_wp2
       rw [Exit.noGoto_ret]
       have Z := (((((XA.out.store 0 (.int .i64 0)).store 1 (.int .i64 0)).store 2 (.int .i64 0)).store 3 (.int .i64 0)).store 4 (.int .i64 0)).store 5 (.slice none 0 0)
       refine bodyPost_ret (results_cl_tmp rfl _ _ _ _ _ _ rfl Z.2.1 Tryz.underlying28 rfl (by kernel_rfl)) rfl ?_
       rw [HNO.out]
       exact BatO.no (Z.bel (by omega))
    | false =>
     have HFN := hq' (HDS.out acc qq (by rw [HSR.out, HSP.out hm]))
     rw [hm] at HM
     have HCL := hq' (close_any p qq wr X8.out.1)
     have HRS : Hid (∀ W, Recs W v acc → True) := fun _ _ => trivial
     clear hm HST HSP HSR HDN HDS HRS
     generalize Bd.sSign 101 qq = qa at *
     go_wp2_with fail
     refine HM.out.mono ?_
     rintro e w8 ⟨rfl, rfl⟩
     go_wp2_with fail
     refine HCL.out.mono ?_
     rintro e w9 ⟨rfl, h9⟩
     have X9 := hq' (X8.out.call h9)
     have O9 := hq' (ownsRow_keeps O8.out h9.2 (by omega))
     clear h9 X8 O8 HCL HM c0 c1 c2 c3 c4 c5
     obtain ⟨av, capv, hve⟩ : ∃ a c, v = .slice a acc.length c := by
      rcases O9.out.2 with ⟨rfl, h0⟩ | ⟨g, cap, cur, rfl, _⟩
      ·exact ⟨none, 0, by rw [h0]⟩
      ·exact ⟨_, _, rfl⟩
     subst hve
     obtain ⟨c0, c1, c2, c3, c4, c5⟩ := X9.out.2.1.cell6
     obtain ⟨f0, f1, f2, f3, f4, f5⟩ := X9.out.2.1.free6
     have HDN9 := hq' (done_any p qa w9 X9.out.1)
     by_cases hd : Bd.sDone qa = 0
     ·rw [hd] at HDN9
      have HG := hq' (good_any ⟨n0, n1, n2, n3, n4, acc⟩ ⟨HV.out.1, HV.out.2.1, HV.out.2.2.1, HV.out.2.2.2.1, HV.out.2.2.2.2, by unfold maxLen; show acc.length ≤ _; omega, HAO.out⟩ (.slice av acc.length capv) w9 (Sl.ofOwn O9.out).recs)
      unfold batV at HG
      dsimp only at HG
      rw [decide_eq_true hd] at HFN
      cases hgd : Cr.good ⟨n0, n1, n2, n3, n4, acc⟩ with
      | true =>
       rw [hgd] at HG HFN
       clear hgd hd
       go_wp2_with fail
       refine HDN9.out.mono ?_
       rintro e w9' ⟨rfl, rfl⟩
       go_wp2_with fail
       refine HG.out.mono ?_
       rintro e wA ⟨rfl, hbA⟩
       have XA := hq' (X9.out.below hbA)
       have OA := hq' (ownsRow_below O9.out hbA)
       clear hbA X9 O9 HG c0 c1 c2 c3 c4 c5 f0 f1 f2 f3 f4 f5
       obtain ⟨c0, c1, c2, c3, c4, c5⟩ := XA.out.2.1.cell6
       obtain ⟨f0, f1, f2, f3, f4, f5⟩ := XA.out.2.1.free6
       go_wp2
       have Z := (((((XA.out.store 0 (.int .i64 n0)).store 1 (.int .i64 n1)).store 2 (.int .i64 n2)).store 3 (.int .i64 n3)).store 4 (.int .i64 n4)).store 5 (.slice av acc.length capv)
       have O := ownsRow_cell (ownsRow_cell (ownsRow_cell (ownsRow_cell (ownsRow_cell (ownsRow_cell OA.out ⟨x, 0, none⟩ (.int .i64 n0) (by simp only; omega)) ⟨x, 1, none⟩ (.int .i64 n1) (by simp only; omega)) ⟨x, 2, none⟩ (.int .i64 n2) (by simp only; omega)) ⟨x, 3, none⟩ (.int .i64 n3) (by simp only; omega)) ⟨x, 4, none⟩ (.int .i64 n4) (by simp only; omega)) ⟨x, 5, none⟩ (.slice av acc.length capv) (by simp only; omega)
       refine bodyPost_ret (results_cl_tmp rfl _ _ _ _ _ _ rfl Z.2.1 Tryz.underlying28 rfl (by kernel_rfl)) rfl ?_
       rw [HFN.out]
       exact ⟨.slice av acc.length capv, rfl, own_weaken O (by omega), ⟨HV.out.1, HV.out.2.1, HV.out.2.2.1, HV.out.2.2.2.1, HV.out.2.2.2.2, by unfold maxLen; show acc.length ≤ _; omega, HAO.out⟩, Z.bel (by omega)⟩
      | false =>
       rw [hgd] at HG HFN
       clear hgd hd
       have HNO : Hid (Cr.dec s = none) := HFN.out
       go_wp2_with fail
       refine HDN9.out.mono ?_
       rintro e w9' ⟨rfl, rfl⟩
       go_wp2_with fail
       refine HG.out.mono ?_
       rintro e wA ⟨rfl, hbA⟩
       have XA := hq' (X9.out.below hbA)
       clear hbA X9 O9 HG c0 c1 c2 c3 c4 c5 f0 f1 f2 f3 f4 f5
       obtain ⟨c0, c1, c2, c3, c4, c5⟩ := XA.out.2.1.cell6
       obtain ⟨f0, f1, f2, f3, f4, f5⟩ := XA.out.2.1.free6
       go_wp2
       refine wp_label ?_
       go_wp2
       try simp only [Exit.jump]
       have Z := (((((XA.out.store 0 (.int .i64 0)).store 1 (.int .i64 0)).store 2 (.int .i64 0)).store 3 (.int .i64 0)).store 4 (.int .i64 0)).store 5 (.slice none 0 0)
       refine bodyPost_ret (results_cl_tmp rfl _ _ _ _ _ _ rfl Z.2.1 Tryz.underlying28 rfl (by kernel_rfl)) rfl ?_
       rw [HNO.out]
       exact BatO.no (Z.bel (by omega))
     ·have HNO : Hid (Cr.dec s = none) := by rw [Hid, HFN.out, decide_eq_false hd]; rfl
      have hd2 : (Bd.sDone qa == 0) = false := by simpa using hd
      generalize Bd.sDone qa = dn at *
      go_wp2_with fail
      refine HDN9.out.mono ?_
      rintro e w9' ⟨rfl, rfl⟩
      go_wp2
      try simp only [Exit.jump]
      refine wp_label ?_
      go_wp2
      have Z := (((((X9.out.store 0 (.int .i64 0)).store 1 (.int .i64 0)).store 2 (.int .i64 0)).store 3 (.int .i64 0)).store 4 (.int .i64 0)).store 5 (.slice none 0 0)
      refine bodyPost_ret (results_cl_tmp rfl _ _ _ _ _ _ rfl Z.2.1 Tryz.underlying28 rfl (by kernel_rfl)) rfl ?_
      rw [HNO.out]
      exact BatO.no (Z.bel (by omega))
end Go.Proofs.YtjfpbeccpcbpcaaGreatDoor
