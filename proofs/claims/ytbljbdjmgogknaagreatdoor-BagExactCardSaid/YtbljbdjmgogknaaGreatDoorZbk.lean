/-
  Yc: texts of one proof, one behind the other.
  Conditions: none of its own.
-/
import Derived.Test.YtbljbdjmgogknaaGreatDoorZbi
import Derived.Test.YtbljbdjmgogknaaGreatDoorZbj
set_option linter.unusedVariables false
set_option linter.unusedSimpArgs false
set_option maxHeartbeats 25600000
set_option maxRecDepth 20000
namespace Go.Proofs.YtbljbdjmgogknaaGreatDoor
open Go.RowKit
theorem refsameM_any (a b : Wi.Msg) (va vb : MsgV) (w : World) (ha : MsgAt w a va) (hb : MsgAt w b vb) (oa : MsgOk a) (ob : MsgOk b) :
  Calls Tryz.prog 14 #[msgV a va,msgV b vb] w fun e w' => e = .returned (.bool (Wi.same a b)) ∧ Below w.heap.size w w' := by
 have HA := hq' ha
 have HB := hq' hb
 have OA := hq' oa
 have OB := hq' ob
 obtain ⟨s0,sc0,hh0⟩ := ha.chain.form
 obtain ⟨s1,sc1,hh1⟩ := ha.lives.form
 obtain ⟨s2,sc2,hh2⟩ := ha.brecs.form
 obtain ⟨s3,sc3,hh3⟩ := ha.table.form
 obtain ⟨s4,sc4,hh4⟩ := ha.qrecs.form
 obtain ⟨s5,sc5,hh5⟩ := ha.parts.form
 obtain ⟨s6,sc6,hh6⟩ := ha.arecs.form
 obtain ⟨va0,va1,va2,va3,va4,va5,va6⟩ := va
 dsimp only at hh0 hh1 hh2 hh3 hh4 hh5 hh6
 subst hh0 hh1 hh2 hh3 hh4 hh5 hh6
 obtain ⟨t0,tc0,hh0⟩ := hb.chain.form
 obtain ⟨t1,tc1,hh1⟩ := hb.lives.form
 obtain ⟨t2,tc2,hh2⟩ := hb.brecs.form
 obtain ⟨t3,tc3,hh3⟩ := hb.table.form
 obtain ⟨t4,tc4,hh4⟩ := hb.qrecs.form
 obtain ⟨t5,tc5,hh5⟩ := hb.parts.form
 obtain ⟨t6,tc6,hh6⟩ := hb.arecs.form
 obtain ⟨vb0,vb1,vb2,vb3,vb4,vb5,vb6⟩ := vb
 dsimp only at hh0 hh1 hh2 hh3 hh4 hh5 hh6
 subst hh0 hh1 hh2 hh3 hh4 hh5 hh6
 obtain ⟨x_kind,x_frm,x_to,x_part,x_ep,x_off,x_high,x_life,x_pep,x_chain,x_learner,x_lives,x_batch,x_table,x_req,x_resp⟩ := a
 obtain ⟨y_kind,y_frm,y_to,y_part,y_ep,y_off,y_high,y_life,y_pep,y_chain,y_learner,y_lives,y_batch,y_table,y_req,y_resp⟩ := b
 dsimp only at *
 have HE : Hid (Wi.same ⟨x_kind,x_frm,x_to,x_part,x_ep,x_off,x_high,x_life,x_pep,x_chain,x_learner,x_lives,x_batch,x_table,x_req,x_resp⟩ ⟨y_kind,y_frm,y_to,y_part,y_ep,y_off,y_high,y_life,y_pep,y_chain,y_learner,y_lives,y_batch,y_table,y_req,y_resp⟩ = (Wi.nums ⟨x_kind,x_frm,x_to,x_part,x_ep,x_off,x_high,x_life,x_pep,x_chain,x_learner,x_lives,x_batch,x_table,x_req,x_resp⟩ ⟨y_kind,y_frm,y_to,y_part,y_ep,y_off,y_high,y_life,y_pep,y_chain,y_learner,y_lives,y_batch,y_table,y_req,y_resp⟩ && ((decide (x_pep = y_pep) && (decide (x_learner = y_learner) && decide (x_chain = y_chain))) && (decide (x_lives = y_lives) && (Cr.same x_batch y_batch && (decide (x_table = y_table) && (Wi.reqEq x_req y_req && Wi.respEq x_resp y_resp))))))) := by
  rw [Hid]
  unfold Wi.same Wi.places
  simp only [Bool.and_assoc]
 generalize hr : Wi.same ⟨x_kind,x_frm,x_to,x_part,x_ep,x_off,x_high,x_life,x_pep,x_chain,x_learner,x_lives,x_batch,x_table,x_req,x_resp⟩ ⟨y_kind,y_frm,y_to,y_part,y_ep,y_off,y_high,y_life,y_pep,y_chain,y_learner,y_lives,y_batch,y_table,y_req,y_resp⟩ = res at *
 clear hr ha hb oa ob
 unfold msgV msgC
 dsimp only
 go_enter Tryz.func14,Tryz.ntmps14
 obtain ⟨w1,hw1,CA,CB,B1⟩ := twoBox (w := w) [.int .i64 x_kind,.int .i64 x_frm,.int .i64 x_to,.int .i64 x_part,.int .i64 x_ep,.int .i64 x_off,.int .i64 x_high,.int .i64 x_life,.int .i64 x_pep,.slice s0 x_chain.length sc0,.int .i64 x_learner,.slice s1 x_lives.length sc1,.int .i64 x_batch.base,.int .i64 x_batch.count,.int .i64 x_batch.prod,.int .i64 x_batch.seq,.int .i64 x_batch.time,.slice s2 x_batch.recs.length sc2,.slice s3 x_table.length sc3,.int .i64 x_req.client,.int .i64 x_req.n,.int .i64 x_req.kind,.int .i64 x_req.part,.int .i64 x_req.seq,.int .i64 x_req.off,.int .i64 x_req.max,.int .i64 x_req.gen,.string ⟨x_req.group.toArray⟩,.string ⟨x_req.member.toArray⟩,.slice s4 x_req.recs.length sc4,.int .i64 x_resp.client,.int .i64 x_resp.n,.int .i64 x_resp.code,.int .i64 x_resp.off,.int .i64 x_resp.high,.int .i64 x_resp.gen,.slice s5 x_resp.parts.length sc5,.slice s6 x_resp.recs.length sc6] [.int .i64 y_kind,.int .i64 y_frm,.int .i64 y_to,.int .i64 y_part,.int .i64 y_ep,.int .i64 y_off,.int .i64 y_high,.int .i64 y_life,.int .i64 y_pep,.slice t0 y_chain.length tc0,.int .i64 y_learner,.slice t1 y_lives.length tc1,.int .i64 y_batch.base,.int .i64 y_batch.count,.int .i64 y_batch.prod,.int .i64 y_batch.seq,.int .i64 y_batch.time,.slice t2 y_batch.recs.length tc2,.slice t3 y_table.length tc3,.int .i64 y_req.client,.int .i64 y_req.n,.int .i64 y_req.kind,.int .i64 y_req.part,.int .i64 y_req.seq,.int .i64 y_req.off,.int .i64 y_req.max,.int .i64 y_req.gen,.string ⟨y_req.group.toArray⟩,.string ⟨y_req.member.toArray⟩,.slice t4 y_req.recs.length tc4,.int .i64 y_resp.client,.int .i64 y_resp.n,.int .i64 y_resp.code,.int .i64 y_resp.off,.int .i64 y_resp.high,.int .i64 y_resp.gen,.slice t5 y_resp.parts.length tc5,.slice t6 y_resp.recs.length tc6] 44
 go_upto_region 1 with (fail)
 first | rw [hw1] | skip
 clear hw1
 generalize w.heap.size + 1 = pb at *
 have MA := hq' (HA.out.kept B1.out)
 have MB := hq' (HB.out.kept B1.out)
 have BW : Hid (∀ W,Below w1.heap.size w1 W → Below w.heap.size w W) := fun W h => bt B1.out h
 generalize w.heap.size = pa at CA ⊢
 clear HA HB B1
 have a0 := CA.out.cell 0
 have b0 := CB.out.cell 0
 have a1 := CA.out.cell 1
 have b1 := CB.out.cell 1
 have a2 := CA.out.cell 2
 have b2 := CB.out.cell 2
 have a3 := CA.out.cell 3
 have b3 := CB.out.cell 3
 have a4 := CA.out.cell 4
 have b4 := CB.out.cell 4
 have a5 := CA.out.cell 5
 have b5 := CB.out.cell 5
 have a6 := CA.out.cell 6
 have b6 := CB.out.cell 6
 have a7 := CA.out.cell 7
 have b7 := CB.out.cell 7
 simp only [g0',gs'] at a0 b0 a1 b1 a2 b2 a3 b3 a4 b4 a5 b5 a6 b6 a7 b7
 by_cases e0 : x_kind = y_kind
 rotate_left
 ·have HN : Hid (res = false) := by
   rw [Hid,HE.out]
   unfold Wi.nums
   simp [e0]
  clear HE OA OB MA MB CA CB
  go_wp2
  go_ret
  exact ⟨by rw [HN.out] <;> simp [e0],BW.out _ (Below.refl _ _)⟩
 subst e0
 by_cases e1 : x_frm = y_frm
 rotate_left
 ·have HN : Hid (res = false) := by
   rw [Hid,HE.out]
   unfold Wi.nums
   simp [e1]
  clear HE OA OB MA MB CA CB
  go_wp2
  go_ret
  exact ⟨by rw [HN.out] <;> simp [e1],BW.out _ (Below.refl _ _)⟩
 subst e1
 by_cases e2 : x_to = y_to
 rotate_left
 ·have HN : Hid (res = false) := by
   rw [Hid,HE.out]
   unfold Wi.nums
   simp [e2]
  clear HE OA OB MA MB CA CB
  go_wp2
  go_ret
  exact ⟨by rw [HN.out] <;> simp [e2],BW.out _ (Below.refl _ _)⟩
 subst e2
 by_cases e3 : x_part = y_part
 rotate_left
 ·have HN : Hid (res = false) := by
   rw [Hid,HE.out]
   unfold Wi.nums
   simp [e3]
  clear HE OA OB MA MB CA CB
  go_wp2
  go_ret
  exact ⟨by rw [HN.out] <;> simp [e3],BW.out _ (Below.refl _ _)⟩
 subst e3
 by_cases e4 : x_ep = y_ep
 rotate_left
 ·have HN : Hid (res = false) := by
   rw [Hid,HE.out]
   unfold Wi.nums
   simp [e4]
  clear HE OA OB MA MB CA CB
  go_wp2
  go_ret
  exact ⟨by rw [HN.out] <;> simp [e4],BW.out _ (Below.refl _ _)⟩
 subst e4
 by_cases e5 : x_off = y_off
 rotate_left
 ·have HN : Hid (res = false) := by
   rw [Hid,HE.out]
   unfold Wi.nums
   simp [e5]
  clear HE OA OB MA MB CA CB
  go_wp2
  go_ret
  exact ⟨by rw [HN.out] <;> simp [e5],BW.out _ (Below.refl _ _)⟩
 subst e5
 by_cases e6 : x_high = y_high
 rotate_left
 ·have HN : Hid (res = false) := by
   rw [Hid,HE.out]
   unfold Wi.nums
   simp [e6]
  clear HE OA OB MA MB CA CB
  go_wp2
  go_ret
  exact ⟨by rw [HN.out] <;> simp [e6],BW.out _ (Below.refl _ _)⟩
 subst e6
 by_cases e7 : x_life = y_life
 rotate_left
 ·have HN : Hid (res = false) := by
   rw [Hid,HE.out]
   unfold Wi.nums
   simp [e7]
  clear HE OA OB MA MB CA CB
  go_wp2
  go_ret
  exact ⟨by rw [HN.out] <;> simp [e7],BW.out _ (Below.refl _ _)⟩
 subst e7
 have HX : Hid (res = ((decide (x_pep = y_pep) && (decide (x_learner = y_learner) && decide (x_chain = y_chain))) && (decide (x_lives = y_lives) && (Cr.same x_batch y_batch && (decide (x_table = y_table) && (Wi.reqEq x_req y_req && Wi.respEq x_resp y_resp)))))) := by
  rw [Hid,HE.out]
  unfold Wi.nums
  simp
 clear HE
 have BB := hq' (Below.refl w1.heap.size w1)
 have a8 := CA.out.cell 8
 have b8 := CB.out.cell 8
 have a9 := CA.out.cell 9
 have b9 := CB.out.cell 9
 have a10 := CA.out.cell 10
 have b10 := CB.out.cell 10
 simp only [g0',gs'] at a8 b8 a9 b9 a10 b10
 have HQ := hq' (refPlaces_any x_pep y_pep x_learner y_learner x_chain y_chain OA.out.c.1 OB.out.c.1 _ _ _ MA.out.chain MB.out.chain)
 skip
 go_wp2_with fail
 refine HQ.out.mono ?_
 rintro e w5 ⟨rfl,hb5⟩
 have BN := hq' (bt BB.out hb5)
 have CAn := hq' (CA.out.below hb5)
 have CBn := hq' (CB.out.below hb5)
 have MAn := hq' (MA.out.kept hb5)
 have MBn := hq' (MB.out.kept hb5)
 clear hb5 HQ CA CB MA MB BB a8 b8 a9 b9 a10 b10
 cases hg : (decide (x_pep = y_pep) && (decide (x_learner = y_learner) && decide (x_chain = y_chain))) with
 | false =>
  have HN : Hid (res = false) := by rw [Hid,HX.out,hg]; rfl
  clear hg HX
  go_wp2
  go_ret
  exact ⟨by rw [HN.out]; rfl,BW.out _ BN.out⟩
 | true =>
  have HN : Hid (res = (decide (x_lives = y_lives) && (Cr.same x_batch y_batch && (decide (x_table = y_table) && (Wi.reqEq x_req y_req && Wi.respEq x_resp y_resp))))) := by rw [Hid,HX.out,hg]; rfl
  clear hg HX
  have HX := hq' HN.out
  have CA := hq' CAn.out
  have CB := hq' CBn.out
  have MA := hq' MAn.out
  have MB := hq' MBn.out
  have BB := hq' BN.out
  clear HN CAn CBn MAn MBn BN
  have a11 := CA.out.cell 11
  have b11 := CB.out.cell 11
  simp only [g0',gs'] at a11 b11
  have HQ := hq' (refLives_any x_lives y_lives OA.out.l.1 OB.out.l.1 _ _ _ MA.out.lives MB.out.lives)
  skip
  go_wp2_with fail
  refine HQ.out.mono ?_
  rintro e w5 ⟨rfl,hb5⟩
  have BN := hq' (bt BB.out hb5)
  have CAn := hq' (CA.out.below hb5)
  have CBn := hq' (CB.out.below hb5)
  have MAn := hq' (MA.out.kept hb5)
  have MBn := hq' (MB.out.kept hb5)
  clear hb5 HQ CA CB MA MB BB a11 b11
  cases hg : decide (x_lives = y_lives) with
  | false =>
   have HN : Hid (res = false) := by rw [Hid,HX.out,hg]; rfl
   clear hg HX
   go_wp2
   go_ret
   exact ⟨by rw [HN.out]; rfl,BW.out _ BN.out⟩
  | true =>
   have HN : Hid (res = (Cr.same x_batch y_batch && (decide (x_table = y_table) && (Wi.reqEq x_req y_req && Wi.respEq x_resp y_resp)))) := by rw [Hid,HX.out,hg]; rfl
   clear hg HX
   have HX := hq' HN.out
   have CA := hq' CAn.out
   have CB := hq' CBn.out
   have MA := hq' MAn.out
   have MB := hq' MBn.out
   have BB := hq' BN.out
   clear HN CAn CBn MAn MBn BN
   have a12 := CA.out.cell 12
   have b12 := CB.out.cell 12
   have a13 := CA.out.cell 13
   have b13 := CB.out.cell 13
   have a14 := CA.out.cell 14
   have b14 := CB.out.cell 14
   have a15 := CA.out.cell 15
   have b15 := CB.out.cell 15
   have a16 := CA.out.cell 16
   have b16 := CB.out.cell 16
   have a17 := CA.out.cell 17
   have b17 := CB.out.cell 17
   simp only [g0',gs'] at a12 b12 a13 b13 a14 b14 a15 b15 a16 b16 a17 b17
   have HQ := hq' (refsame_any x_batch y_batch OA.out.b OB.out.b _ _ _ MA.out.brecs MB.out.brecs)
   unfold batV at HQ
   go_wp2_with fail
   refine HQ.out.mono ?_
   rintro e w5 ⟨rfl,hb5⟩
   have BN := hq' (bt BB.out hb5)
   have CAn := hq' (CA.out.below hb5)
   have CBn := hq' (CB.out.below hb5)
   have MAn := hq' (MA.out.kept hb5)
   have MBn := hq' (MB.out.kept hb5)
   clear hb5 HQ CA CB MA MB BB a12 b12 a13 b13 a14 b14 a15 b15 a16 b16 a17 b17
   cases hg : Cr.same x_batch y_batch with
   | false =>
    have HN : Hid (res = false) := by rw [Hid,HX.out,hg]; rfl
    clear hg HX
    go_wp2
    go_ret
    exact ⟨by rw [HN.out]; rfl,BW.out _ BN.out⟩
   | true =>
    have HN : Hid (res = (decide (x_table = y_table) && (Wi.reqEq x_req y_req && Wi.respEq x_resp y_resp))) := by rw [Hid,HX.out,hg]; rfl
    clear hg HX
    have HX := hq' HN.out
    have CA := hq' CAn.out
    have CB := hq' CBn.out
    have MA := hq' MAn.out
    have MB := hq' MBn.out
    have BB := hq' BN.out
    clear HN CAn CBn MAn MBn BN
    have a18 := CA.out.cell 18
    have b18 := CB.out.cell 18
    simp only [g0',gs'] at a18 b18
    have HQ := hq' (refTab_any x_table y_table ⟨OA.out.t.1,fun x hx => (OA.out.t.2 x hx).2.1⟩ ⟨OB.out.t.1,fun x hx => (OB.out.t.2 x hx).2.1⟩ _ _ _ MA.out.table MB.out.table)
    skip
    go_wp2_with fail
    refine HQ.out.mono ?_
    rintro e w5 ⟨rfl,hb5⟩
    have BN := hq' (bt BB.out hb5)
    have CAn := hq' (CA.out.below hb5)
    have CBn := hq' (CB.out.below hb5)
    have MAn := hq' (MA.out.kept hb5)
    have MBn := hq' (MB.out.kept hb5)
    clear hb5 HQ CA CB MA MB BB a18 b18
    cases hg : decide (x_table = y_table) with
    | false =>
     have HN : Hid (res = false) := by rw [Hid,HX.out,hg]; rfl
     clear hg HX
     go_wp2
     go_ret
     exact ⟨by rw [HN.out]; rfl,BW.out _ BN.out⟩
    | true =>
     have HN : Hid (res = (Wi.reqEq x_req y_req && Wi.respEq x_resp y_resp)) := by rw [Hid,HX.out,hg]; rfl
     clear hg HX
     have HX := hq' HN.out
     have CA := hq' CAn.out
     have CB := hq' CBn.out
     have MA := hq' MAn.out
     have MB := hq' MBn.out
     have BB := hq' BN.out
     clear HN CAn CBn MAn MBn BN
     have a19 := CA.out.cell 19
     have b19 := CB.out.cell 19
     have a20 := CA.out.cell 20
     have b20 := CB.out.cell 20
     have a21 := CA.out.cell 21
     have b21 := CB.out.cell 21
     have a22 := CA.out.cell 22
     have b22 := CB.out.cell 22
     have a23 := CA.out.cell 23
     have b23 := CB.out.cell 23
     have a24 := CA.out.cell 24
     have b24 := CB.out.cell 24
     have a25 := CA.out.cell 25
     have b25 := CB.out.cell 25
     have a26 := CA.out.cell 26
     have b26 := CB.out.cell 26
     have a27 := CA.out.cell 27
     have b27 := CB.out.cell 27
     have a28 := CA.out.cell 28
     have b28 := CB.out.cell 28
     have a29 := CA.out.cell 29
     have b29 := CB.out.cell 29
     simp only [g0',gs'] at a19 b19 a20 b20 a21 b21 a22 b22 a23 b23 a24 b24 a25 b25 a26 b26 a27 b27 a28 b28 a29 b29
     have HQ := hq' (refReqs_any x_req y_req _ _ _ MA.out.qrecs MB.out.qrecs OA.out.q.2.2.1 OB.out.q.2.2.1)
     unfold wreqC at HQ
     go_wp2_with fail
     refine HQ.out.mono ?_
     rintro e w5 ⟨rfl,hb5⟩
     have BN := hq' (bt BB.out hb5)
     have CAn := hq' (CA.out.below hb5)
     have CBn := hq' (CB.out.below hb5)
     have MAn := hq' (MA.out.kept hb5)
     have MBn := hq' (MB.out.kept hb5)
     clear hb5 HQ CA CB MA MB BB a19 b19 a20 b20 a21 b21 a22 b22 a23 b23 a24 b24 a25 b25 a26 b26 a27 b27 a28 b28 a29 b29
     cases hg : Wi.reqEq x_req y_req with
     | false =>
      have HN : Hid (res = false) := by rw [Hid,HX.out,hg]; rfl
      clear hg HX
      go_wp2
      go_ret
      exact ⟨by rw [HN.out]; rfl,BW.out _ BN.out⟩
     | true =>
      have HN : Hid (res = Wi.respEq x_resp y_resp) := by rw [Hid,HX.out,hg]; rfl
      clear hg HX
      have HX := hq' HN.out
      have CA := hq' CAn.out
      have CB := hq' CBn.out
      have MA := hq' MAn.out
      have MB := hq' MBn.out
      have BB := hq' BN.out
      clear HN CAn CBn MAn MBn BN
      have a30 := CA.out.cell 30
      have b30 := CB.out.cell 30
      have a31 := CA.out.cell 31
      have b31 := CB.out.cell 31
      have a32 := CA.out.cell 32
      have b32 := CB.out.cell 32
      have a33 := CA.out.cell 33
      have b33 := CB.out.cell 33
      have a34 := CA.out.cell 34
      have b34 := CB.out.cell 34
      have a35 := CA.out.cell 35
      have b35 := CB.out.cell 35
      have a36 := CA.out.cell 36
      have b36 := CB.out.cell 36
      have a37 := CA.out.cell 37
      have b37 := CB.out.cell 37
      simp only [g0',gs'] at a30 b30 a31 b31 a32 b32 a33 b33 a34 b34 a35 b35 a36 b36 a37 b37
      have HQ := hq' (refResps_any x_resp y_resp _ _ _ _ _ MA.out.parts MB.out.parts MA.out.arecs MB.out.arecs ⟨OA.out.a.1,OA.out.p.1⟩ ⟨OB.out.a.1,OB.out.p.1⟩)
      unfold wrespC at HQ
      go_wp2_with fail
      refine HQ.out.mono ?_
      rintro e w5 ⟨rfl,hb5⟩
      have BN := hq' (bt BB.out hb5)
      clear hb5
      go_wp2
      go_ret
      exact ⟨by rw [HX.out]; rfl,BW.out _ BN.out⟩
end Go.Proofs.YtbljbdjmgogknaaGreatDoor
