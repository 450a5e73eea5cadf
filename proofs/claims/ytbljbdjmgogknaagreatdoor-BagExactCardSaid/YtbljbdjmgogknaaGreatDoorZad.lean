/-
  Wt / Crs: texts of one proof, one behind the other.
  Conditions: none of its own.
-/
import Derived.Test.YtbljbdjmgogknaaGreatDoorZac
set_option linter.unusedVariables false
set_option linter.unusedSimpArgs false
set_option maxHeartbeats 12800000
set_option maxRecDepth 20000
namespace Go.Proofs.YtbljbdjmgogknaaGreatDoor
open Go.RowKit
theorem seen_any (p q : Int) (l r : List Wi.Slot) (sv tv : Value) (w : World) (h1 : Rw 3 slotC w sv l) (h2 : Rw 3 slotC w tv r) (hl : l.length ≤ maxLen) (hr : r.length ≤ maxLen) :
  Calls Tryz.prog 66 #[.agg #[.int .i64 p,sv],.agg #[.int .i64 q,tv]] w fun e w' => e = .returned (.bool (decide ((p,l) = (q,r)))) ∧ Below w.heap.size w w' := by
 have HA := hq' h1
 have HB := hq' h2
 obtain ⟨sa,ca,rfl⟩ := h1.form
 obtain ⟨sb,cb,rfl⟩ := h2.form
 have LL := hq' hl
 have LR := hq' hr
 unfold maxLen at hl hr
 clear h1 h2
 go_enter Tryz.func66,Tryz.ntmps66
 obtain ⟨w1,hw1,CA,CB,B1⟩ := twoBox (w := w) [.int .i64 p,.slice sa l.length ca] [.int .i64 q,.slice sb r.length cb] 70
 go_upto_region 1 with (fail)
 first | rw [hw1] | skip
 clear hw1
 generalize w.heap.size + 1 = pb at *
 have RA := hq' (HA.out.kept B1.out)
 have RB := hq' (HB.out.kept B1.out)
 have BW : Hid (∀ W,Below w1.heap.size w1 W → Below w.heap.size w W) := fun W h => bt B1.out h
 generalize w.heap.size = pa at CA ⊢
 have a0 := CA.out.cell 0
 have a1 := CA.out.cell 1
 have b0 := CB.out.cell 0
 have b1 := CB.out.cell 1
 simp only [g0',gs'] at a0 a1 b0 b1
 by_cases e0 : p = q
 rotate_left
 ·go_wp2
  go_ret
  exact ⟨by simp [e0],BW.out _ (Below.refl _ _)⟩
 subst e0
 have HQ := hq' (eqSlots_any l r LL.out LR.out _ _ _ RA.out RB.out)
 go_wp2_with fail
 refine HQ.out.mono ?_
 rintro e w5 ⟨rfl,hb5⟩
 have B5 := hq' (BW.out _ hb5)
 clear hb5
 go_wp2
 go_ret
 exact ⟨by simp,B5.out⟩
theorem eqSeens_any (l r : List Wi.Seen) (hl : l.length ≤ maxLen ∧ ∀ x ∈ l,x.2.length ≤ maxLen) (hr : r.length ≤ maxLen ∧ ∀ x ∈ r,x.2.length ≤ maxLen) (lv rv : Value) (w : World) (h1 : Tbl w lv l) (h2 : Tbl w rv r) :
  Calls Tryz.prog 65 #[lv,rv,.func (.func 66) #[] #[]] w fun e w' => e = .returned (.bool (decide (l = r))) ∧ Below w.heap.size w w' := by
 have H1 := hq' h1
 have H2 := hq' h2
 obtain ⟨a1,cap1,rfl⟩ := h1.form
 obtain ⟨a2,cap2,rfl⟩ := h2.form
 obtain ⟨hl,hl2⟩ := hl
 obtain ⟨hr,hr2⟩ := hr
 have LL := hq' hl2
 have LR := hq' hr2
 unfold maxLen at hl hr
 clear h1 h2 hl2 hr2
 by_cases hlen : l.length = r.length
 ·have HLEN := hq' hlen
  have hne : ((l.length : Int) != (r.length : Int)) = false := by simp [hlen]
  clear hlen
  go_enter Tryz.func65,Tryz.ntmps65
  go_wp2
  go_loopw [17] (fun i wr => ∃ k : Nat,i = .int .i64 k ∧ k ≤ l.length ∧ decide (l = r) = decide (l.drop k = r.drop k) ∧ Below w.heap.size w wr) (fun i _ => l.length - (intOf i).toNat)
  case atStart => exact ⟨0,rfl,by omega,rfl,Below.refl _ _⟩
  case round =>
   obtain ⟨k,rfl,hk,hq,hb⟩ := hrel
   have HQ := hq' hq
   have HB := hq' hb
   clear hq hb
   by_cases hlt : k < l.length
   ·obtain ⟨x,hx⟩ : ∃ x,l[k]? = some x := ⟨l[k],by simp [hlt]⟩
    obtain ⟨y,hy⟩ : ∃ y,r[k]? = some y := ⟨r[k]'(by have := HLEN.out; omega),by simp [← HLEN.out,hlt]⟩
    have HS := hq' (Wi.eq_step (α := Wi.Seen) hx hy)
    have lx := hq' (LL.out x (List.mem_of_getElem? hx))
    have ly := hq' (LR.out y (List.mem_of_getElem? hy))
    obtain ⟨g,off,cap',sv,he,hg,p0,p1,ps⟩ := H1.out.get HB.out hx
    injection he with he1 he2 he3
    subst he1 he3
    obtain ⟨g2,off2,cap2',tv,he',hg2,s0,s1,ss⟩ := H2.out.get HB.out hy
    injection he' with he1' he2' he3'
    subst he1' he3'
    obtain ⟨xp,xs⟩ := x
    obtain ⟨yp,ys⟩ := y
    have PS := hq' ps
    have SS := hq' ss
    obtain ⟨s1a,s1c,rfl⟩ := ps.form
    obtain ⟨s2a,s2c,rfl⟩ := ss.form
    dsimp only at *
    clear he2 he2' ps ss
    have hk2 : k < r.length := by have := HLEN.out; omega
    have C1 : Hid (Cl (wr.alloc (.cells #[.int .i64 xp,.slice s1a xs.length s1c] 70)) wr.heap.size [.int .i64 xp,.slice s1a xs.length s1c] 70) := Cl.new wr _ _
    have b1 : Below wr.heap.size wr (wr.alloc (.cells #[.int .i64 xp,.slice s1a xs.length s1c] 70)) := (Below.refl _ _).alloc (Nat.le_refl _) _
    have s01 := (b1.cell (World.block_lt_of_cell? wr _ s0)).trans s0
    have s11 := (b1.cell (World.block_lt_of_cell? wr _ s1)).trans s1
    have SS1 := hq' (SS.out.kept b1)
    have PS1 := hq' (PS.out.kept b1)
    have HB1 := hq' (bt HB.out b1)
    go_upto_region 6 with (fail)
    generalize wr.alloc (.cells #[.int .i64 xp,.slice s1a xs.length s1c] 70) = w3 at *
    generalize wr.heap.size = q1 at *
    clear p0 p1 s0 s1 b1 SS PS HB
    have C2 : Hid (Cl (w3.alloc (.cells #[.int .i64 yp,.slice s2a ys.length s2c] 70)) w3.heap.size [.int .i64 yp,.slice s2a ys.length s2c] 70) := Cl.new w3 _ _
    have b1 : Below w3.heap.size w3 (w3.alloc (.cells #[.int .i64 yp,.slice s2a ys.length s2c] 70)) := (Below.refl _ _).alloc (Nat.le_refl _) _
    have SS2 := hq' (SS1.out.kept b1)
    have PS2 := hq' (PS1.out.kept b1)
    have HB2 := hq' (bt HB1.out b1)
    have C12 := hq' (C1.out.below b1)
    go_upto_region 7 with (fail)
    generalize w3.alloc (.cells #[.int .i64 yp,.slice s2a ys.length s2c] 70) = w4 at *
    generalize w3.heap.size = q2 at *
    clear s01 s11 b1 SS1 PS1 HB1 C1
    have c0 := C12.out.cell 0
    have c1 := C12.out.cell 1
    have d0 := C2.out.cell 0
    have d1 := C2.out.cell 1
    simp only [g0',gs'] at c0 c1 d0 d1
    have HN := hq' (seen_any xp yp xs ys _ _ w4 PS2.out SS2.out lx.out ly.out)
    clear PS2 SS2 C12 C2
    go_wp2_with fail
    refine HN.out.mono ?_
    rintro e w5 ⟨rfl,hb5⟩
    have B5 := hq' (bt HB2.out hb5)
    clear hb5 HN HB2 c0 c1 d0 d1
    cases hb : decide ((xp,xs) = (yp,ys)) with
    | true =>
     have HX : Hid (decide (l = r) = decide (l.drop (k + 1) = r.drop (k + 1))) := by rw [Hid,HQ.out,HS.out,hb]; rfl
     clear HS hb HQ
     go_wp2
     go_roundw
     case rel => exact ⟨k + 1,by go_num,by omega,HX.out,B5.out⟩
     case measure => simp [intOf]; omega
    | false =>
     have HX : Hid (decide (l = r) = false) := by rw [Hid,HQ.out,HS.out,hb]; rfl
     clear HS hb HQ
     go_wp2
     go_ret
     exact ⟨by rw [HX.out]; rfl,B5.out⟩
   ·obtain rfl : k = l.length := by omega
    have HX : Hid (decide (l = r) = true) := by rw [Hid,HQ.out]; exact Wi.eq_end HLEN.out
    go_wp2
    go_ret
    exact ⟨by rw [HX.out]; rfl,HB.out⟩
 ·have HX := hq' (Wi.eq_len hlen)
  go_enter Tryz.func65,Tryz.ntmps65
  go_wp2
  go_ret
  exact ⟨by rw [HX.out]; rfl,Below.refl _ _⟩
theorem sameTables_any (l r : List Wi.Seen) (hl : l.length ≤ maxLen ∧ ∀ x ∈ l,x.2.length ≤ maxLen) (hr : r.length ≤ maxLen ∧ ∀ x ∈ r,x.2.length ≤ maxLen) (lv rv : Value) (w : World) (h1 : Tbl w lv l) (h2 : Tbl w rv r) :
  Calls Tryz.prog 41 #[lv,rv] w fun e w' => e = .returned (.bool (decide (l = r))) ∧ Below w.heap.size w w' := by
 have HE := hq' (eqSeens_any l r hl hr lv rv w h1 h2)
 clear hl hr h1 h2
 go_enter Tryz.func41,Tryz.ntmps41
 go_wp2_with fail
 refine HE.out.mono ?_
 rintro e w1 ⟨rfl,hb⟩
 have B := hq' hb
 clear hb
 go_wp2
 go_ret
 exact ⟨rfl,B.out⟩
theorem wsame_any (a b : Wi.Msg) (va vb : MsgV) (w : World) (ha : MsgAt w a va) (hb : MsgAt w b vb) (oa : MsgOk a) (ob : MsgOk b) :
  Calls Tryz.prog 22 #[msgV a va,msgV b vb] w fun e w' => e = .returned (.bool (Wi.same a b)) ∧ Below w.heap.size w w' := by
 have HA := hq' ha
 have HB := hq' hb
 have OA := hq' oa
 have OB := hq' ob
 obtain ⟨s0,sc0,hh0⟩ := ha.chain.form
 obtain ⟨s1,sc1,hh1⟩ := ha.lives.form
 obtain ⟨s2,sc2,hh2⟩ := ha.brecs.form
 obtain ⟨s3,sc3,hh3⟩ := ha.table.form
 obtain ⟨s4,sc4,hh4⟩ := ha.qrecs.form
 obtain ⟨s5,sc5,hh5⟩ := ha.parts.form
 obtain ⟨s6,sc6,hh6⟩ := ha.arecs.form
 obtain ⟨va0,va1,va2,va3,va4,va5,va6⟩ := va
 dsimp only at hh0 hh1 hh2 hh3 hh4 hh5 hh6
 subst hh0 hh1 hh2 hh3 hh4 hh5 hh6
 obtain ⟨t0,tc0,hh0⟩ := hb.chain.form
 obtain ⟨t1,tc1,hh1⟩ := hb.lives.form
 obtain ⟨t2,tc2,hh2⟩ := hb.brecs.form
 obtain ⟨t3,tc3,hh3⟩ := hb.table.form
 obtain ⟨t4,tc4,hh4⟩ := hb.qrecs.form
 obtain ⟨t5,tc5,hh5⟩ := hb.parts.form
 obtain ⟨t6,tc6,hh6⟩ := hb.arecs.form
 obtain ⟨vb0,vb1,vb2,vb3,vb4,vb5,vb6⟩ := vb
 dsimp only at hh0 hh1 hh2 hh3 hh4 hh5 hh6
 subst hh0 hh1 hh2 hh3 hh4 hh5 hh6
 obtain ⟨x_kind,x_frm,x_to,x_part,x_ep,x_off,x_high,x_life,x_pep,x_chain,x_learner,x_lives,x_batch,x_table,x_req,x_resp⟩ := a
 obtain ⟨y_kind,y_frm,y_to,y_part,y_ep,y_off,y_high,y_life,y_pep,y_chain,y_learner,y_lives,y_batch,y_table,y_req,y_resp⟩ := b
 dsimp only at *
 have HE : Hid (Wi.same ⟨x_kind,x_frm,x_to,x_part,x_ep,x_off,x_high,x_life,x_pep,x_chain,x_learner,x_lives,x_batch,x_table,x_req,x_resp⟩ ⟨y_kind,y_frm,y_to,y_part,y_ep,y_off,y_high,y_life,y_pep,y_chain,y_learner,y_lives,y_batch,y_table,y_req,y_resp⟩ = (Wi.nums ⟨x_kind,x_frm,x_to,x_part,x_ep,x_off,x_high,x_life,x_pep,x_chain,x_learner,x_lives,x_batch,x_table,x_req,x_resp⟩ ⟨y_kind,y_frm,y_to,y_part,y_ep,y_off,y_high,y_life,y_pep,y_chain,y_learner,y_lives,y_batch,y_table,y_req,y_resp⟩ && (Wi.places ⟨x_kind,x_frm,x_to,x_part,x_ep,x_off,x_high,x_life,x_pep,x_chain,x_learner,x_lives,x_batch,x_table,x_req,x_resp⟩ ⟨y_kind,y_frm,y_to,y_part,y_ep,y_off,y_high,y_life,y_pep,y_chain,y_learner,y_lives,y_batch,y_table,y_req,y_resp⟩ && (Cr.same x_batch y_batch && (decide (x_table = y_table) && (Wi.reqEq x_req y_req && Wi.respEq x_resp y_resp)))))) := rfl
 generalize hr : Wi.same ⟨x_kind,x_frm,x_to,x_part,x_ep,x_off,x_high,x_life,x_pep,x_chain,x_learner,x_lives,x_batch,x_table,x_req,x_resp⟩ ⟨y_kind,y_frm,y_to,y_part,y_ep,y_off,y_high,y_life,y_pep,y_chain,y_learner,y_lives,y_batch,y_table,y_req,y_resp⟩ = res at *
 clear hr ha hb oa ob
 unfold msgV msgC
 dsimp only
 go_enter Tryz.func22,Tryz.ntmps22
 obtain ⟨w1,hw1,CA,CB,B1⟩ := twoBox (w := w) [.int .i64 x_kind,.int .i64 x_frm,.int .i64 x_to,.int .i64 x_part,.int .i64 x_ep,.int .i64 x_off,.int .i64 x_high,.int .i64 x_life,.int .i64 x_pep,.slice s0 x_chain.length sc0,.int .i64 x_learner,.slice s1 x_lives.length sc1,.int .i64 x_batch.base,.int .i64 x_batch.count,.int .i64 x_batch.prod,.int .i64 x_batch.seq,.int .i64 x_batch.time,.slice s2 x_batch.recs.length sc2,.slice s3 x_table.length sc3,.int .i64 x_req.client,.int .i64 x_req.n,.int .i64 x_req.kind,.int .i64 x_req.part,.int .i64 x_req.seq,.int .i64 x_req.off,.int .i64 x_req.max,.int .i64 x_req.gen,.string ⟨x_req.group.toArray⟩,.string ⟨x_req.member.toArray⟩,.slice s4 x_req.recs.length sc4,.int .i64 x_resp.client,.int .i64 x_resp.n,.int .i64 x_resp.code,.int .i64 x_resp.off,.int .i64 x_resp.high,.int .i64 x_resp.gen,.slice s5 x_resp.parts.length sc5,.slice s6 x_resp.recs.length sc6] [.int .i64 y_kind,.int .i64 y_frm,.int .i64 y_to,.int .i64 y_part,.int .i64 y_ep,.int .i64 y_off,.int .i64 y_high,.int .i64 y_life,.int .i64 y_pep,.slice t0 y_chain.length tc0,.int .i64 y_learner,.slice t1 y_lives.length tc1,.int .i64 y_batch.base,.int .i64 y_batch.count,.int .i64 y_batch.prod,.int .i64 y_batch.seq,.int .i64 y_batch.time,.slice t2 y_batch.recs.length tc2,.slice t3 y_table.length tc3,.int .i64 y_req.client,.int .i64 y_req.n,.int .i64 y_req.kind,.int .i64 y_req.part,.int .i64 y_req.seq,.int .i64 y_req.off,.int .i64 y_req.max,.int .i64 y_req.gen,.string ⟨y_req.group.toArray⟩,.string ⟨y_req.member.toArray⟩,.slice t4 y_req.recs.length tc4,.int .i64 y_resp.client,.int .i64 y_resp.n,.int .i64 y_resp.code,.int .i64 y_resp.off,.int .i64 y_resp.high,.int .i64 y_resp.gen,.slice t5 y_resp.parts.length tc5,.slice t6 y_resp.recs.length tc6] 44
 go_upto_region 1 with (fail)
 first | rw [hw1] | skip
 clear hw1
 generalize w.heap.size + 1 = pb at *
 have MA := hq' (HA.out.kept B1.out)
 have MB := hq' (HB.out.kept B1.out)
 have BW : Hid (∀ W,Below w1.heap.size w1 W → Below w.heap.size w W) := fun W h => bt B1.out h
 generalize w.heap.size = pa at CA ⊢
 clear HA HB
 go_cut [5] (fun t5 wz => t5 = .bool (Wi.nums ⟨x_kind,x_frm,x_to,x_part,x_ep,x_off,x_high,x_life,x_pep,x_chain,x_learner,x_lives,x_batch,x_table,x_req,x_resp⟩ ⟨y_kind,y_frm,y_to,y_part,y_ep,y_off,y_high,y_life,y_pep,y_chain,y_learner,y_lives,y_batch,y_table,y_req,y_resp⟩) ∧ wz = w1)
 case first =>
  have a0 := CA.out.cell 0
  have b0 := CB.out.cell 0
  have a1 := CA.out.cell 1
  have b1 := CB.out.cell 1
  have a2 := CA.out.cell 2
  have b2 := CB.out.cell 2
  have a3 := CA.out.cell 3
  have b3 := CB.out.cell 3
  have a4 := CA.out.cell 4
  have b4 := CB.out.cell 4
  have a5 := CA.out.cell 5
  have b5 := CB.out.cell 5
  have a6 := CA.out.cell 6
  have b6 := CB.out.cell 6
  have a7 := CA.out.cell 7
  have b7 := CB.out.cell 7
  simp only [g0',gs'] at a0 b0 a1 b1 a2 b2 a3 b3 a4 b4 a5 b5 a6 b6 a7 b7
  clear CA CB MA MB BW B1 HE OA OB
  by_cases e0 : x_kind = y_kind
  rotate_left
  ·have HX : Hid (Wi.nums ⟨x_kind,x_frm,x_to,x_part,x_ep,x_off,x_high,x_life,x_pep,x_chain,x_learner,x_lives,x_batch,x_table,x_req,x_resp⟩ ⟨y_kind,y_frm,y_to,y_part,y_ep,y_off,y_high,y_life,y_pep,y_chain,y_learner,y_lives,y_batch,y_table,y_req,y_resp⟩ = false) := by
    unfold Hid Wi.nums
    simp [e0]
   go_wp2
   go_meet
   case rel => exact ⟨by rw [HX.out] <;> simp [e0],rfl⟩
  subst e0
  by_cases e1 : x_frm = y_frm
  rotate_left
  ·have HX : Hid (Wi.nums ⟨x_kind,x_frm,x_to,x_part,x_ep,x_off,x_high,x_life,x_pep,x_chain,x_learner,x_lives,x_batch,x_table,x_req,x_resp⟩ ⟨x_kind,y_frm,y_to,y_part,y_ep,y_off,y_high,y_life,y_pep,y_chain,y_learner,y_lives,y_batch,y_table,y_req,y_resp⟩ = false) := by
    unfold Hid Wi.nums
    simp [e1]
   go_wp2
   go_meet
   case rel => exact ⟨by rw [HX.out] <;> simp [e1],rfl⟩
  subst e1
  by_cases e2 : x_to = y_to
  rotate_left
  ·have HX : Hid (Wi.nums ⟨x_kind,x_frm,x_to,x_part,x_ep,x_off,x_high,x_life,x_pep,x_chain,x_learner,x_lives,x_batch,x_table,x_req,x_resp⟩ ⟨x_kind,x_frm,y_to,y_part,y_ep,y_off,y_high,y_life,y_pep,y_chain,y_learner,y_lives,y_batch,y_table,y_req,y_resp⟩ = false) := by
    unfold Hid Wi.nums
    simp [e2]
   go_wp2
   go_meet
   case rel => exact ⟨by rw [HX.out] <;> simp [e2],rfl⟩
  subst e2
  by_cases e3 : x_part = y_part
  rotate_left
  ·have HX : Hid (Wi.nums ⟨x_kind,x_frm,x_to,x_part,x_ep,x_off,x_high,x_life,x_pep,x_chain,x_learner,x_lives,x_batch,x_table,x_req,x_resp⟩ ⟨x_kind,x_frm,x_to,y_part,y_ep,y_off,y_high,y_life,y_pep,y_chain,y_learner,y_lives,y_batch,y_table,y_req,y_resp⟩ = false) := by
    unfold Hid Wi.nums
    simp [e3]
   go_wp2
   go_meet
   case rel => exact ⟨by rw [HX.out] <;> simp [e3],rfl⟩
  subst e3
  by_cases e4 : x_ep = y_ep
  rotate_left
  ·have HX : Hid (Wi.nums ⟨x_kind,x_frm,x_to,x_part,x_ep,x_off,x_high,x_life,x_pep,x_chain,x_learner,x_lives,x_batch,x_table,x_req,x_resp⟩ ⟨x_kind,x_frm,x_to,x_part,y_ep,y_off,y_high,y_life,y_pep,y_chain,y_learner,y_lives,y_batch,y_table,y_req,y_resp⟩ = false) := by
    unfold Hid Wi.nums
    simp [e4]
   go_wp2
   go_meet
   case rel => exact ⟨by rw [HX.out] <;> simp [e4],rfl⟩
  subst e4
  by_cases e5 : x_off = y_off
  rotate_left
  ·have HX : Hid (Wi.nums ⟨x_kind,x_frm,x_to,x_part,x_ep,x_off,x_high,x_life,x_pep,x_chain,x_learner,x_lives,x_batch,x_table,x_req,x_resp⟩ ⟨x_kind,x_frm,x_to,x_part,x_ep,y_off,y_high,y_life,y_pep,y_chain,y_learner,y_lives,y_batch,y_table,y_req,y_resp⟩ = false) := by
    unfold Hid Wi.nums
    simp [e5]
   go_wp2
   go_meet
   case rel => exact ⟨by rw [HX.out] <;> simp [e5],rfl⟩
  subst e5
  by_cases e6 : x_high = y_high
  rotate_left
  ·have HX : Hid (Wi.nums ⟨x_kind,x_frm,x_to,x_part,x_ep,x_off,x_high,x_life,x_pep,x_chain,x_learner,x_lives,x_batch,x_table,x_req,x_resp⟩ ⟨x_kind,x_frm,x_to,x_part,x_ep,x_off,y_high,y_life,y_pep,y_chain,y_learner,y_lives,y_batch,y_table,y_req,y_resp⟩ = false) := by
    unfold Hid Wi.nums
    simp [e6]
   go_wp2
   go_meet
   case rel => exact ⟨by rw [HX.out] <;> simp [e6],rfl⟩
  subst e6
  by_cases e7 : x_life = y_life
  rotate_left
  ·have HX : Hid (Wi.nums ⟨x_kind,x_frm,x_to,x_part,x_ep,x_off,x_high,x_life,x_pep,x_chain,x_learner,x_lives,x_batch,x_table,x_req,x_resp⟩ ⟨x_kind,x_frm,x_to,x_part,x_ep,x_off,x_high,y_life,y_pep,y_chain,y_learner,y_lives,y_batch,y_table,y_req,y_resp⟩ = false) := by
    unfold Hid Wi.nums
    simp [e7]
   go_wp2
   go_meet
   case rel => exact ⟨by rw [HX.out] <;> simp [e7],rfl⟩
  subst e7
  have HX : Hid (Wi.nums ⟨x_kind,x_frm,x_to,x_part,x_ep,x_off,x_high,x_life,x_pep,x_chain,x_learner,x_lives,x_batch,x_table,x_req,x_resp⟩ ⟨x_kind,x_frm,x_to,x_part,x_ep,x_off,x_high,x_life,y_pep,y_chain,y_learner,y_lives,y_batch,y_table,y_req,y_resp⟩ = true) := by
   unfold Hid Wi.nums
   simp
  go_wp2
  go_meet
  case rel => exact ⟨by rw [HX.out],rfl⟩
 case rest =>
  obtain ⟨rfl,hwc⟩ := hcut
  subst hwc
  generalize Wi.nums ⟨x_kind,x_frm,x_to,x_part,x_ep,x_off,x_high,x_life,x_pep,x_chain,x_learner,x_lives,x_batch,x_table,x_req,x_resp⟩ ⟨y_kind,y_frm,y_to,y_part,y_ep,y_off,y_high,y_life,y_pep,y_chain,y_learner,y_lives,y_batch,y_table,y_req,y_resp⟩ = nq at *
  have HP : Hid (Wi.places ⟨x_kind,x_frm,x_to,x_part,x_ep,x_off,x_high,x_life,x_pep,x_chain,x_learner,x_lives,x_batch,x_table,x_req,x_resp⟩ ⟨y_kind,y_frm,y_to,y_part,y_ep,y_off,y_high,y_life,y_pep,y_chain,y_learner,y_lives,y_batch,y_table,y_req,y_resp⟩ = (decide (x_pep = y_pep) && (decide (x_learner = y_learner) && (decide (x_chain = y_chain) && decide (x_lives = y_lives))))) := rfl
  generalize Wi.places ⟨x_kind,x_frm,x_to,x_part,x_ep,x_off,x_high,x_life,x_pep,x_chain,x_learner,x_lives,x_batch,x_table,x_req,x_resp⟩ ⟨y_kind,y_frm,y_to,y_part,y_ep,y_off,y_high,y_life,y_pep,y_chain,y_learner,y_lives,y_batch,y_table,y_req,y_resp⟩ = np at *
  go_upto_region 2 with (fail)
  go_cut [6] (fun t6 wz => t6 = .bool np ∧ Below wc.heap.size wc wz)
  case first =>
   have a8 := CA.out.cell 8
   have b8 := CB.out.cell 8
   have a9 := CA.out.cell 9
   have b9 := CB.out.cell 9
   have a10 := CA.out.cell 10
   have b10 := CB.out.cell 10
   have a11 := CA.out.cell 11
   have b11 := CB.out.cell 11
   simp only [g0',gs'] at a8 b8 a9 b9 a10 b10 a11 b11
   by_cases e0 : x_pep = y_pep
   rotate_left
   ·have HX : Hid (np = false) := by rw [Hid,HP.out,decide_eq_false e0]; rfl
    clear HE HP
    go_wp2
    go_meet
    case rel => exact ⟨by rw [HX.out],Below.refl _ _⟩
   subst e0
   by_cases e1 : x_learner = y_learner
   rotate_left
   ·have HX : Hid (np = false) := by rw [Hid,HP.out,decide_eq_false e1]; simp
    clear HE HP
    go_wp2
    go_meet
    case rel => exact ⟨by rw [HX.out],Below.refl _ _⟩
   subst e1
   have HX : Hid (np = (decide (x_chain = y_chain) && decide (x_lives = y_lives))) := by rw [Hid,HP.out]; simp
   clear HP HE
   have HQ := hq' (eqInts_any x_chain y_chain OA.out.c.1 OB.out.c.1 _ _ _ MA.out.chain MB.out.chain)
   go_wp2_with fail
   refine HQ.out.mono ?_
   rintro e w5 ⟨rfl,hb5⟩
   have BB := hq' hb5
   have CAn := hq' (CA.out.below hb5)
   have CBn := hq' (CB.out.below hb5)
   have MAn := hq' (MA.out.kept hb5)
   have MBn := hq' (MB.out.kept hb5)
   clear hb5 HQ CA CB MA MB a8 b8 a9 b9 a10 b10 a11 b11
   cases hg : decide (x_chain = y_chain) with
   | false =>
    have HN : Hid (np = false) := by rw [Hid,HX.out,hg]; rfl
    clear hg HX
    go_wp2
    go_meet
    case rel => exact ⟨by rw [HN.out],BB.out⟩
   | true =>
    have HN : Hid (np = decide (x_lives = y_lives)) := by rw [Hid,HX.out,hg]; rfl
    clear hg HX
    have a11 := CAn.out.cell 11
    have b11 := CBn.out.cell 11
    simp only [g0',gs'] at a11 b11
    have HQ := hq' (eqLifes_any x_lives y_lives OA.out.l.1 OB.out.l.1 _ _ _ MAn.out.lives MBn.out.lives)
    go_wp2_with fail
    refine HQ.out.mono ?_
    rintro e w6 ⟨rfl,hb6⟩
    have BN := hq' (bt BB.out hb6)
    clear hb6
    go_wp2
    go_meet
    case rel => exact ⟨by rw [HN.out],BN.out⟩
  case rest =>
   obtain ⟨rfl,hwd⟩ := hcut
   rename_i w1 wz1
   have CAn := hq' (CA.out.below hwd)
   have CBn := hq' (CB.out.below hwd)
   have MAn := hq' (MA.out.kept hwd)
   have MBn := hq' (MB.out.kept hwd)
   have BB := hq' hwd
   clear hwd CA CB MA MB HP
   have CA := hq' CAn.out
   have CB := hq' CBn.out
   have MA := hq' MAn.out
   have MB := hq' MBn.out
   clear CAn CBn MAn MBn
   cases nq with
   | false =>
    have HX : Hid (res = false) := by rw [Hid,HE.out]; rfl
    go_wp2
    go_ret
    exact ⟨by rw [HX.out]; rfl,BW.out _ BB.out⟩
   | true =>
    cases np with
    | false =>
     have HX : Hid (res = false) := by rw [Hid,HE.out]; rfl
     go_wp2
     go_ret
     exact ⟨by rw [HX.out]; rfl,BW.out _ BB.out⟩
    | true =>
     have HX : Hid (res = (Cr.same x_batch y_batch && (decide (x_table = y_table) && (Wi.reqEq x_req y_req && Wi.respEq x_resp y_resp)))) := by rw [Hid,HE.out]; rfl
     clear HE
     have a12 := CA.out.cell 12
     have b12 := CB.out.cell 12
     have a13 := CA.out.cell 13
     have b13 := CB.out.cell 13
     have a14 := CA.out.cell 14
     have b14 := CB.out.cell 14
     have a15 := CA.out.cell 15
     have b15 := CB.out.cell 15
     have a16 := CA.out.cell 16
     have b16 := CB.out.cell 16
     have a17 := CA.out.cell 17
     have b17 := CB.out.cell 17
     simp only [g0',gs'] at a12 b12 a13 b13 a14 b14 a15 b15 a16 b16 a17 b17
     have HQ := hq' (same_any x_batch y_batch OA.out.b OB.out.b _ _ _ MA.out.brecs MB.out.brecs)
     unfold batV at HQ
     go_wp2_with fail
     refine HQ.out.mono ?_
     rintro e w5 ⟨rfl,hb5⟩
     have BN := hq' (bt BB.out hb5)
     have CAn := hq' (CA.out.below hb5)
     have CBn := hq' (CB.out.below hb5)
     have MAn := hq' (MA.out.kept hb5)
     have MBn := hq' (MB.out.kept hb5)
     clear hb5 HQ CA CB MA MB BB a12 b12 a13 b13 a14 b14 a15 b15 a16 b16 a17 b17
     cases hg : Cr.same x_batch y_batch with
     | false =>
      have HN : Hid (res = false) := by rw [Hid,HX.out,hg]; rfl
      clear hg HX
      go_wp2
      go_ret
      exact ⟨by rw [HN.out]; rfl,BW.out _ BN.out⟩
     | true =>
      have HN : Hid (res = (decide (x_table = y_table) && (Wi.reqEq x_req y_req && Wi.respEq x_resp y_resp))) := by rw [Hid,HX.out,hg]; rfl
      clear hg HX
      have HX := hq' HN.out
      have CA := hq' CAn.out
      have CB := hq' CBn.out
      have MA := hq' MAn.out
      have MB := hq' MBn.out
      have BB := hq' BN.out
      clear HN CAn CBn MAn MBn BN
      have a18 := CA.out.cell 18
      have b18 := CB.out.cell 18
      simp only [g0',gs'] at a18 b18
      have HQ := hq' (sameTables_any x_table y_table ⟨OA.out.t.1,fun x hx => (OA.out.t.2 x hx).2.1⟩ ⟨OB.out.t.1,fun x hx => (OB.out.t.2 x hx).2.1⟩ _ _ _ MA.out.table MB.out.table)
      skip
      go_wp2_with fail
      refine HQ.out.mono ?_
      rintro e w5 ⟨rfl,hb5⟩
      have BN := hq' (bt BB.out hb5)
      have CAn := hq' (CA.out.below hb5)
      have CBn := hq' (CB.out.below hb5)
      have MAn := hq' (MA.out.kept hb5)
      have MBn := hq' (MB.out.kept hb5)
      clear hb5 HQ CA CB MA MB BB a18 b18
      cases hg : decide (x_table = y_table) with
      | false =>
       have HN : Hid (res = false) := by rw [Hid,HX.out,hg]; rfl
       clear hg HX
       go_wp2
       go_ret
       exact ⟨by rw [HN.out]; rfl,BW.out _ BN.out⟩
      | true =>
       have HN : Hid (res = (Wi.reqEq x_req y_req && Wi.respEq x_resp y_resp)) := by rw [Hid,HX.out,hg]; rfl
       clear hg HX
       have HX := hq' HN.out
       have CA := hq' CAn.out
       have CB := hq' CBn.out
       have MA := hq' MAn.out
       have MB := hq' MBn.out
       have BB := hq' BN.out
       clear HN CAn CBn MAn MBn BN
       have a19 := CA.out.cell 19
       have b19 := CB.out.cell 19
       have a20 := CA.out.cell 20
       have b20 := CB.out.cell 20
       have a21 := CA.out.cell 21
       have b21 := CB.out.cell 21
       have a22 := CA.out.cell 22
       have b22 := CB.out.cell 22
       have a23 := CA.out.cell 23
       have b23 := CB.out.cell 23
       have a24 := CA.out.cell 24
       have b24 := CB.out.cell 24
       have a25 := CA.out.cell 25
       have b25 := CB.out.cell 25
       have a26 := CA.out.cell 26
       have b26 := CB.out.cell 26
       have a27 := CA.out.cell 27
       have b27 := CB.out.cell 27
       have a28 := CA.out.cell 28
       have b28 := CB.out.cell 28
       have a29 := CA.out.cell 29
       have b29 := CB.out.cell 29
       simp only [g0',gs'] at a19 b19 a20 b20 a21 b21 a22 b22 a23 b23 a24 b24 a25 b25 a26 b26 a27 b27 a28 b28 a29 b29
       have HQ := hq' (sameReqs_any x_req y_req _ _ _ MA.out.qrecs MB.out.qrecs OA.out.q.2.2.1 OB.out.q.2.2.1)
       unfold wreqC at HQ
       go_wp2_with fail
       refine HQ.out.mono ?_
       rintro e w5 ⟨rfl,hb5⟩
       have BN := hq' (bt BB.out hb5)
       have CAn := hq' (CA.out.below hb5)
       have CBn := hq' (CB.out.below hb5)
       have MAn := hq' (MA.out.kept hb5)
       have MBn := hq' (MB.out.kept hb5)
       clear hb5 HQ CA CB MA MB BB a19 b19 a20 b20 a21 b21 a22 b22 a23 b23 a24 b24 a25 b25 a26 b26 a27 b27 a28 b28 a29 b29
       cases hg : Wi.reqEq x_req y_req with
       | false =>
        have HN : Hid (res = false) := by rw [Hid,HX.out,hg]; rfl
        clear hg HX
        go_wp2
        go_ret
        exact ⟨by rw [HN.out]; rfl,BW.out _ BN.out⟩
       | true =>
        have HN : Hid (res = Wi.respEq x_resp y_resp) := by rw [Hid,HX.out,hg]; rfl
        clear hg HX
        have HX := hq' HN.out
        have CA := hq' CAn.out
        have CB := hq' CBn.out
        have MA := hq' MAn.out
        have MB := hq' MBn.out
        have BB := hq' BN.out
        clear HN CAn CBn MAn MBn BN
        have a30 := CA.out.cell 30
        have b30 := CB.out.cell 30
        have a31 := CA.out.cell 31
        have b31 := CB.out.cell 31
        have a32 := CA.out.cell 32
        have b32 := CB.out.cell 32
        have a33 := CA.out.cell 33
        have b33 := CB.out.cell 33
        have a34 := CA.out.cell 34
        have b34 := CB.out.cell 34
        have a35 := CA.out.cell 35
        have b35 := CB.out.cell 35
        have a36 := CA.out.cell 36
        have b36 := CB.out.cell 36
        have a37 := CA.out.cell 37
        have b37 := CB.out.cell 37
        simp only [g0',gs'] at a30 b30 a31 b31 a32 b32 a33 b33 a34 b34 a35 b35 a36 b36 a37 b37
        have HQ := hq' (sameResps_any x_resp y_resp _ _ _ _ _ MA.out.parts MB.out.parts MA.out.arecs MB.out.arecs ⟨OA.out.a.1,OA.out.p.1⟩ ⟨OB.out.a.1,OB.out.p.1⟩)
        unfold wrespC at HQ
        go_wp2_with fail
        refine HQ.out.mono ?_
        rintro e w5 ⟨rfl,hb5⟩
        have BN := hq' (bt BB.out hb5)
        clear hb5
        go_wp2
        go_ret
        exact ⟨by rw [HX.out]; rfl,BW.out _ BN.out⟩
end Go.Proofs.YtbljbdjmgogknaaGreatDoor
namespace Go.Proofs.YtbljbdjmgogknaaGreatDoor.Cr
open Go.Lib
theorem nDigits_le_pow : ∀ (k u : Nat),0 < k → u < 10 ^ k → nDigits u ≤ k := by
 intro k
 induction k with
 | zero => intro u h; omega
 | succ k ih =>
  intro u _ hu
  by_cases h : u < 10
  ·rw [nDigits_small h]; omega
  ·rw [nDigits_big h]
   have hk : 0 < k := by
    rcases Nat.eq_zero_or_pos k with rfl | hk
    ·simp at hu; omega
    ·exact hk
   have := ih (u / 10) hk (by rw [Nat.pow_succ] at hu; omega)
   omega
theorem bInt_len {n : Int} (h0 : 0 ≤ n) (h1 : n < 10000000000000) : 3 ≤ (Bd.bInt n).length ∧ (Bd.bInt n).length ≤ 15 := by
 have e : itoa n = decDigits n.toNat := by unfold itoa; rw [if_neg (by omega)]
 have hd := nDigits_le_pow 13 n.toNat (by decide) (by have := (show (10 : Nat) ^ 13 = 10000000000000 by decide); omega)
 have hp := nDigits_pos n.toNat
 simp only [Bd.bInt,List.length_cons,List.length_append,List.length_nil,e,decDigits_length]
 omega
theorem bText_len {t : List UInt8} (h : t.length < 100) : (Bd.bText t).length ≤ 3 + t.length := by
 have e : itoa (t.length : Int) = decDigits t.length := by unfold itoa; rw [if_neg (by omega)]; rfl
 have hd := nDigits_le_pow 2 t.length (by decide) (by omega)
 simp only [Bd.bText,List.length_cons,List.length_append,e,decDigits_length]
 omega
theorem flag_le (b : Bool) : 0 ≤ flag b ∧ flag b ≤ 1 := by cases b <;> decide
theorem encRec_len {x : Rec} (hx : isRec x = true) (h0 : 0 ≤ x.off) (h1 : x.off < 10000000000000) : (encRec x).length ≤ 130 := by
 simp only [isRec,Bool.and_eq_true,decide_eq_true_eq] at hx
 have a := bInt_len h0 h1
 have b := bText_len (t := x.key) (by omega)
 have c := bText_len (t := x.val) (by omega)
 have f := flag_le x.gone
 have d := bInt_len f.1 (by omega)
 simp only [encRec,List.length_cons,List.length_append,List.length_nil]
 omega
theorem encRecs_len (l : List Rec) (h : ∀ x ∈ l,isRec x = true ∧ 0 ≤ x.off ∧ x.off < 10000000000000) : (encRecs l).length ≤ 130 * l.length := by
 induction l with
 | nil => simp [encRecs]
 | cons x l ih =>
  have h1 := h x (by simp)
  have h2 := ih fun y hy => h y (by simp [hy])
  have h3 := encRec_len h1.1 h1.2.1 h1.2.2
  simp only [encRecs,List.map_cons,List.flatten_cons,List.length_append,List.length_cons] at h2 ⊢
  omega
theorem good_recs {b : Batch} (h : good b = true) : ∀ x ∈ b.recs,isRec x = true ∧ 0 ≤ x.off ∧ x.off < 10000000000000 := by
 obtain ⟨h1,h2,h3,h4,h5,h6,h7,h8,h9⟩ := good_nums h
 simp only [isNum,Bool.and_eq_true,decide_eq_true_eq] at h1
 intro x hx
 obtain ⟨g1,g2,g3⟩ := goodRecs_all h9 x hx
 exact ⟨g1,by omega,by omega⟩
theorem enc_len {b : Batch} (h : good b = true) : 17 ≤ (enc b).length ∧ (enc b).length ≤ 82 + 130 * b.recs.length ∧ b.recs.length ≤ 8 := by
 obtain ⟨h1,h2,h3,h4,h5,h6,h7,h8,h9⟩ := good_nums h
 have hr := encRecs_len b.recs (good_recs h)
 simp only [isNum,Bool.and_eq_true,decide_eq_true_eq] at h1 h2 h3 h4
 have a1 := bInt_len (n := b.base) (by omega) (by omega)
 have a2 := bInt_len (n := b.count) (by omega) (by omega)
 have a3 := bInt_len (n := b.prod) (by omega) (by omega)
 have a4 := bInt_len (n := b.seq) (by omega) (by omega)
 have a5 := bInt_len (n := b.time) (by omega) (by omega)
 simp only [enc,nums,List.length_cons,List.length_append,List.length_nil]
 omega
def fin (m : Int × Int × Int × Int × Int × Bd.St) (o : Option (List Rec × Bd.St)) : Option Batch :=
 match o with
 | none => none
 | some (rs,q) => if Bd.sDone (Bd.sSign 101 q) = 0 && good ⟨m.1,m.2.1,m.2.2.1,m.2.2.2.1,m.2.2.2.2.1,rs⟩ then some ⟨m.1,m.2.1,m.2.2.1,m.2.2.2.1,m.2.2.2.2.1,rs⟩ else none
theorem dec_fin (s : List UInt8) : dec s = fin (sNums (Bd.sSign 108 (s,false))) (sRecs 11 [] (sNums (Bd.sSign 108 (s,false))).2.2.2.2.2) := by
 unfold dec fin
 rfl
end Go.Proofs.YtbljbdjmgogknaaGreatDoor.Cr
