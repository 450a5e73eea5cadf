/-
  Yb: texts of one proof, one behind the other.
  Conditions: none of its own.
-/
import Derived.Test.YtbljbdjmgogknaaGreatDoorZbh
set_option linter.unusedVariables false
set_option linter.unusedSimpArgs false
set_option maxHeartbeats 12800000
set_option maxRecDepth 20000
namespace Go.Proofs.YtbljbdjmgogknaaGreatDoor
open Go.RowKit
theorem refPlaces_any (e0 f0 e2 f2 : Int) (l r : List Int) (hl : l.length ≤ maxLen) (hr : r.length ≤ maxLen) (lv rv : Value) (w : World) (h1 : Ints w lv l) (h2 : Ints w rv r) :
  Calls Tryz.prog 28 #[.agg #[.int .i64 e0,lv,.int .i64 e2],.agg #[.int .i64 f0,rv,.int .i64 f2]] w fun e w' => e = .returned (.bool (decide (e0 = f0) && (decide (e2 = f2) && decide (l = r)))) ∧ Below w.heap.size w w' := by
 have HA := hq' h1
 have HB := hq' h2
 obtain ⟨sa,ca,rfl⟩ := h1.form
 obtain ⟨sb,cb,rfl⟩ := h2.form
 have LL := hq' hl
 have LR := hq' hr
 unfold maxLen at hl hr
 clear h1 h2
 go_enter Tryz.func28,Tryz.ntmps28
 obtain ⟨w1,hw1,CA,CB,B1⟩ := twoBox (w := w) [.int .i64 e0,.slice sa l.length ca,.int .i64 e2] [.int .i64 f0,.slice sb r.length cb,.int .i64 f2] 32
 go_upto_region 1 with (fail)
 first | rw [hw1] | skip
 clear hw1
 generalize w.heap.size + 1 = pb at *
 have RA := hq' (HA.out.kept B1.out)
 have RB := hq' (HB.out.kept B1.out)
 have BW : Hid (∀ W,Below w1.heap.size w1 W → Below w.heap.size w W) := fun W h => bt B1.out h
 generalize w.heap.size = pa at CA ⊢
 have a0 := CA.out.cell 0
 have b0 := CB.out.cell 0
 have a1 := CA.out.cell 1
 have b1 := CB.out.cell 1
 have a2 := CA.out.cell 2
 have b2 := CB.out.cell 2
 simp only [g0',gs'] at a0 b0 a1 b1 a2 b2
 by_cases k0 : e0 = f0
 rotate_left
 ·have HX : Hid ((decide (e0 = f0) && (decide (e2 = f2) && decide (l = r))) = false) := by rw [Hid,decide_eq_false k0]; rfl
  go_wp2
  go_ret
  exact ⟨by first | rfl | (rw [HX.out]; rfl),BW.out _ (Below.refl _ _)⟩
 subst k0
 by_cases k2 : e2 = f2
 rotate_left
 ·have HX : Hid ((decide (e0 = e0) && (decide (e2 = f2) && decide (l = r))) = false) := by rw [Hid,decide_eq_false k2]; simp
  go_wp2
  go_ret
  exact ⟨by first | rfl | (rw [HX.out]; rfl),BW.out _ (Below.refl _ _)⟩
 subst k2
 have HX : Hid ((decide (e0 = e0) && (decide (e2 = e2) && decide (l = r))) = decide (l = r)) := by simp [Hid]
 have HQ := hq' (refInts_any l r LL.out LR.out _ _ _ RA.out RB.out)
 go_wp2_with fail
 refine HQ.out.mono ?_
 rintro e w5 ⟨rfl,hb5⟩
 have B5 := hq' (BW.out _ hb5)
 clear hb5
 go_wp2
 go_ret
 exact ⟨by first | rfl | (rw [HX.out]; rfl),B5.out⟩
theorem refReqs_any (a b : Wi.Req) (av bv : Value) (w : World) (ha : Recs w av a.recs) (hb : Recs w bv b.recs) (la : a.recs.length ≤ maxLen) (lb : b.recs.length ≤ maxLen) :
  Calls Tryz.prog 32 #[.agg (wreqC a av).toArray,.agg (wreqC b bv).toArray] w fun e w' => e = .returned (.bool (Wi.reqEq a b)) ∧ Below w.heap.size w w' := by
 have HA := hq' ha
 have HB := hq' hb
 obtain ⟨sa,ca,rfl⟩ := ha.form
 obtain ⟨sb,cb,rfl⟩ := hb.form
 unfold maxLen at la lb
 obtain ⟨x_client,x_n,x_kind,x_part,x_seq,x_off,x_max,x_gen,x_group,x_member,x_recs⟩ := a
 obtain ⟨y_client,y_n,y_kind,y_part,y_seq,y_off,y_max,y_gen,y_group,y_member,y_recs⟩ := b
 dsimp only at *
 clear ha hb
 unfold wreqC
 dsimp only
 go_enter Tryz.func32,Tryz.ntmps32
 obtain ⟨w1,hw1,CA,CB,B1⟩ := twoBox (w := w) [.int .i64 x_client,.int .i64 x_n,.int .i64 x_kind,.int .i64 x_part,.int .i64 x_seq,.int .i64 x_off,.int .i64 x_max,.int .i64 x_gen,.string ⟨x_group.toArray⟩,.string ⟨x_member.toArray⟩,.slice sa x_recs.length ca] [.int .i64 y_client,.int .i64 y_n,.int .i64 y_kind,.int .i64 y_part,.int .i64 y_seq,.int .i64 y_off,.int .i64 y_max,.int .i64 y_gen,.string ⟨y_group.toArray⟩,.string ⟨y_member.toArray⟩,.slice sb y_recs.length cb] 39
 go_upto_region 1 with (fail)
 first | rw [hw1] | skip
 clear hw1
 generalize w.heap.size + 1 = pb at *
 have RA := hq' (HA.out.kept B1.out)
 have RB := hq' (HB.out.kept B1.out)
 have BW : Hid (∀ W,Below w1.heap.size w1 W → Below w.heap.size w W) := fun W h => bt B1.out h
 generalize w.heap.size = pa at CA ⊢
 clear HA HB B1
 have a0 := CA.out.cell 0
 have b0 := CB.out.cell 0
 have a1 := CA.out.cell 1
 have b1 := CB.out.cell 1
 have a2 := CA.out.cell 2
 have b2 := CB.out.cell 2
 have a3 := CA.out.cell 3
 have b3 := CB.out.cell 3
 have a4 := CA.out.cell 4
 have b4 := CB.out.cell 4
 have a5 := CA.out.cell 5
 have b5 := CB.out.cell 5
 have a6 := CA.out.cell 6
 have b6 := CB.out.cell 6
 have a7 := CA.out.cell 7
 have b7 := CB.out.cell 7
 have a8 := CA.out.cell 8
 have b8 := CB.out.cell 8
 have a9 := CA.out.cell 9
 have b9 := CB.out.cell 9
 have a10 := CA.out.cell 10
 have b10 := CB.out.cell 10
 simp only [g0',gs'] at a0 b0 a1 b1 a2 b2 a3 b3 a4 b4 a5 b5 a6 b6 a7 b7 a8 b8 a9 b9 a10 b10
 by_cases hlen : x_recs.length = y_recs.length
 rotate_left
 ·have HX : Hid (Wi.reqEq ⟨x_client,x_n,x_kind,x_part,x_seq,x_off,x_max,x_gen,x_group,x_member,x_recs⟩ ⟨y_client,y_n,y_kind,y_part,y_seq,y_off,y_max,y_gen,y_group,y_member,y_recs⟩ = false) := by
   rw [Hid]
   unfold Wi.reqEq
   dsimp only
   rw [recsEq_len hlen]
   simp
  have hne : ((x_recs.length : Int) != (y_recs.length : Int)) = true := by simp; omega
  go_wp2
  go_ret
  exact ⟨by rw [HX.out]; rfl,BW.out _ (Below.refl _ _)⟩
 have HLEN := hq' hlen
 have hne : ((x_recs.length : Int) != (y_recs.length : Int)) = false := by simp [hlen]
 clear hlen
 have HE : Hid (∀ b,Cr.recsEq x_recs y_recs = b → b = false → Wi.reqEq ⟨x_client,x_n,x_kind,x_part,x_seq,x_off,x_max,x_gen,x_group,x_member,x_recs⟩ ⟨y_client,y_n,y_kind,y_part,y_seq,y_off,y_max,y_gen,y_group,y_member,y_recs⟩ = false) := by
  intro b h1 h2
  unfold Wi.reqEq
  dsimp only
  rw [h1,h2]
  simp
 go_wp2
 go_loopw [5] (fun i wr => ∃ k q : Nat,i = .int .i64 k ∧ k ≤ x_recs.length ∧ Cr.recsEq x_recs y_recs = Cr.recsEq (x_recs.drop k) (y_recs.drop k) ∧ wr = w1.drewN q) (fun i _ => x_recs.length - (intOf i).toNat)
 case atStart => exact ⟨0,0,rfl,by omega,rfl,rfl⟩
 case round =>
  obtain ⟨k,q,rfl,hk,hq,rfl⟩ := hrel
  have HQ := hq' hq
  clear hq
  by_cases hlt : k < x_recs.length
  ·have hlti : (k : Int) < (x_recs.length : Int) := by omega
   have hk2 : k < y_recs.length := by have := HLEN.out; omega
   have hk2i : (k : Int) < (y_recs.length : Int) := by omega
   obtain ⟨x,hx⟩ : ∃ x,x_recs[k]? = some x := ⟨x_recs[k],by simp [hlt]⟩
   obtain ⟨y,hy⟩ : ∃ y,y_recs[k]? = some y := ⟨y_recs[k],by simp [hk2]⟩
   have HS := hq' (recsEq_step hx hy)
   obtain ⟨g,off,cap',he,hg,p0,p1,p2,p3⟩ := RA.out.get (Below.refl _ _) hx
   injection he with he1 he2 he3
   subst he1 he3
   obtain ⟨g2,off2,cap2',he',hg2,s0,s1,s2,s3⟩ := RB.out.get (Below.refl _ _) hy
   injection he' with he'1 he'2 he'3
   subst he'1 he'3
   obtain ⟨x0,xk,xv,xg⟩ := x
   obtain ⟨y0,yk,yv,yg⟩ := y
   dsimp only at p0 p1 p2 p3 s0 s1 s2 s3 HS
   clear he2 he'2 hx hy
   have hn := fun w => rec_neq x0 y0 xk yk xv yv xg yg w
   cases hb : Cr.recEq ⟨x0,xk,xv,xg⟩ ⟨y0,yk,yv,yg⟩ with
   | true =>
    have HX2 : Hid (Cr.recsEq x_recs y_recs = Cr.recsEq (x_recs.drop (k + 1)) (y_recs.drop (k + 1))) := by rw [Hid,HQ.out,HS.out,hb]; rfl
    simp only [hb,Bool.not_true] at hn
    clear HS hb HQ
    go_wp2
    go_quiet (fail)
    go_wp2
    go_roundw
    case rel => exact ⟨k + 1,_,by go_num,by omega,HX2.out,rfl⟩
    case measure => simp [intOf]; omega
   | false =>
    have HX2 : Hid (Cr.recsEq x_recs y_recs = false) := by rw [Hid,HQ.out,HS.out,hb]; rfl
    simp only [hb,Bool.not_false] at hn
    clear HS hb HQ
    go_wp2
    go_quiet (fail)
    have BQ := BW.out _ (below_drewN (below_drewN (Below.refl _ _) q) nq)
    go_wp2
    go_ret
    exact ⟨by rw [HE.out _ HX2.out rfl]; rfl,BQ⟩
  ·obtain rfl : k = x_recs.length := by omega
   have HX2 : Hid (Cr.recsEq x_recs y_recs = true) := by rw [Hid,HQ.out,List.drop_of_length_le (Nat.le_refl _),List.drop_of_length_le (by rw [HLEN.out]; exact Nat.le_refl _)]; rfl
   have BQ := hq' (BW.out _ (below_drewN (Below.refl _ _) q))
   by_cases e0 : x_client = y_client
   rotate_left
   ·have HY : Hid (Wi.reqEq ⟨x_client,x_n,x_kind,x_part,x_seq,x_off,x_max,x_gen,x_group,x_member,x_recs⟩ ⟨y_client,y_n,y_kind,y_part,y_seq,y_off,y_max,y_gen,y_group,y_member,y_recs⟩ = false) := by
     rw [Hid]
     unfold Wi.reqEq Wi.reqNums
     simp [e0]
    go_wp2
    go_ret
    exact ⟨by rw [HY.out] <;> simp [e0],BQ.out⟩
   subst e0
   by_cases e1 : x_n = y_n
   rotate_left
   ·have HY : Hid (Wi.reqEq ⟨x_client,x_n,x_kind,x_part,x_seq,x_off,x_max,x_gen,x_group,x_member,x_recs⟩ ⟨x_client,y_n,y_kind,y_part,y_seq,y_off,y_max,y_gen,y_group,y_member,y_recs⟩ = false) := by
     rw [Hid]
     unfold Wi.reqEq Wi.reqNums
     simp [e1]
    go_wp2
    go_ret
    exact ⟨by rw [HY.out] <;> simp [e1],BQ.out⟩
   subst e1
   by_cases e2 : x_kind = y_kind
   rotate_left
   ·have HY : Hid (Wi.reqEq ⟨x_client,x_n,x_kind,x_part,x_seq,x_off,x_max,x_gen,x_group,x_member,x_recs⟩ ⟨x_client,x_n,y_kind,y_part,y_seq,y_off,y_max,y_gen,y_group,y_member,y_recs⟩ = false) := by
     rw [Hid]
     unfold Wi.reqEq Wi.reqNums
     simp [e2]
    go_wp2
    go_ret
    exact ⟨by rw [HY.out] <;> simp [e2],BQ.out⟩
   subst e2
   by_cases e3 : x_part = y_part
   rotate_left
   ·have HY : Hid (Wi.reqEq ⟨x_client,x_n,x_kind,x_part,x_seq,x_off,x_max,x_gen,x_group,x_member,x_recs⟩ ⟨x_client,x_n,x_kind,y_part,y_seq,y_off,y_max,y_gen,y_group,y_member,y_recs⟩ = false) := by
     rw [Hid]
     unfold Wi.reqEq Wi.reqNums
     simp [e3]
    go_wp2
    go_ret
    exact ⟨by rw [HY.out] <;> simp [e3],BQ.out⟩
   subst e3
   by_cases e4 : x_seq = y_seq
   rotate_left
   ·have HY : Hid (Wi.reqEq ⟨x_client,x_n,x_kind,x_part,x_seq,x_off,x_max,x_gen,x_group,x_member,x_recs⟩ ⟨x_client,x_n,x_kind,x_part,y_seq,y_off,y_max,y_gen,y_group,y_member,y_recs⟩ = false) := by
     rw [Hid]
     unfold Wi.reqEq Wi.reqNums
     simp [e4]
    go_wp2
    go_ret
    exact ⟨by rw [HY.out] <;> simp [e4],BQ.out⟩
   subst e4
   by_cases e5 : x_off = y_off
   rotate_left
   ·have HY : Hid (Wi.reqEq ⟨x_client,x_n,x_kind,x_part,x_seq,x_off,x_max,x_gen,x_group,x_member,x_recs⟩ ⟨x_client,x_n,x_kind,x_part,x_seq,y_off,y_max,y_gen,y_group,y_member,y_recs⟩ = false) := by
     rw [Hid]
     unfold Wi.reqEq Wi.reqNums
     simp [e5]
    go_wp2
    go_ret
    exact ⟨by rw [HY.out] <;> simp [e5],BQ.out⟩
   subst e5
   by_cases e6 : x_max = y_max
   rotate_left
   ·have HY : Hid (Wi.reqEq ⟨x_client,x_n,x_kind,x_part,x_seq,x_off,x_max,x_gen,x_group,x_member,x_recs⟩ ⟨x_client,x_n,x_kind,x_part,x_seq,x_off,y_max,y_gen,y_group,y_member,y_recs⟩ = false) := by
     rw [Hid]
     unfold Wi.reqEq Wi.reqNums
     simp [e6]
    go_wp2
    go_ret
    exact ⟨by rw [HY.out] <;> simp [e6],BQ.out⟩
   subst e6
   by_cases e7 : x_gen = y_gen
   rotate_left
   ·have HY : Hid (Wi.reqEq ⟨x_client,x_n,x_kind,x_part,x_seq,x_off,x_max,x_gen,x_group,x_member,x_recs⟩ ⟨x_client,x_n,x_kind,x_part,x_seq,x_off,x_max,y_gen,y_group,y_member,y_recs⟩ = false) := by
     rw [Hid]
     unfold Wi.reqEq Wi.reqNums
     simp [e7]
    go_wp2
    go_ret
    exact ⟨by rw [HY.out] <;> simp [e7],BQ.out⟩
   subst e7
   by_cases e8 : x_group = y_group
   rotate_left
   ·have HY : Hid (Wi.reqEq ⟨x_client,x_n,x_kind,x_part,x_seq,x_off,x_max,x_gen,x_group,x_member,x_recs⟩ ⟨x_client,x_n,x_kind,x_part,x_seq,x_off,x_max,x_gen,y_group,y_member,y_recs⟩ = false) := by
     rw [Hid]
     unfold Wi.reqEq Wi.reqNums
     simp [e8]
    go_wp2
    go_ret
    exact ⟨by rw [HY.out] <;> simp [e8],BQ.out⟩
   subst e8
   by_cases e9 : x_member = y_member
   rotate_left
   ·have HY : Hid (Wi.reqEq ⟨x_client,x_n,x_kind,x_part,x_seq,x_off,x_max,x_gen,x_group,x_member,x_recs⟩ ⟨x_client,x_n,x_kind,x_part,x_seq,x_off,x_max,x_gen,x_group,y_member,y_recs⟩ = false) := by
     rw [Hid]
     unfold Wi.reqEq Wi.reqNums
     simp [e9]
    go_wp2
    go_ret
    exact ⟨by rw [HY.out] <;> simp [e9],BQ.out⟩
   subst e9
   have HY : Hid (Wi.reqEq ⟨x_client,x_n,x_kind,x_part,x_seq,x_off,x_max,x_gen,x_group,x_member,x_recs⟩ ⟨x_client,x_n,x_kind,x_part,x_seq,x_off,x_max,x_gen,x_group,x_member,y_recs⟩ = true) := by
    rw [Hid]
    unfold Wi.reqEq Wi.reqNums
    dsimp only
    rw [HX2.out]
    simp
   go_wp2
   go_ret
   exact ⟨by first | rfl | (rw [HY.out]; rfl),BQ.out⟩
theorem refResps_any (a b : Wi.Resp) (pv av qv bv : Value) (w : World) (hp : Ints w pv a.parts) (hq : Ints w qv b.parts) (ha : Recs w av a.recs) (hb : Recs w bv b.recs) (la : a.recs.length ≤ maxLen ∧ a.parts.length ≤ maxLen) (lb : b.recs.length ≤ maxLen ∧ b.parts.length ≤ maxLen) :
  Calls Tryz.prog 33 #[.agg (wrespC a pv av).toArray,.agg (wrespC b qv bv).toArray] w fun e w' => e = .returned (.bool (Wi.respEq a b)) ∧ Below w.heap.size w w' := by
 have HA := hq' ha
 have HB := hq' hb
 have HP := hq' hp
 have HQ := hq' hq
 obtain ⟨sa,ca,rfl⟩ := ha.form
 obtain ⟨sb,cb,rfl⟩ := hb.form
 obtain ⟨sp,cp,rfl⟩ := hp.form
 obtain ⟨sq,cq,rfl⟩ := hq.form
 have LA := hq' la
 have LB := hq' lb
 obtain ⟨la,la2⟩ := la
 obtain ⟨lb,lb2⟩ := lb
 unfold maxLen at la lb la2 lb2
 obtain ⟨x_client,x_n,x_code,x_off,x_high,x_gen,x_parts,x_recs⟩ := a
 obtain ⟨y_client,y_n,y_code,y_off,y_high,y_gen,y_parts,y_recs⟩ := b
 dsimp only at *
 clear ha hb hp hq
 unfold wrespC
 dsimp only
 go_enter Tryz.func33,Tryz.ntmps33
 obtain ⟨w1,hw1,CA,CB,B1⟩ := twoBox (w := w) [.int .i64 x_client,.int .i64 x_n,.int .i64 x_code,.int .i64 x_off,.int .i64 x_high,.int .i64 x_gen,.slice sp x_parts.length cp,.slice sa x_recs.length ca] [.int .i64 y_client,.int .i64 y_n,.int .i64 y_code,.int .i64 y_off,.int .i64 y_high,.int .i64 y_gen,.slice sq y_parts.length cq,.slice sb y_recs.length cb] 42
 go_upto_region 1 with (fail)
 first | rw [hw1] | skip
 clear hw1
 generalize w.heap.size + 1 = pb at *
 have RA := hq' (HA.out.kept B1.out)
 have RB := hq' (HB.out.kept B1.out)
 have RP := hq' (HP.out.kept B1.out)
 have RQ := hq' (HQ.out.kept B1.out)
 have BW : Hid (∀ W,Below w1.heap.size w1 W → Below w.heap.size w W) := fun W h => bt B1.out h
 generalize w.heap.size = pa at CA ⊢
 clear HA HB HP HQ B1
 have a0 := CA.out.cell 0
 have b0 := CB.out.cell 0
 have a1 := CA.out.cell 1
 have b1 := CB.out.cell 1
 have a2 := CA.out.cell 2
 have b2 := CB.out.cell 2
 have a3 := CA.out.cell 3
 have b3 := CB.out.cell 3
 have a4 := CA.out.cell 4
 have b4 := CB.out.cell 4
 have a5 := CA.out.cell 5
 have b5 := CB.out.cell 5
 have a6 := CA.out.cell 6
 have b6 := CB.out.cell 6
 have a7 := CA.out.cell 7
 have b7 := CB.out.cell 7
 simp only [g0',gs'] at a0 b0 a1 b1 a2 b2 a3 b3 a4 b4 a5 b5 a6 b6 a7 b7
 by_cases e0 : x_client = y_client
 rotate_left
 ·have HY : Hid (Wi.respEq ⟨x_client,x_n,x_code,x_off,x_high,x_gen,x_parts,x_recs⟩ ⟨y_client,y_n,y_code,y_off,y_high,y_gen,y_parts,y_recs⟩ = false) := by
   rw [Hid]
   unfold Wi.respEq Wi.respNums
   simp [e0]
  have hn : (x_client != y_client) = true := by simpa using e0
  go_wp2
  go_ret
  exact ⟨by rw [HY.out]; rfl,BW.out _ (Below.refl _ _)⟩
 subst e0
 by_cases e1 : x_n = y_n
 rotate_left
 ·have HY : Hid (Wi.respEq ⟨x_client,x_n,x_code,x_off,x_high,x_gen,x_parts,x_recs⟩ ⟨x_client,y_n,y_code,y_off,y_high,y_gen,y_parts,y_recs⟩ = false) := by
   rw [Hid]
   unfold Wi.respEq Wi.respNums
   simp [e1]
  have hn : (x_n != y_n) = true := by simpa using e1
  go_wp2
  go_ret
  exact ⟨by rw [HY.out]; rfl,BW.out _ (Below.refl _ _)⟩
 subst e1
 by_cases e2 : x_code = y_code
 rotate_left
 ·have HY : Hid (Wi.respEq ⟨x_client,x_n,x_code,x_off,x_high,x_gen,x_parts,x_recs⟩ ⟨x_client,x_n,y_code,y_off,y_high,y_gen,y_parts,y_recs⟩ = false) := by
   rw [Hid]
   unfold Wi.respEq Wi.respNums
   simp [e2]
  have hn : (x_code != y_code) = true := by simpa using e2
  go_wp2
  go_ret
  exact ⟨by rw [HY.out]; rfl,BW.out _ (Below.refl _ _)⟩
 subst e2
 by_cases e3 : x_off = y_off
 rotate_left
 ·have HY : Hid (Wi.respEq ⟨x_client,x_n,x_code,x_off,x_high,x_gen,x_parts,x_recs⟩ ⟨x_client,x_n,x_code,y_off,y_high,y_gen,y_parts,y_recs⟩ = false) := by
   rw [Hid]
   unfold Wi.respEq Wi.respNums
   simp [e3]
  have hn : (x_off != y_off) = true := by simpa using e3
  go_wp2
  go_ret
  exact ⟨by rw [HY.out]; rfl,BW.out _ (Below.refl _ _)⟩
 subst e3
 by_cases e4 : x_high = y_high
 rotate_left
 ·have HY : Hid (Wi.respEq ⟨x_client,x_n,x_code,x_off,x_high,x_gen,x_parts,x_recs⟩ ⟨x_client,x_n,x_code,x_off,y_high,y_gen,y_parts,y_recs⟩ = false) := by
   rw [Hid]
   unfold Wi.respEq Wi.respNums
   simp [e4]
  have hn : (x_high != y_high) = true := by simpa using e4
  go_wp2
  go_ret
  exact ⟨by rw [HY.out]; rfl,BW.out _ (Below.refl _ _)⟩
 subst e4
 by_cases e5 : x_gen = y_gen
 rotate_left
 ·have HY : Hid (Wi.respEq ⟨x_client,x_n,x_code,x_off,x_high,x_gen,x_parts,x_recs⟩ ⟨x_client,x_n,x_code,x_off,x_high,y_gen,y_parts,y_recs⟩ = false) := by
   rw [Hid]
   unfold Wi.respEq Wi.respNums
   simp [e5]
  have hn : (x_gen != y_gen) = true := by simpa using e5
  go_wp2
  go_ret
  exact ⟨by rw [HY.out]; rfl,BW.out _ (Below.refl _ _)⟩
 subst e5
 have hz0 : (x_client != x_client) = false := by simp
 have hz1 : (x_n != x_n) = false := by simp
 have hz2 : (x_code != x_code) = false := by simp
 have hz3 : (x_off != x_off) = false := by simp
 have hz4 : (x_high != x_high) = false := by simp
 have hz5 : (x_gen != x_gen) = false := by simp
 by_cases hlen : x_recs.length = y_recs.length
 rotate_left
 ·have HX : Hid (Wi.respEq ⟨x_client,x_n,x_code,x_off,x_high,x_gen,x_parts,x_recs⟩ ⟨x_client,x_n,x_code,x_off,x_high,x_gen,y_parts,y_recs⟩ = false) := by
   rw [Hid]
   unfold Wi.respEq
   dsimp only
   rw [recsEq_len hlen]
   simp
  have hne : ((x_recs.length : Int) != (y_recs.length : Int)) = true := by simp; omega
  go_wp2
  go_ret
  exact ⟨by rw [HX.out]; rfl,BW.out _ (Below.refl _ _)⟩
 have HLEN := hq' hlen
 have hne : ((x_recs.length : Int) != (y_recs.length : Int)) = false := by simp [hlen]
 clear hlen
 have HI := hq' (refInts_any x_parts y_parts LA.out.2 LB.out.2 _ _ _ RP.out RQ.out)
 have HD : Hid (Wi.respEq ⟨x_client,x_n,x_code,x_off,x_high,x_gen,x_parts,x_recs⟩ ⟨x_client,x_n,x_code,x_off,x_high,x_gen,y_parts,y_recs⟩ = (decide (x_parts = y_parts) && Cr.recsEq x_recs y_recs)) := by
  rw [Hid]
  unfold Wi.respEq Wi.respNums
  simp
 go_wp2_with fail
 refine HI.out.mono ?_
 rintro e w2 ⟨rfl,hb2⟩
 have CA2 := hq' (CA.out.below hb2)
 have CB2 := hq' (CB.out.below hb2)
 have RA2 := hq' (RA.out.kept hb2)
 have RB2 := hq' (RB.out.kept hb2)
 have BW2 : Hid (∀ W,Below w2.heap.size w2 W → Below w.heap.size w W) := fun W h => BW.out W (bt hb2 h)
 clear hb2 HI CA CB RA RB BW RP RQ a0 a1 a2 a3 a4 a5 a6 a7 b0 b1 b2 b3 b4 b5 b6 b7
 have CA := CA2
 have CB := CB2
 have RA := RA2
 have RB := RB2
 have BW := BW2
 clear CA2 CB2 RA2 RB2 BW2
 have a7 := CA.out.cell 7
 have b7 := CB.out.cell 7
 simp only [g0',gs'] at a7 b7
 cases hg : decide (x_parts = y_parts) with
 | false =>
  have HX : Hid (Wi.respEq ⟨x_client,x_n,x_code,x_off,x_high,x_gen,x_parts,x_recs⟩ ⟨x_client,x_n,x_code,x_off,x_high,x_gen,y_parts,y_recs⟩ = false) := by rw [Hid,HD.out,hg]; rfl
  clear hg
  go_wp2
  go_ret
  exact ⟨by rw [HX.out]; rfl,BW.out _ (Below.refl _ _)⟩
 | true =>
  have HE : Hid (Wi.respEq ⟨x_client,x_n,x_code,x_off,x_high,x_gen,x_parts,x_recs⟩ ⟨x_client,x_n,x_code,x_off,x_high,x_gen,y_parts,y_recs⟩ = Cr.recsEq x_recs y_recs) := by rw [Hid,HD.out,hg]; rfl
  clear hg HD
  go_wp2
  go_loopw [5] (fun i wr => ∃ k q : Nat,i = .int .i64 k ∧ k ≤ x_recs.length ∧ Cr.recsEq x_recs y_recs = Cr.recsEq (x_recs.drop k) (y_recs.drop k) ∧ wr = w2.drewN q) (fun i _ => x_recs.length - (intOf i).toNat)
  case atStart => exact ⟨0,0,rfl,by omega,rfl,rfl⟩
  case round =>
   obtain ⟨k,q,rfl,hk,hq,rfl⟩ := hrel
   have HQ := hq' hq
   clear hq
   by_cases hlt : k < x_recs.length
   ·have hlti : (k : Int) < (x_recs.length : Int) := by omega
    have hk2 : k < y_recs.length := by have := HLEN.out; omega
    have hk2i : (k : Int) < (y_recs.length : Int) := by omega
    obtain ⟨x,hx⟩ : ∃ x,x_recs[k]? = some x := ⟨x_recs[k],by simp [hlt]⟩
    obtain ⟨y,hy⟩ : ∃ y,y_recs[k]? = some y := ⟨y_recs[k],by simp [hk2]⟩
    have HS := hq' (recsEq_step hx hy)
    obtain ⟨g,off,cap',he,hg,p0,p1,p2,p3⟩ := RA.out.get (Below.refl _ _) hx
    injection he with he1 he2 he3
    subst he1 he3
    obtain ⟨g2,off2,cap2',he',hg2,s0,s1,s2,s3⟩ := RB.out.get (Below.refl _ _) hy
    injection he' with he'1 he'2 he'3
    subst he'1 he'3
    obtain ⟨x0,xk,xv,xg⟩ := x
    obtain ⟨y0,yk,yv,yg⟩ := y
    dsimp only at p0 p1 p2 p3 s0 s1 s2 s3 HS
    clear he2 he'2 hx hy
    have hn := fun w => rec_neq x0 y0 xk yk xv yv xg yg w
    cases hb : Cr.recEq ⟨x0,xk,xv,xg⟩ ⟨y0,yk,yv,yg⟩ with
    | true =>
     have HX2 : Hid (Cr.recsEq x_recs y_recs = Cr.recsEq (x_recs.drop (k + 1)) (y_recs.drop (k + 1))) := by rw [Hid,HQ.out,HS.out,hb]; rfl
     simp only [hb,Bool.not_true] at hn
     clear HS hb HQ
     go_wp2
     go_quiet (fail)
     go_wp2
     go_roundw
     case rel => exact ⟨k + 1,_,by go_num,by omega,HX2.out,rfl⟩
     case measure => simp [intOf]; omega
    | false =>
     have HX2 : Hid (Cr.recsEq x_recs y_recs = false) := by rw [Hid,HQ.out,HS.out,hb]; rfl
     simp only [hb,Bool.not_false] at hn
     clear HS hb HQ
     go_wp2
     go_quiet (fail)
     have BQ := BW.out _ (below_drewN (below_drewN (Below.refl _ _) q) nq)
     go_wp2
     go_ret
     exact ⟨by rw [HE.out,HX2.out]; rfl,BQ⟩
   ·obtain rfl : k = x_recs.length := by omega
    have HX2 : Hid (Cr.recsEq x_recs y_recs = true) := by rw [Hid,HQ.out,List.drop_of_length_le (Nat.le_refl _),List.drop_of_length_le (by rw [HLEN.out]; exact Nat.le_refl _)]; rfl
    have BQ := hq' (BW.out _ (below_drewN (Below.refl _ _) q))
    go_wp2
    go_ret
    exact ⟨by rw [HE.out,HX2.out]; rfl,BQ.out⟩
end Go.Proofs.YtbljbdjmgogknaaGreatDoor
