/-
  Yd: texts of one proof, one behind the other.
  Conditions: none of its own.
-/
import Derived.Test.YtbljbdjmgogknaaGreatDoorZao
import Derived.Test.YtbljbdjmgogknaaGreatDoorZbl
set_option linter.unusedVariables false
set_option linter.unusedSimpArgs false
set_option maxHeartbeats 12800000
set_option maxRecDepth 20000
namespace Go.Proofs.YtbljbdjmgogknaaGreatDoor
open Go.RowKit
theorem refin_any (n low high : Int) (w : World) : Calls Tryz.prog 48 #[.int .i64 n,.int .i64 low,.int .i64 high] w fun e w' => e = .returned (.bool (Wi.inB n low high)) ∧ w' = w := by
 unfold Wi.inB
 by_cases h0 : low ≤ n
 ·by_cases h1 : n ≤ high
  ·rw [show (decide (low ≤ n) && decide (n ≤ high)) = true by simp [h0,h1]]
   go_enter Tryz.func48,Tryz.ntmps48
   go_wp2
   go_ret
   exact ⟨by simp [h0,h1] <;> omega,rfl⟩
  ·rw [show (decide (low ≤ n) && decide (n ≤ high)) = false by simp [h0,h1]]
   go_enter Tryz.func48,Tryz.ntmps48
   go_wp2
   go_ret
   exact ⟨by simp [h0,h1] <;> omega,rfl⟩
 ·rw [show (decide (low ≤ n) && decide (n ≤ high)) = false by simp [h0]]
  go_enter Tryz.func48,Tryz.ntmps48
  go_wp2
  go_ret
  exact ⟨rfl,rfl⟩
theorem refunit_any (n : Int) (w : World) : Calls Tryz.prog 49 #[.int .i64 n] w fun e w' => e = .returned (.bool (Wi.unitB n)) ∧ w' = w := by
 unfold Wi.unitB
 have H1 := hq' (refin_any n 0 5 w)
 have H2 := hq' (refin_any n 11 14 w)
 generalize Wi.inB n 0 5 = b1 at *
 generalize Wi.inB n 11 14 = b2 at *
 go_enter Tryz.func49,Tryz.ntmps49
 go_wp2_with fail
 refine H1.out.mono ?_
 rintro e w1 ⟨rfl,hw⟩
 subst hw
 cases b1 with
 | true =>
  go_wp2
  go_ret
  exact ⟨rfl,rfl⟩
 | false =>
  go_wp2_with fail
  refine H2.out.mono ?_
  rintro e w2 ⟨rfl,hw⟩
  subst hw
  go_wp2
  go_ret
  exact ⟨rfl,rfl⟩
theorem refnum14_any (n : Int) (w : World) : Calls Tryz.prog 85 #[.int .i64 n] w fun e w' => e = .returned (.bool (Wi.inB n 0 1099511627776)) ∧ w' = w := by
 have H1 := hq' (refin_any n 0 1099511627776 w)
 generalize Wi.inB n 0 1099511627776 = b1 at *
 go_enter Tryz.func85,Tryz.ntmps85
 go_wp2_with fail
 refine H1.out.mono ?_
 rintro e w1 ⟨rfl,hw⟩
 subst hw
 go_wp2
 go_ret
 exact ⟨rfl,rfl⟩
theorem allB_step {α : Type} {p : α → Bool} {l : List α} {k : Nat} {x : α} (hx : l[k]? = some x) : (l.drop k).all p = (p x && (l.drop (k + 1)).all p) := by
 obtain ⟨hk,rfl⟩ := List.getElem?_eq_some_iff.1 hx
 rw [List.drop_eq_getElem_cons hk,List.all_cons]
theorem allB_end {α : Type} {p : α → Bool} {l : List α} : (l.drop l.length).all p = true := by rw [List.drop_length]; rfl
theorem refreq_any (q : Wi.Req) (rv : Value) (w : World) (h : Recs w rv q.recs) (hg : q.group.length ≤ maxLen) (hm : q.member.length ≤ maxLen) (hrl : q.recs.length ≤ maxLen) (hro : ∀ x ∈ q.recs,RecOk x) :
  Calls Tryz.prog 51 #[.agg (wreqC q rv).toArray] w fun e w' => e = .returned (.bool (Wi.reqB q)) ∧ Below w.heap.size w w' := by
 have HZ := hq' h
 obtain ⟨ra,rc,hrv⟩ := h.form
 subst hrv
 obtain ⟨x_client,x_n,x_kind,x_part,x_seq,x_off,x_max,x_gen,x_group,x_member,x_recs⟩ := q
 unfold wreqC
 dsimp only at *
 have HF := hq' (fun W (hW : Below w.heap.size w W) => reffits_any x_recs hro hrl _ W (HZ.out.kept hW))
 unfold maxLen at hg hm hrl
 clear h hro
 have W0 := hq' (fun W => refin_any x_client 1 4 W)
 have W1 := hq' (fun W => refin_any x_kind 1 8 W)
 have W2 := hq' (fun W => refnum14_any x_n W)
 have W3 := hq' (fun W => refnum14_any x_part W)
 have W4 := hq' (fun W => refnum14_any x_seq W)
 have W5 := hq' (fun W => refin_any x_off (-1099511627776) 1099511627776 W)
 have W6 := hq' (fun W => refnum14_any x_max W)
 have W7 := hq' (fun W => refnum14_any x_gen W)
 have HE : Hid (Wi.reqB ⟨x_client,x_n,x_kind,x_part,x_seq,x_off,x_max,x_gen,x_group,x_member,x_recs⟩ = ((Wi.inB x_client 1 4 && (Wi.inB x_kind 1 8 && (Wi.inB x_n 0 1099511627776 && (Wi.inB x_part 0 1099511627776 && (Wi.inB x_seq 0 1099511627776 && (Wi.inB x_off (-1099511627776) 1099511627776 && (Wi.inB x_max 0 1099511627776 && (Wi.inB x_gen 0 1099511627776 && (decide (x_group.length ≤ 8) && decide (x_member.length ≤ 8)))))))))) && (x_recs.all (fun x => decide (x.off = 0)) && (decide (x_recs.length = 0) || Cr.fits x_recs)))) := by
  rw [Hid]
  unfold Wi.reqB Wi.areB
  simp only [List.all_cons,List.all_nil,Bool.and_true]
  ac_rfl
 rw [HE.out]
 generalize Wi.inB x_client 1 4 = b0 at *
 generalize Wi.inB x_kind 1 8 = b1 at *
 generalize Wi.inB x_n 0 1099511627776 = b2 at *
 generalize Wi.inB x_part 0 1099511627776 = b3 at *
 generalize Wi.inB x_seq 0 1099511627776 = b4 at *
 generalize Wi.inB x_off (-1099511627776) 1099511627776 = b5 at *
 generalize Wi.inB x_max 0 1099511627776 = b6 at *
 generalize Wi.inB x_gen 0 1099511627776 = b7 at *
 obtain ⟨r1,hr1⟩ : ∃ r,r = (b0 && (b1 && (b2 && (b3 && (b4 && (b5 && (b6 && (b7 && (decide (x_group.length ≤ 8) && decide (x_member.length ≤ 8)))))))))) := ⟨_,rfl⟩
 rw [← hr1]
 have HR1 := hq' hr1
 clear HE hr1
 go_enter Tryz.func51,Tryz.ntmps51
 obtain ⟨w1,hw1,CA,B1⟩ := oneBox (w := w) [.int .i64 x_client,.int .i64 x_n,.int .i64 x_kind,.int .i64 x_part,.int .i64 x_seq,.int .i64 x_off,.int .i64 x_max,.int .i64 x_gen,.string ⟨x_group.toArray⟩,.string ⟨x_member.toArray⟩,.slice ra x_recs.length rc] 39
 have HW1 := hq' hw1
 clear hw1
 go_upto_region 1 with (fail)
 first | rw [HW1.out] | skip
 clear HW1
 have a0 := CA.out.cell 0
 have a1 := CA.out.cell 1
 have a2 := CA.out.cell 2
 have a3 := CA.out.cell 3
 have a4 := CA.out.cell 4
 have a5 := CA.out.cell 5
 have a6 := CA.out.cell 6
 have a7 := CA.out.cell 7
 have a8 := CA.out.cell 8
 have a9 := CA.out.cell 9
 have a10 := CA.out.cell 10
 simp only [g0',gs'] at a0 a1 a2 a3 a4 a5 a6 a7 a8 a9 a10
 generalize w.heap.size = pa at CA a0 a1 a2 a3 a4 a5 a6 a7 a8 a9 a10 ⊢
 go_cut [61] (fun t wz => t = .bool (!r1) ∧ wz = w1)
 case first =>
  clear HZ HF B1 CA
  go_wp2_with fail
  refine (W0.out _).mono ?_
  rintro e w5 ⟨rfl,hw5⟩
  subst hw5
  cases b0
  ·
   go_wp2
   go_meet
   case rel => exact ⟨by rw [HR1.out]; first | rfl | (simp; omega),rfl⟩
  go_wp2_with fail
  refine (W1.out _).mono ?_
  rintro e w5 ⟨rfl,hw5⟩
  subst hw5
  cases b1
  ·
   go_wp2
   go_meet
   case rel => exact ⟨by rw [HR1.out]; first | rfl | (simp; omega),rfl⟩
  go_wp2_with fail
  refine (W2.out _).mono ?_
  rintro e w5 ⟨rfl,hw5⟩
  subst hw5
  cases b2
  ·
   go_wp2
   go_meet
   case rel => exact ⟨by rw [HR1.out]; first | rfl | (simp; omega),rfl⟩
  go_wp2_with fail
  refine (W3.out _).mono ?_
  rintro e w5 ⟨rfl,hw5⟩
  subst hw5
  cases b3
  ·
   go_wp2
   go_meet
   case rel => exact ⟨by rw [HR1.out]; first | rfl | (simp; omega),rfl⟩
  go_wp2_with fail
  refine (W4.out _).mono ?_
  rintro e w5 ⟨rfl,hw5⟩
  subst hw5
  cases b4
  ·
   go_wp2
   go_meet
   case rel => exact ⟨by rw [HR1.out]; first | rfl | (simp; omega),rfl⟩
  go_wp2_with fail
  refine (W5.out _).mono ?_
  rintro e w5 ⟨rfl,hw5⟩
  subst hw5
  cases b5
  ·
   go_wp2
   go_meet
   case rel => exact ⟨by rw [HR1.out]; first | rfl | (simp; omega),rfl⟩
  go_wp2_with fail
  refine (W6.out _).mono ?_
  rintro e w5 ⟨rfl,hw5⟩
  subst hw5
  cases b6
  ·
   go_wp2
   go_meet
   case rel => exact ⟨by rw [HR1.out]; first | rfl | (simp; omega),rfl⟩
  go_wp2_with fail
  refine (W7.out _).mono ?_
  rintro e w5 ⟨rfl,hw5⟩
  subst hw5
  cases b7
  ·
   go_wp2
   go_meet
   case rel => exact ⟨by rw [HR1.out]; first | rfl | (simp; omega),rfl⟩
  by_cases hg8 : x_group.length ≤ 8
  rotate_left
  ·have hg8i : ((8 : Int)) < ((x_group.length : Nat) : Int) := by omega
   have hg8d : Hid (decide (x_group.length ≤ 8) = false) := decide_eq_false hg8
   rw [hg8d.out] at HR1
   go_wp2
   go_meet
   case rel => exact ⟨by rw [HR1.out]; first | rfl | (simp; omega),rfl⟩
  have hg8i : ¬ (((8 : Int)) < ((x_group.length : Nat) : Int)) := by omega
  have hg8d : Hid (decide (x_group.length ≤ 8) = true) := decide_eq_true hg8
  rw [hg8d.out] at HR1
  by_cases hm8 : x_member.length ≤ 8
  rotate_left
  ·have hm8i : ((8 : Int)) < ((x_member.length : Nat) : Int) := by omega
   have hm8d : Hid (decide (x_member.length ≤ 8) = false) := decide_eq_false hm8
   rw [hm8d.out] at HR1
   go_wp2
   go_meet
   case rel => exact ⟨by rw [HR1.out]; first | rfl | (simp; omega),rfl⟩
  have hm8i : ¬ (((8 : Int)) < ((x_member.length : Nat) : Int)) := by omega
  have hm8d : Hid (decide (x_member.length ≤ 8) = true) := decide_eq_true hm8
  rw [hm8d.out] at HR1
  go_wp2
  go_meet
  case rel => exact ⟨by rw [HR1.out]; first | rfl | (simp; omega),rfl⟩
 case rest =>
  obtain ⟨rfl,hwc⟩ := hcut
  have hwc' := hwc.symm
  clear hwc
  subst hwc'
  clear HR1 W0 W1 W2 W3 W4 W5 W6 W7
  cases r1 with
  | false =>
   go_wp2
   go_ret
   exact ⟨rfl,B1.out⟩
  | true =>
   first | simp only [Bool.not_true] | skip
   go_wp2
   go_loop [3] (fun i => ∃ k : Nat,i = .int .i64 k ∧ k ≤ x_recs.length ∧ x_recs.all (fun x => decide (x.off = 0)) = (x_recs.drop k).all (fun x => decide (x.off = 0))) (fun i => x_recs.length - (intOf i).toNat)
   case atStart => exact ⟨0,rfl,by omega,rfl⟩
   case round =>
    obtain ⟨k,rfl,hk,hq⟩ := hrel
    have HQ := hq' hq
    clear hq
    by_cases hlt : k < x_recs.length
    ·have hlti : (k : Int) < (x_recs.length : Int) := by omega
     obtain ⟨x,hx⟩ : ∃ x,x_recs[k]? = some x := ⟨x_recs[k],by simp [hlt]⟩
     have HS := hq' (allB_step (p := fun x : Cr.Rec => decide (x.off = 0)) hx)
     obtain ⟨g,off,cap',he,hg,p0,p1,p2,p3⟩ := HZ.out.get B1.out hx
     injection he with he1 he2 he3
     subst he1 he3
     clear he2 hx p1 p2 p3
     by_cases hz : x.off = 0
     ·have HX : Hid (x_recs.all (fun x => decide (x.off = 0)) = (x_recs.drop (k + 1)).all (fun x => decide (x.off = 0))) := by rw [Hid,HQ.out,HS.out,decide_eq_true hz]; rfl
      rw [hz] at p0
      clear HS HQ hz
      go_wp2
      go_round
      case rel => exact ⟨k + 1,by go_num,by omega,HX.out⟩
      case measure => simp [intOf]; omega
     ·have HX : Hid (x_recs.all (fun x => decide (x.off = 0)) = false) := by rw [Hid,HQ.out,HS.out,decide_eq_false hz]; rfl
      have hz2 : (x.off != 0) = true := by simpa using hz
      clear HS HQ
      go_wp2
      go_ret
      exact ⟨by rw [HX.out]; rfl,B1.out⟩
    ·obtain rfl : k = x_recs.length := by omega
     have HX : Hid (x_recs.all (fun x => decide (x.off = 0)) = true) := by rw [Hid,HQ.out]; exact allB_end
     clear HQ
     by_cases h0 : x_recs.length = 0
     ·have HY : Hid (decide (x_recs.length = 0) = true) := decide_eq_true h0
      have HYL : Hid (decide (x_recs = []) = true) := decide_eq_true (List.length_eq_zero_iff.1 h0)
      have h0i : ((x_recs.length : Int) == 0) = true := by simp [h0]
      have h0e : decide ((x_recs.length : Int) = 0) = true := decide_eq_true (by omega)
      have h0d : decide (x_recs.length = 0) = true := decide_eq_true h0
      clear h0
      go_wp2
      go_ret
      exact ⟨by first | rfl | (rw [HX.out,HY.out]; rfl) | (rw [HX.out,HYL.out]; rfl) | (rw [HYL.out]; rfl),B1.out⟩
     ·have HY : Hid (decide (x_recs.length = 0) = false) := decide_eq_false h0
      have HYL : Hid (decide (x_recs = []) = false) := decide_eq_false (fun e => h0 (by rw [e]; rfl))
      have h0i : ((x_recs.length : Int) == 0) = false := beq_eq_false_iff_ne.2 (by omega)
      go_wp2_with fail
      refine (HF.out _ B1.out).mono ?_
      rintro e w3 ⟨rfl,hb⟩
      have B3 := hq' (bt B1.out hb)
      clear hb
      go_wp2
      go_ret
      exact ⟨by first | (rw [HX.out,HY.out]; rfl) | (rw [HX.out,HYL.out]; rfl) | (rw [HYL.out]; rfl),B3.out⟩
theorem refresp_any (a : Wi.Resp) (pv rv : Value) (w : World) (hp : Ints w pv a.parts) (h : Recs w rv a.recs) (hpl : a.parts.length ≤ maxLen) (hrl : a.recs.length ≤ maxLen) (hro : ∀ x ∈ a.recs,RecOk x) (hcap : CapOk rv) :
  Calls Tryz.prog 52 #[.agg (wrespC a pv rv).toArray] w fun e w' => e = .returned (.bool (Wi.respB a)) ∧ Below w.heap.size w w' := by
 have HZ := hq' h
 have HP := hq' hp
 have HRO := hq' hro
 obtain ⟨ra,rc,hrv⟩ := h.form
 have hrc := hcap _ _ _ hrv
 subst hrv
 obtain ⟨qa,qc,hpv⟩ := hp.form
 subst hpv
 obtain ⟨i0,hi,hz0,hz1,hz2⟩ := info_parts recInfo4
 obtain ⟨x_client,x_n,x_code,x_off,x_high,x_gen,x_parts,x_recs⟩ := a
 unfold wrespC
 dsimp only at *
 unfold maxLen at hpl hrl
 clear h hp hro hcap
 have W0 := hq' (fun W => refin_any x_client 1 4 W)
 have W1 := hq' (fun W => refin_any x_code 0 99 W)
 have W2 := hq' (fun W => refnum14_any x_n W)
 have W3 := hq' (fun W => refnum14_any x_off W)
 have W4 := hq' (fun W => refnum14_any x_high W)
 have W5 := hq' (fun W => refnum14_any x_gen W)
 have HE : Hid (Wi.respB ⟨x_client,x_n,x_code,x_off,x_high,x_gen,x_parts,x_recs⟩ = ((Wi.inB x_client 1 4 && (Wi.inB x_code 0 99 && (Wi.inB x_n 0 1099511627776 && (Wi.inB x_off 0 1099511627776 && (Wi.inB x_high 0 1099511627776 && (Wi.inB x_gen 0 1099511627776 && (decide (x_parts.length ≤ 4) && decide (x_recs.length ≤ 16)))))))) && (Wi.areB 0 3 x_parts && Wi.risingB (-1) x_recs))) := by
  rw [Hid]
  unfold Wi.respB
  rw [show Wi.areB 0 1099511627776 [x_n,x_off,x_high,x_gen] = (Wi.inB x_n 0 1099511627776 && (Wi.inB x_off 0 1099511627776 && (Wi.inB x_high 0 1099511627776 && Wi.inB x_gen 0 1099511627776))) by simp [Wi.areB]]
  dsimp only
  ac_rfl
 rw [HE.out]
 generalize Wi.inB x_client 1 4 = b0 at *
 generalize Wi.inB x_code 0 99 = b1 at *
 generalize Wi.inB x_n 0 1099511627776 = b2 at *
 generalize Wi.inB x_off 0 1099511627776 = b3 at *
 generalize Wi.inB x_high 0 1099511627776 = b4 at *
 generalize Wi.inB x_gen 0 1099511627776 = b5 at *
 obtain ⟨r1,hr1⟩ : ∃ r,r = (b0 && (b1 && (b2 && (b3 && (b4 && (b5 && (decide (x_parts.length ≤ 4) && decide (x_recs.length ≤ 16)))))))) := ⟨_,rfl⟩
 rw [← hr1]
 have HR1 := hq' hr1
 clear HE hr1
 go_enter Tryz.func52,Tryz.ntmps52
 obtain ⟨w1,hw1,CA,B1⟩ := oneBox (w := w) [.int .i64 x_client,.int .i64 x_n,.int .i64 x_code,.int .i64 x_off,.int .i64 x_high,.int .i64 x_gen,.slice qa x_parts.length qc,.slice ra x_recs.length rc] 42
 have HW1 := hq' hw1
 clear hw1
 go_upto_region 1 with (fail)
 first | rw [HW1.out] | skip
 clear HW1
 have a0 := CA.out.cell 0
 have a1 := CA.out.cell 1
 have a2 := CA.out.cell 2
 have a3 := CA.out.cell 3
 have a4 := CA.out.cell 4
 have a5 := CA.out.cell 5
 have a6 := CA.out.cell 6
 have a7 := CA.out.cell 7
 simp only [g0',gs'] at a0 a1 a2 a3 a4 a5 a6 a7
 generalize w.heap.size = pa at CA a0 a1 a2 a3 a4 a5 a6 a7 ⊢
 go_cut [51] (fun t wz => t = .bool (!r1) ∧ wz = w1)
 case first =>
  clear HZ HP HRO B1 CA
  go_wp2_with fail
  refine (W0.out _).mono ?_
  rintro e w5 ⟨rfl,hw5⟩
  subst hw5
  cases b0
  ·
   go_wp2
   go_meet
   case rel => exact ⟨by rw [HR1.out]; first | rfl | (simp; omega),rfl⟩
  go_wp2_with fail
  refine (W1.out _).mono ?_
  rintro e w5 ⟨rfl,hw5⟩
  subst hw5
  cases b1
  ·
   go_wp2
   go_meet
   case rel => exact ⟨by rw [HR1.out]; first | rfl | (simp; omega),rfl⟩
  go_wp2_with fail
  refine (W2.out _).mono ?_
  rintro e w5 ⟨rfl,hw5⟩
  subst hw5
  cases b2
  ·
   go_wp2
   go_meet
   case rel => exact ⟨by rw [HR1.out]; first | rfl | (simp; omega),rfl⟩
  go_wp2_with fail
  refine (W3.out _).mono ?_
  rintro e w5 ⟨rfl,hw5⟩
  subst hw5
  cases b3
  ·
   go_wp2
   go_meet
   case rel => exact ⟨by rw [HR1.out]; first | rfl | (simp; omega),rfl⟩
  go_wp2_with fail
  refine (W4.out _).mono ?_
  rintro e w5 ⟨rfl,hw5⟩
  subst hw5
  cases b4
  ·
   go_wp2
   go_meet
   case rel => exact ⟨by rw [HR1.out]; first | rfl | (simp; omega),rfl⟩
  go_wp2_with fail
  refine (W5.out _).mono ?_
  rintro e w5 ⟨rfl,hw5⟩
  subst hw5
  cases b5
  ·
   go_wp2
   go_meet
   case rel => exact ⟨by rw [HR1.out]; first | rfl | (simp; omega),rfl⟩
  by_cases hp4 : x_parts.length ≤ 4
  rotate_left
  ·have hp4i : ((4 : Int)) < ((x_parts.length : Nat) : Int) := by omega
   have hp4d : Hid (decide (x_parts.length ≤ 4) = false) := decide_eq_false hp4
   rw [hp4d.out] at HR1
   go_wp2
   go_meet
   case rel => exact ⟨by rw [HR1.out]; first | rfl | (simp; omega),rfl⟩
  have hp4i : ¬ (((4 : Int)) < ((x_parts.length : Nat) : Int)) := by omega
  have hp4d : Hid (decide (x_parts.length ≤ 4) = true) := decide_eq_true hp4
  rw [hp4d.out] at HR1
  by_cases hr16 : x_recs.length ≤ 16
  rotate_left
  ·have hr16i : ((16 : Int)) < ((x_recs.length : Nat) : Int) := by omega
   have hr16d : Hid (decide (x_recs.length ≤ 16) = false) := decide_eq_false hr16
   rw [hr16d.out] at HR1
   go_wp2
   go_meet
   case rel => exact ⟨by rw [HR1.out]; first | rfl | (simp; omega),rfl⟩
  have hr16i : ¬ (((16 : Int)) < ((x_recs.length : Nat) : Int)) := by omega
  have hr16d : Hid (decide (x_recs.length ≤ 16) = true) := decide_eq_true hr16
  rw [hr16d.out] at HR1
  go_wp2
  go_meet
  case rel => exact ⟨by rw [HR1.out]; first | rfl | (simp; omega),rfl⟩
 case rest =>
  obtain ⟨rfl,hwc⟩ := hcut
  have hwc' := hwc.symm
  clear hwc
  subst hwc'
  clear HR1 W0 W1 W2 W3 W4 W5
  cases r1 with
  | false =>
   go_wp2
   go_ret
   exact ⟨rfl,B1.out⟩
  | true =>
   first | simp only [Bool.not_true] | skip
   go_wp2
   go_loop [3] (fun i => ∃ k : Nat,i = .int .i64 k ∧ k ≤ x_parts.length ∧ Wi.areB 0 3 x_parts = Wi.areB 0 3 (x_parts.drop k)) (fun i => x_parts.length - (intOf i).toNat)
   case atStart => exact ⟨0,rfl,by omega,rfl⟩
   case round =>
    obtain ⟨k,rfl,hk,hq⟩ := hrel
    have HQ := hq' hq
    clear hq
    by_cases hlt : k < x_parts.length
    ·have hlti : (k : Int) < (x_parts.length : Int) := by omega
     obtain ⟨x,hx⟩ : ∃ x,x_parts[k]? = some x := ⟨x_parts[k],by simp [hlt]⟩
     have HS := hq' (show Wi.areB 0 3 (x_parts.drop k) = (Wi.inB x 0 3 && Wi.areB 0 3 (x_parts.drop (k + 1))) from allB_step (p := fun n => Wi.inB n 0 3) hx)
     obtain ⟨g,off,cap',he,hg,p0⟩ := HP.out.get B1.out hx
     injection he with he1 he2 he3
     subst he1 he3
     clear he2 hx
     have WP := hq' (fun W => refin_any x 0 3 W)
     generalize Wi.inB x 0 3 = c at *
     go_wp2_with fail
     refine (WP.out _).mono ?_
     rintro e w5 ⟨rfl,hw5⟩
     subst hw5
     cases c with
     | true =>
      have HX : Hid (Wi.areB 0 3 x_parts = Wi.areB 0 3 (x_parts.drop (k + 1))) := by rw [Hid,HQ.out,HS.out]; rfl
      clear HS HQ
      go_wp2
      go_round
      case rel => exact ⟨k + 1,by go_num,by omega,HX.out⟩
      case measure => simp [intOf]; omega
     | false =>
      have HX : Hid (Wi.areB 0 3 x_parts = false) := by rw [Hid,HQ.out,HS.out]; rfl
      clear HS HQ
      go_wp2
      go_ret
      exact ⟨by rw [HX.out]; rfl,B1.out⟩
    ·obtain rfl : k = x_parts.length := by omega
     have HX1 : Hid (Wi.areB 0 3 x_parts = true) := by rw [Hid,HQ.out]; exact allB_end
     clear HQ
     go_wp2
     go_loopw [4,5] (fun tl ti wr => ∃ k : Nat,tl = .int .i64 (prevOff x_recs k) ∧ ti = .int .i64 k ∧ k ≤ x_recs.length ∧ Wi.risingB (-1) x_recs = Wi.risingB (prevOff x_recs k) (x_recs.drop k) ∧ Below w1.heap.size w1 wr) (fun _ ti _ => x_recs.length - (intOf ti).toNat)
     case atStart => exact ⟨0,rfl,rfl,by omega,rfl,Below.refl _ _⟩
     case round =>
      obtain ⟨k,rfl,rfl,hk,hq,hb⟩ := hrel
      have HQ := hq' hq
      have BR := hq' (bt B1.out hb)
      have BC := hq' hb
      have CR := hq' (CA.out.below hb)
      clear hq hb
      have c7 := CR.out.cell 7
      simp only [g0',gs'] at c7
      by_cases hlt : k < x_recs.length
      ·have hlti : (k : Int) < (x_recs.length : Int) := by omega
       obtain ⟨x,hx⟩ : ∃ x,x_recs[k]? = some x := ⟨x_recs[k],by simp [hlt]⟩
       have HS := hq' (rising_step hx (prevOff x_recs k))
       have HPO : Hid (prevOff x_recs (k + 1) = x.off) := prevOff_succ hx
       obtain ⟨g,off,cap',he,hg,p0,p1,p2,p3⟩ := HZ.out.get BR.out hx
       injection he with he1 he2 he3
       subst he1 he3
       have HFT := hq' (fun (W : World) (hW : Below w.heap.size w W) => reffits_any [x] (fun y hy => by rw [List.mem_singleton.1 hy]; exact HRO.out x (List.mem_of_getElem? hx)) (by simp [maxLen]) (.slice (some ⟨g,off + k * 4,none⟩) 1 (rc - k)) W (recs_one HZ.out hx hW))
       have HG0 := hq' (fun (W : World) (hW : Below w.heap.size w W) => (HZ.out.get hW hx))
       have hsl := fun W => slice_one (P := Tryz.prog) 34 67 i0 Tryz.underlying34 hi hz1 g off x_recs.length rc k hlt hrc W
       have WN := hq' (fun W => refnum14_any x.off W)
       have HP0 : Hid (∀ W,Below w.heap.size w W → W.cell? ⟨g,off + k * 4,none⟩ = some (.int .i64 x.off)) := fun W hW => by
        obtain ⟨g',off',cap'',he',_,q0,_⟩ := HZ.out.get hW hx
        injection he' with he1
        injection he1 with he1
        injection he1 with he1 he4
        subst he1 he4
        exact q0
       clear he2 hx p1 p2 p3 HG0
       generalize Cr.fits [x] = c2 at *
       generalize Wi.inB x.off 0 1099511627776 = c1 at *
       generalize x.off = xo at *
       generalize prevOff x_recs k = po at *
       go_wp2_with fail
       refine (WN.out _).mono ?_
       rintro e w5 ⟨rfl,hw5⟩
       subst hw5
       cases c1 with
       | false =>
        have HX : Hid (Wi.risingB (-1) x_recs = false) := by rw [Hid,HQ.out,HS.out]; rfl
        clear HS HQ
        go_wp2
        go_ret
        exact ⟨by rw [HX1.out,HX.out]; rfl,BR.out⟩
       | true =>
        by_cases hpo : po < xo
        rotate_left
        ·have HX : Hid (Wi.risingB (-1) x_recs = false) := by rw [Hid,HQ.out,HS.out,decide_eq_false hpo]; simp
         have hle : xo ≤ po := by omega
         clear HS HQ
         go_wp2
         go_ret
         exact ⟨by rw [HX1.out,HX.out]; rfl,BR.out⟩
        have hle : ¬ xo ≤ po := by omega
        go_wp2_with fail
        refine (HFT.out _ BR.out).mono ?_
        rintro e w6 ⟨rfl,hb⟩
        have B6 := hq' (bt BR.out hb)
        have C6 := hq' (CR.out.below hb)
        have BC6 := hq' (bt BC.out hb)
        clear hb c7 p0
        have c7 := C6.out.cell 7
        have p0 := HP0.out _ B6.out
        simp only [g0',gs'] at c7
        cases c2 with
        | false =>
         have HX : Hid (Wi.risingB (-1) x_recs = false) := by rw [Hid,HQ.out,HS.out]; rfl
         clear HS HQ
         go_wp2
         go_ret
         exact ⟨by rw [HX1.out,HX.out]; rfl,B6.out⟩
        | true =>
         have HX : Hid (Wi.risingB (-1) x_recs = Wi.risingB (prevOff x_recs (k + 1)) (x_recs.drop (k + 1))) := by rw [Hid,HQ.out,HS.out,decide_eq_true hpo,HPO.out]; rfl
         clear HS HQ
         go_wp2
         go_roundw
         case rel => exact ⟨k + 1,by rw [HPO.out],by go_num,by omega,HX.out,BC6.out⟩
         case measure => simp [intOf]; omega
      ·obtain rfl : k = x_recs.length := by omega
       have HX : Hid (Wi.risingB (-1) x_recs = true) := by rw [Hid,HQ.out,List.drop_length]; rfl
       go_wp2
       go_ret
       exact ⟨by rw [HX1.out,HX.out]; rfl,BR.out⟩
theorem refplace_any (pep learner : Int) (chain : List Int) (lives : List (Int × Int)) (cv lv : Value) (w : World) (hc : Ints w cv chain) (hcl : chain.length ≤ maxLen) (hl : Rw 2 lifeC w lv lives) (hll : lives.length ≤ maxLen) :
  Calls Tryz.prog 53 #[.agg #[.int .i64 pep,cv,.int .i64 learner],lv] w fun e w' => e = .returned (.bool (Wi.inB pep 0 1073741824 && (Wi.inB learner 0 5 && (decide (chain.length ≤ 5) && (Wi.areB 1 5 chain && (decide (lives.length ≤ 5) && lives.all Wi.lifeB)))))) ∧ Below w.heap.size w w' := by
 have HC := hq' hc
 have HL := hq' hl
 obtain ⟨ca,cc,rfl⟩ := hc.form
 obtain ⟨la,lc,rfl⟩ := hl.form
 unfold maxLen at hcl hll
 clear hc hl
 have W0 := hq' (fun W => refin_any pep 0 1073741824 W)
 have W1 := hq' (fun W => refin_any learner 0 5 W)
 have HE : Hid ((Wi.inB pep 0 1073741824 && (Wi.inB learner 0 5 && (decide (chain.length ≤ 5) && (Wi.areB 1 5 chain && (decide (lives.length ≤ 5) && lives.all Wi.lifeB))))) = ((Wi.inB pep 0 1073741824 && (Wi.inB learner 0 5 && (decide (chain.length ≤ 5) && decide (lives.length ≤ 5)))) && (Wi.areB 1 5 chain && lives.all Wi.lifeB))) := by
  rw [Hid]
  ac_rfl
 rw [HE.out]
 generalize Wi.inB pep 0 1073741824 = b0 at *
 generalize Wi.inB learner 0 5 = b1 at *
 obtain ⟨r1,hr1⟩ : ∃ r,r = (b0 && (b1 && (decide (chain.length ≤ 5) && decide (lives.length ≤ 5)))) := ⟨_,rfl⟩
 rw [← hr1]
 have HR1 := hq' hr1
 clear HE hr1
 go_enter Tryz.func53,Tryz.ntmps53
 obtain ⟨w1,hw1,CA,B1⟩ := oneBox (w := w) [.int .i64 pep,.slice ca chain.length cc,.int .i64 learner] 32
 have HW1 := hq' hw1
 clear hw1
 go_upto_region 1 with (fail)
 first | rw [HW1.out] | skip
 clear HW1
 have a0 := CA.out.cell 0
 have a1 := CA.out.cell 1
 have a2 := CA.out.cell 2
 simp only [g0',gs'] at a0 a1 a2
 generalize w.heap.size = pa at CA a0 a1 a2 ⊢
 go_cut [27] (fun t wz => t = .bool (!r1) ∧ wz = w1)
 case first =>
  clear HC HL B1 CA
  go_wp2_with fail
  refine (W0.out _).mono ?_
  rintro e w5 ⟨rfl,hw5⟩
  subst hw5
  cases b0
  ·
   go_wp2
   go_meet
   case rel => exact ⟨by rw [HR1.out]; first | rfl | (simp; omega),rfl⟩
  go_wp2_with fail
  refine (W1.out _).mono ?_
  rintro e w5 ⟨rfl,hw5⟩
  subst hw5
  cases b1
  ·
   go_wp2
   go_meet
   case rel => exact ⟨by rw [HR1.out]; first | rfl | (simp; omega),rfl⟩
  by_cases hc5 : chain.length ≤ 5
  rotate_left
  ·have hc5i : ((5 : Int)) < ((chain.length : Nat) : Int) := by omega
   have hc5d : Hid (decide (chain.length ≤ 5) = false) := decide_eq_false hc5
   rw [hc5d.out] at HR1
   go_wp2
   go_meet
   case rel => exact ⟨by rw [HR1.out]; first | rfl | (simp; omega),rfl⟩
  have hc5i : ¬ (((5 : Int)) < ((chain.length : Nat) : Int)) := by omega
  have hc5d : Hid (decide (chain.length ≤ 5) = true) := decide_eq_true hc5
  rw [hc5d.out] at HR1
  by_cases hl5 : lives.length ≤ 5
  rotate_left
  ·have hl5i : ((5 : Int)) < ((lives.length : Nat) : Int) := by omega
   have hl5d : Hid (decide (lives.length ≤ 5) = false) := decide_eq_false hl5
   rw [hl5d.out] at HR1
   go_wp2
   go_meet
   case rel => exact ⟨by rw [HR1.out]; first | rfl | (simp; omega),rfl⟩
  have hl5i : ¬ (((5 : Int)) < ((lives.length : Nat) : Int)) := by omega
  have hl5d : Hid (decide (lives.length ≤ 5) = true) := decide_eq_true hl5
  rw [hl5d.out] at HR1
  go_wp2
  go_meet
  case rel => exact ⟨by rw [HR1.out]; first | rfl | (simp; omega),rfl⟩
 case rest =>
  obtain ⟨rfl,hwc⟩ := hcut
  have hwc' := hwc.symm
  clear hwc
  subst hwc'
  clear HR1 W0 W1
  cases r1 with
  | false =>
   go_wp2
   go_ret
   exact ⟨rfl,B1.out⟩
  | true =>
   first | simp only [Bool.not_true] | skip
   go_wp2
   go_loop [5] (fun i => ∃ k : Nat,i = .int .i64 k ∧ k ≤ chain.length ∧ Wi.areB 1 5 chain = Wi.areB 1 5 (chain.drop k)) (fun i => chain.length - (intOf i).toNat)
   case atStart => exact ⟨0,rfl,by omega,rfl⟩
   case round =>
    obtain ⟨k,rfl,hk,hq⟩ := hrel
    have HQ := hq' hq
    clear hq
    by_cases hlt : k < chain.length
    ·have hlti : (k : Int) < (chain.length : Int) := by omega
     obtain ⟨x,hx⟩ : ∃ x,chain[k]? = some x := ⟨chain[k],by simp [hlt]⟩
     have HS := hq' (show Wi.areB 1 5 (chain.drop k) = (Wi.inB x 1 5 && Wi.areB 1 5 (chain.drop (k + 1))) from allB_step (p := fun n => Wi.inB n 1 5) hx)
     obtain ⟨g,off,cap',he,hg,p0⟩ := HC.out.get B1.out hx
     injection he with he1 he2 he3
     subst he1 he3
     clear he2 hx
     have WP := hq' (fun W => refin_any x 1 5 W)
     generalize Wi.inB x 1 5 = c at *
     go_wp2_with fail
     refine (WP.out _).mono ?_
     rintro e w5 ⟨rfl,hw5⟩
     subst hw5
     cases c with
     | true =>
      have HX : Hid (Wi.areB 1 5 chain = Wi.areB 1 5 (chain.drop (k + 1))) := by rw [Hid,HQ.out,HS.out]; rfl
      clear HS HQ
      go_wp2
      go_round
      case rel => exact ⟨k + 1,by go_num,by omega,HX.out⟩
      case measure => simp [intOf]; omega
     | false =>
      have HX : Hid (Wi.areB 1 5 chain = false) := by rw [Hid,HQ.out,HS.out]; rfl
      clear HS HQ
      go_wp2
      go_ret
      exact ⟨by rw [HX.out]; rfl,B1.out⟩
    ·obtain rfl : k = chain.length := by omega
     have HX1 : Hid (Wi.areB 1 5 chain = true) := by rw [Hid,HQ.out]; exact allB_end
     clear HQ
     go_wp2
     go_loop [6] (fun i => ∃ k : Nat,i = .int .i64 k ∧ k ≤ lives.length ∧ lives.all Wi.lifeB = (lives.drop k).all Wi.lifeB) (fun i => lives.length - (intOf i).toNat)
     case atStart => exact ⟨0,rfl,by omega,rfl⟩
     case round =>
      obtain ⟨k,rfl,hk,hq⟩ := hrel
      have HQ := hq' hq
      clear hq
      by_cases hlt : k < lives.length
      ·have hlti : (k : Int) < (lives.length : Int) := by omega
       obtain ⟨x,hx⟩ : ∃ x,lives[k]? = some x := ⟨lives[k],by simp [hlt]⟩
       have HS := hq' (allB_step (p := Wi.lifeB) hx)
       obtain ⟨g,off,cap',he,hg,pc⟩ := HL.out.get B1.out hx
       injection he with he1 he2 he3
       subst he1 he3
       obtain ⟨x0,x1⟩ := x
       have p0 : w1.cell? ⟨g,off + k * 2,none⟩ = some (.int .i64 x0) := pc 0 _ rfl
       have p1 : w1.cell? ⟨g,off + k * 2 + 1,none⟩ = some (.int .i64 x1) := pc 1 _ rfl
       clear he2 hx pc
       rw [show Wi.lifeB (x0,x1) = (Wi.inB x0 1 5 && Wi.inB x1 0 1073741824) from rfl] at HS
       have WA := hq' (fun W => refin_any x0 1 5 W)
       have WB := hq' (fun W => refin_any x1 0 1073741824 W)
       generalize Wi.inB x0 1 5 = c at *
       generalize Wi.inB x1 0 1073741824 = d at *
       go_wp2_with fail
       refine (WA.out _).mono ?_
       rintro e w5 ⟨rfl,hw5⟩
       subst hw5
       cases c with
       | false =>
        have HX : Hid (lives.all Wi.lifeB = false) := by rw [Hid,HQ.out,HS.out]; rfl
        clear HS HQ
        go_wp2
        go_ret
        exact ⟨by rw [HX1.out,HX.out]; rfl,B1.out⟩
       | true =>
        go_wp2_with fail
        refine (WB.out _).mono ?_
        rintro e w5 ⟨rfl,hw5⟩
        subst hw5
        cases d with
        | false =>
         have HX : Hid (lives.all Wi.lifeB = false) := by rw [Hid,HQ.out,HS.out]; rfl
         clear HS HQ
         go_wp2
         go_ret
         exact ⟨by rw [HX1.out,HX.out]; rfl,B1.out⟩
        | true =>
         have HX : Hid (lives.all Wi.lifeB = (lives.drop (k + 1)).all Wi.lifeB) := by rw [Hid,HQ.out,HS.out]; rfl
         clear HS HQ
         go_wp2
         go_round
         case rel => exact ⟨k + 1,by go_num,by omega,HX.out⟩
         case measure => simp [intOf]; omega
      ·obtain rfl : k = lives.length := by omega
       have HX : Hid (lives.all Wi.lifeB = true) := by rw [Hid,HQ.out]; exact allB_end
       go_wp2
       go_ret
       exact ⟨by rw [HX1.out,HX.out]; rfl,B1.out⟩
end Go.Proofs.YtbljbdjmgogknaaGreatDoor
