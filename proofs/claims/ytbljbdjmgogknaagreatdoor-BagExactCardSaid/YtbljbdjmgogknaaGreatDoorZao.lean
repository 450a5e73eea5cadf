/-
  Wh / Wi / Wvb / Gn: texts of one proof, one behind the other.
  Conditions: none of its own.
-/
import Derived.Test.YtbljbdjmgogknaaGreatDoorZak
import Derived.Test.YtbljbdjmgogknaaGreatDoorZan
import Derived.Deep.Cut
import Derived.Great.BuildSlice
set_option linter.unusedVariables false
set_option linter.unusedSimpArgs false
set_option maxHeartbeats 12800000
set_option maxRecDepth 20000
namespace Go.Proofs.YtbljbdjmgogknaaGreatDoor
open Go.RowKit
theorem intsN_cl {W : World} {g : Nat} {l : List Int} {t : TypeId} (C : Cl W g (l.map (Value.int .i64)) t) : Ints W (.slice (some ⟨g,0,none⟩) l.length l.length) l := by
 refine ⟨_,_,rfl,fun i hi => ⟨g,0,rfl,C.lt,?_⟩⟩
 rw [Nat.zero_add,Cl.cell C i]
 simp [List.getD,hi]
theorem req1_any (x : Cr.Rec) (w : World) : Calls Tryz.prog 102 #[recV x] w fun e w' => e = .returned (.bool (!decide (x.off = 0))) ∧ Below w.heap.size w w' := by
 obtain ⟨x0,xk,xv,xg⟩ := x
 have HB0 : Hid (Below w.heap.size w (w.alloc (.cells #[.int .i64 x0,.string ⟨xk.toArray⟩,.string ⟨xv.toArray⟩,.bool xg] 67))) := (Below.refl _ _).alloc (Nat.le_refl _) _
 unfold recV
 dsimp only
 by_cases h : x0 = 0
 ·subst h
  go_enter Tryz.func102,Tryz.ntmps102
  go_wp2
  go_ret
  exact ⟨rfl,HB0.out⟩
 ·have hb : (x0 == 0) = false := beq_eq_false_iff_ne.2 h
  go_enter Tryz.func102,Tryz.ntmps102
  go_wp2
  go_ret
  exact ⟨by simp [h],HB0.out⟩
theorem place1_any (x : Int × Int) (w : World) : Calls Tryz.prog 104 #[.agg #[.int .i64 x.1,.int .i64 x.2]] w fun e w' => e = .returned (.bool (!Wi.lifeB x)) ∧ Below w.heap.size w w' := by
 obtain ⟨n,f⟩ := x
 dsimp only
 have CB : Hid (Cl (w.alloc (.cells #[.int .i64 n,.int .i64 f] 90)) w.heap.size [.int .i64 n,.int .i64 f] 90) := Cl.new w _ _
 have HB0 : Hid (Below w.heap.size w (w.alloc (.cells #[.int .i64 n,.int .i64 f] 90))) := (Below.refl _ _).alloc (Nat.le_refl _) _
 have H1 := hq' (fun W => wwithin_any n 1 5 W)
 have H2 := hq' (fun W => wwithin_any f 0 1073741824 W)
 have HE : Hid (Wi.lifeB (n,f) = (Wi.inB n 1 5 && Wi.inB f 0 1073741824)) := rfl
 rw [HE.out]
 generalize Wi.inB n 1 5 = b1 at *
 generalize Wi.inB f 0 1073741824 = b2 at *
 clear HE
 go_enter Tryz.func104,Tryz.ntmps104
 go_upto_region 1 with (fail)
 generalize w.alloc (.cells #[.int .i64 n,.int .i64 f] 90) = w1 at *
 have a0 := CB.out.cell 0
 have a1 := CB.out.cell 1
 simp only [g0',gs'] at a0 a1
 generalize w.heap.size = pa at CB a0 a1 ⊢
 go_wp2_with fail
 refine (H1.out _).mono ?_
 rintro e w2 ⟨rfl,hw⟩
 subst hw
 cases b1 with
 | false =>
  go_wp2
  go_ret
  exact ⟨rfl,HB0.out⟩
 | true =>
  go_wp2_with fail
  refine (H2.out _).mono ?_
  rintro e w3 ⟨rfl,hw⟩
  subst hw
  cases b2 <;>
  ·go_wp2
   go_ret
   exact ⟨rfl,HB0.out⟩
theorem idxreq_any (l : List (Cr.Rec)) (hl : l.length ≤ maxLen) (rv : Value) (w : World) (h : Recs w rv l) :
  Calls Tryz.prog 125 #[rv,.func (.func 102) #[] #[]] w fun e w' => e = .returned (.int .i64 (idxP (fun x : Cr.Rec => !decide (x.off = 0)) 0 l)) ∧ Below w.heap.size w w' := by
 have HZ := hq' h
 obtain ⟨a,cap,rfl⟩ := h.form
 unfold maxLen at hl
 clear h
 go_enter Tryz.func125,Tryz.ntmps125
 go_wp2
 go_loopw [8] (fun i wr => ∃ k : Nat,i = .int .i64 k ∧ k ≤ l.length ∧ idxP (fun x : Cr.Rec => !decide (x.off = 0)) 0 l = idxP (fun x : Cr.Rec => !decide (x.off = 0)) k (l.drop k) ∧ Below w.heap.size w wr) (fun i _ => l.length - (intOf i).toNat)
 case atStart => exact ⟨0,rfl,by omega,rfl,Below.refl _ _⟩
 case round =>
  obtain ⟨k,rfl,hk,hr,hb⟩ := hrel
  have HR2 := hq' hr
  have HB := hq' hb
  clear hr hb
  by_cases hlt : k < l.length
  ·obtain ⟨x,hx⟩ : ∃ x,l[k]? = some x := ⟨l[k],by simp [hlt]⟩
   have HN := hq' (fun w => req1_any x w)
   have HS := hq' (idxP_step (p := fun x : Cr.Rec => !decide (x.off = 0)) hx)
   obtain ⟨g,off,cap',he,hg,p0,p1,p2,p3⟩ := HZ.out.get HB.out hx
   injection he with he1 he2 he3
   subst he1 he3
   obtain ⟨x0,xk,xv,xg⟩ := x
   unfold recV at HN
   dsimp only at *
   clear he2
   cases hb : (!decide (x0 = 0)) with
   | false =>
    have HX : Hid (idxP (fun x : Cr.Rec => !decide (x.off = 0)) 0 l = idxP (fun x : Cr.Rec => !decide (x.off = 0)) (k + 1) (l.drop (k + 1))) := by rw [Hid,HR2.out,HS.out,hb]; rfl
    rw [hb] at HN
    clear HS hb
    go_wp2_with fail
    refine (HN.out _).mono ?_
    rintro e w5 ⟨rfl,hb5⟩
    have B5 := hq' (bt HB.out hb5)
    clear hb5
    go_wp2
    go_roundw
    case rel => exact ⟨k + 1,by go_num,by omega,HX.out,B5.out⟩
    case measure => simp [intOf]; omega
   | true =>
    have HX : Hid (idxP (fun x : Cr.Rec => !decide (x.off = 0)) 0 l = k) := by rw [Hid,HR2.out,HS.out,hb]; rfl
    rw [hb] at HN
    clear HS hb
    go_wp2_with fail
    refine (HN.out _).mono ?_
    rintro e w5 ⟨rfl,hb5⟩
    have B5 := hq' (bt HB.out hb5)
    clear hb5
    go_wp2
    go_ret
    exact ⟨by rw [HX.out]; rfl,B5.out⟩
  ·obtain rfl : k = l.length := by omega
   have HX : Hid (idxP (fun x : Cr.Rec => !decide (x.off = 0)) 0 l = -1) := by rw [Hid,HR2.out,List.drop_length]; rfl
   go_wp2
   go_ret
   exact ⟨by rw [HX.out]; rfl,HB.out⟩
theorem containsreq_any (l : List (Cr.Rec)) (hl : l.length ≤ maxLen) (rv : Value) (w : World) (h : Recs w rv l) :
  Calls Tryz.prog 101 #[rv,.func (.func 102) #[] #[]] w fun e w' => e = .returned (.bool (l.any fun x : Cr.Rec => !decide (x.off = 0))) ∧ Below w.heap.size w w' := by
 have HI := hq' (idxreq_any l hl rv w h)
 have H1 := hq' (idxP_any (fun x : Cr.Rec => !decide (x.off = 0)) l 0)
 clear h
 generalize idxP (fun x : Cr.Rec => !decide (x.off = 0)) 0 l = n at *
 go_enter Tryz.func101,Tryz.ntmps101
 go_wp2_with fail
 refine HI.out.mono ?_
 rintro e w1 ⟨rfl,hb⟩
 have HB := hq' hb
 clear hb
 go_wp2
 go_ret
 refine ⟨?_,HB.out⟩
 rw [← H1.out]
 rfl
theorem Rw.getL {w wr : World} {v : Value} {l : List (Int × Int)} (h : Rw 2 lifeC w v l) (hb : Below w.heap.size w wr) {k : Nat} {x : Int × Int} (hx : l[k]? = some x) :
  ∃ g off cap,v = .slice (some ⟨g,off,none⟩) l.length cap ∧ g < w.heap.size ∧ wr.cell? ⟨g,off + k * 2,none⟩ = some (.int .i64 x.1) ∧ wr.cell? ⟨g,off + k * 2 + 1,none⟩ = some (.int .i64 x.2) := by
 obtain ⟨a,cap,rfl,hc⟩ := h
 obtain ⟨g,off,rfl,hg,hr⟩ := hc k x hx
 exact ⟨g,off,cap,rfl,hg,(hb.cell (p := ⟨g,off + k * 2,none⟩) hg).trans (hr 0 _ rfl),(hb.cell (p := ⟨g,off + k * 2 + 1,none⟩) hg).trans (hr 1 _ rfl)⟩
theorem idxplace_any (l : List (Int × Int)) (hl : l.length ≤ maxLen) (rv : Value) (w : World) (h : Rw 2 lifeC w rv l) :
  Calls Tryz.prog 127 #[rv,.func (.func 104) #[] #[]] w fun e w' => e = .returned (.int .i64 (idxP (fun x : Int × Int => !Wi.lifeB x) 0 l)) ∧ Below w.heap.size w w' := by
 have HZ := hq' h
 obtain ⟨a,cap,rfl⟩ := h.form
 unfold maxLen at hl
 clear h
 go_enter Tryz.func127,Tryz.ntmps127
 go_wp2
 go_loopw [8] (fun i wr => ∃ k : Nat,i = .int .i64 k ∧ k ≤ l.length ∧ idxP (fun x : Int × Int => !Wi.lifeB x) 0 l = idxP (fun x : Int × Int => !Wi.lifeB x) k (l.drop k) ∧ Below w.heap.size w wr) (fun i _ => l.length - (intOf i).toNat)
 case atStart => exact ⟨0,rfl,by omega,rfl,Below.refl _ _⟩
 case round =>
  obtain ⟨k,rfl,hk,hr,hb⟩ := hrel
  have HR2 := hq' hr
  have HB := hq' hb
  clear hr hb
  by_cases hlt : k < l.length
  ·obtain ⟨x,hx⟩ : ∃ x,l[k]? = some x := ⟨l[k],by simp [hlt]⟩
   have HN := hq' (fun w => place1_any x w)
   have HS := hq' (idxP_step (p := fun x : Int × Int => !Wi.lifeB x) hx)
   obtain ⟨g,off,cap',he,hg,p0,p1⟩ := HZ.out.getL HB.out hx
   injection he with he1 he2 he3
   subst he1 he3
   obtain ⟨x0,x1⟩ := x
   dsimp only at *
   clear he2
   cases hb : (!Wi.lifeB (x0,x1)) with
   | false =>
    have HX : Hid (idxP (fun x : Int × Int => !Wi.lifeB x) 0 l = idxP (fun x : Int × Int => !Wi.lifeB x) (k + 1) (l.drop (k + 1))) := by rw [Hid,HR2.out,HS.out,hb]; rfl
    rw [hb] at HN
    clear HS hb
    go_wp2_with fail
    refine (HN.out _).mono ?_
    rintro e w5 ⟨rfl,hb5⟩
    have B5 := hq' (bt HB.out hb5)
    clear hb5
    go_wp2
    go_roundw
    case rel => exact ⟨k + 1,by go_num,by omega,HX.out,B5.out⟩
    case measure => simp [intOf]; omega
   | true =>
    have HX : Hid (idxP (fun x : Int × Int => !Wi.lifeB x) 0 l = k) := by rw [Hid,HR2.out,HS.out,hb]; rfl
    rw [hb] at HN
    clear HS hb
    go_wp2_with fail
    refine (HN.out _).mono ?_
    rintro e w5 ⟨rfl,hb5⟩
    have B5 := hq' (bt HB.out hb5)
    clear hb5
    go_wp2
    go_ret
    exact ⟨by rw [HX.out]; rfl,B5.out⟩
  ·obtain rfl : k = l.length := by omega
   have HX : Hid (idxP (fun x : Int × Int => !Wi.lifeB x) 0 l = -1) := by rw [Hid,HR2.out,List.drop_length]; rfl
   go_wp2
   go_ret
   exact ⟨by rw [HX.out]; rfl,HB.out⟩
theorem containsplace_any (l : List (Int × Int)) (hl : l.length ≤ maxLen) (rv : Value) (w : World) (h : Rw 2 lifeC w rv l) :
  Calls Tryz.prog 105 #[rv,.func (.func 104) #[] #[]] w fun e w' => e = .returned (.bool (l.any fun x : Int × Int => !Wi.lifeB x)) ∧ Below w.heap.size w w' := by
 have HI := hq' (idxplace_any l hl rv w h)
 have H1 := hq' (idxP_any (fun x : Int × Int => !Wi.lifeB x) l 0)
 clear h
 generalize idxP (fun x : Int × Int => !Wi.lifeB x) 0 l = n at *
 go_enter Tryz.func105,Tryz.ntmps105
 go_wp2_with fail
 refine HI.out.mono ?_
 rintro e w1 ⟨rfl,hb⟩
 have HB := hq' hb
 clear hb
 go_wp2
 go_ret
 refine ⟨?_,HB.out⟩
 rw [← H1.out]
 rfl
theorem any_not_all {α : Type} (p : α → Bool) (l : List α) : (l.any fun x => !p x) = !l.all p := by
 induction l with
 | nil => rfl
 | cons x r ih => rw [List.any_cons,List.all_cons,ih]; cases p x <;> simp
theorem isReq_any (q : Wi.Req) (rv : Value) (w : World) (h : Recs w rv q.recs) (ok : ReqOk q) :
  Calls Tryz.prog 72 #[.agg (wreqC q rv).toArray] w fun e w' => e = .returned (.bool (Wi.reqB q)) ∧ Below w.heap.size w w' := by
 obtain ⟨_,hg,hm,hrl,hro⟩ := ok
 have HZ := hq' h
 have HRO := hq' hro
 obtain ⟨ra,rc,hrv⟩ := h.form
 subst hrv
 obtain ⟨q_client,q_n,q_kind,q_part,q_seq,q_off,q_max,q_gen,q_group,q_member,q_recs⟩ := q
 unfold wreqC
 dsimp only at *
 unfold maxLen at hg hm hrl
 have W1 := hq' (fun W => wwithin_any q_client 1 4 W)
 have W2 := hq' (fun W => wwithin_any q_kind 1 8 W)
 have W3 : Hid (∀ (w0 : World) (W : World),Cl W w0.heap.size ([q_n,q_part,q_seq,q_max,q_gen].map (Value.int .i64)) 3 → Calls Tryz.prog 70 #[.int .i64 0,.int .i64 1099511627776,.slice (some ⟨w0.heap.size,0,none⟩) 5 5] W fun e w' => e = .returned (.bool (Wi.areB 0 1099511627776 [q_n,q_part,q_seq,q_max,q_gen])) ∧ Below W.heap.size W w') :=
  fun w0 W hc => are_any [q_n,q_part,q_seq,q_max,q_gen] (by simp [maxLen]) _ 0 1099511627776 W (intsN_cl hc)
 have W4 := hq' (fun W => wwithin_any q_off (-1099511627776) 1099511627776 W)
 have CT := hq' (fun (W : World) (hW : Below w.heap.size w W) => containsreq_any q_recs hrl _ W (HZ.out.kept hW))
 have FT := hq' (fun (W : World) (hW : Below w.heap.size w W) => fits_any q_recs HRO.out hrl _ W (HZ.out.kept hW))
 have HE : Hid (Wi.reqB ⟨q_client,q_n,q_kind,q_part,q_seq,q_off,q_max,q_gen,q_group,q_member,q_recs⟩ = ((Wi.inB q_client 1 4 && (Wi.inB q_kind 1 8 && (Wi.areB 0 1099511627776 [q_n,q_part,q_seq,q_max,q_gen] && Wi.inB q_off (-1099511627776) 1099511627776))) &&
   (q_recs.all (fun x => decide (x.off = 0)) && (decide (q_group.length ≤ 8) && (decide (q_member.length ≤ 8) && (decide (q_recs.length = 0) || Cr.fits q_recs)))))) := by simp [Hid,Wi.reqB,Bool.and_assoc]
 rw [HE.out]
 rw [any_not_all] at CT
 generalize Wi.inB q_client 1 4 = b1 at *
 generalize Wi.inB q_kind 1 8 = b2 at *
 generalize Wi.areB 0 1099511627776 [q_n,q_part,q_seq,q_max,q_gen] = b3 at *
 generalize Wi.inB q_off (-1099511627776) 1099511627776 = b4 at *
 generalize q_recs.all (fun x => decide (x.off = 0)) = b5 at *
 generalize Cr.fits q_recs = b9 at *
 obtain ⟨r1,hr1⟩ : ∃ r,r = (b1 && (b2 && (b3 && b4))) := ⟨_,rfl⟩
 rw [← hr1]
 have HR1 := hq' hr1
 clear HE HRO hr1
 go_enter Tryz.func72,Tryz.ntmps72
 obtain ⟨w1,hw1,CA,B1⟩ := oneBox (w := w) [.int .i64 q_client,.int .i64 q_n,.int .i64 q_kind,.int .i64 q_part,.int .i64 q_seq,.int .i64 q_off,.int .i64 q_max,.int .i64 q_gen,.string ⟨q_group.toArray⟩,.string ⟨q_member.toArray⟩,.slice ra q_recs.length rc] 39
 have HW1 := hq' hw1
 clear hw1
 go_upto_region 1 with (fail)
 first | rw [HW1.out] | skip
 clear HW1
 have a0 := CA.out.cell 0
 have a1 := CA.out.cell 1
 have a2 := CA.out.cell 2
 have a3 := CA.out.cell 3
 have a4 := CA.out.cell 4
 have a5 := CA.out.cell 5
 have a6 := CA.out.cell 6
 have a7 := CA.out.cell 7
 simp only [g0',gs'] at a0 a1 a2 a3 a4 a5 a6 a7
 generalize w.heap.size = pa at CA a0 a1 a2 a3 a4 a5 a6 a7 ⊢
 go_cut [3] (fun t wz => t = .bool r1 ∧ Below w1.heap.size w1 wz)
 case first =>
  go_wp2_with fail
  refine (W1.out _).mono ?_
  rintro e w2 ⟨rfl,hw⟩
  subst hw
  cases b1 with
  | false =>
   go_wp2
   go_meet
   case rel => exact ⟨by rw [HR1.out]; rfl,Below.refl _ _⟩
  | true =>
   go_wp2_with fail
   refine (W2.out _).mono ?_
   rintro e w3 ⟨rfl,hw⟩
   subst hw
   cases b2 with
   | false =>
    go_wp2
    go_meet
    case rel => exact ⟨by rw [HR1.out]; rfl,Below.refl _ _⟩
   | true =>
    go_wp2_with fail
    refine (W3.out w3 _ (Cl.new _ _ _)).mono ?_
    rintro e w4 ⟨rfl,hb4⟩
    have B4 : Hid (Below w3.heap.size w3 w4) := bt ((Below.refl _ _).alloc (Nat.le_refl _) _) hb4
    have C4 := hq' (CA.out.below B4.out)
    have a5 := C4.out.cell 5
    simp only [g0',gs'] at a5
    clear hb4
    cases b3 with
    | false =>
     go_wp2
     go_meet
     case rel => exact ⟨by rw [HR1.out]; rfl,B4.out⟩
    | true =>
     go_wp2_with fail
     refine (W4.out _).mono ?_
     rintro e w5 ⟨rfl,hw⟩
     subst hw
     cases b4 <;>
     ·go_wp2
      go_meet
      case rel => exact ⟨by rw [HR1.out]; rfl,B4.out⟩
 case rest =>
  obtain ⟨rfl,hwz⟩ := hcut
  have B2 := hq' (bt B1.out hwz)
  have C2 := hq' (CA.out.below hwz)
  have a10 := C2.out.cell 10
  simp only [g0',gs'] at a10
  clear hwz CA a0 a1 a2 a3 a4 a5 a6 a7 W1 W2 W3 W4 HR1
  go_wp2_with fail
  refine (CT.out _ B2.out).mono ?_
  rintro e w3 ⟨rfl,hb3⟩
  have B3 := hq' (bt B2.out hb3)
  have C3 := hq' (C2.out.below hb3)
  clear hb3 a10 C2 CT
  have a8 := C3.out.cell 8
  have a9 := C3.out.cell 9
  have a10 := C3.out.cell 10
  simp only [g0',gs'] at a8 a9 a10
  clear C3
  cases r1 with
  | false =>
   go_wp2
   go_ret
   exact ⟨rfl,B3.out⟩
  | true =>
   cases b5 with
   | false =>
    go_wp2
    go_ret
    exact ⟨rfl,B3.out⟩
   | true =>
    by_cases h6 : q_group.length ≤ 8
    ·by_cases h7 : q_member.length ≤ 8
     ·by_cases h8 : q_recs.length = 0
      ·have HE8 : Hid ((true && (true && (decide (q_group.length ≤ 8) && (decide (q_member.length ≤ 8) && (decide (q_recs.length = 0) || b9))))) = true) := by simp [Hid,h6,h7,h8]
       rw [h8] at a10
       go_wp2
       go_ret
       exact ⟨by first | rfl | (rw [HE8.out]; rfl),B3.out⟩
      ·have h8i : ((q_recs.length : Int) == 0) = false := beq_eq_false_iff_ne.2 (by omega)
       have HE8 : Hid ((true && (true && (decide (q_group.length ≤ 8) && (decide (q_member.length ≤ 8) && (decide (q_recs.length = 0) || b9))))) = b9) := by simp [Hid,h6,h7,h8]
       go_wp2_with fail
       refine (FT.out _ B3.out).mono ?_
       rintro e w6 ⟨rfl,hb6⟩
       have B6 := hq' (bt B3.out hb6)
       clear hb6
       go_wp2
       go_ret
       exact ⟨by first | rfl | (rw [HE8.out]; rfl),B6.out⟩
     ·have HE8 : Hid ((true && (true && (decide (q_group.length ≤ 8) && (decide (q_member.length ≤ 8) && (decide (q_recs.length = 0) || b9))))) = false) := by simp [Hid,h7]
      go_wp2
      go_ret
      exact ⟨by first | rfl | (rw [HE8.out]; rfl),B3.out⟩
    ·have HE8 : Hid ((true && (true && (decide (q_group.length ≤ 8) && (decide (q_member.length ≤ 8) && (decide (q_recs.length = 0) || b9))))) = false) := by simp [Hid,h6]
     go_wp2
     go_ret
     exact ⟨by first | rfl | (rw [HE8.out]; rfl),B3.out⟩
theorem isPlace_any (pep learner : Int) (chain : List Int) (lives : List (Int × Int)) (cv lv : Value) (w : World) (hc : Ints w cv chain) (hcl : chain.length ≤ maxLen) (hl : Rw 2 lifeC w lv lives) (hll : lives.length ≤ maxLen) :
  Calls Tryz.prog 74 #[.agg #[.int .i64 pep,cv,.int .i64 learner],lv] w fun e w' => e = .returned (.bool (Wi.inB pep 0 1073741824 && (Wi.inB learner 0 5 && (decide (chain.length ≤ 5) && (Wi.areB 1 5 chain && (decide (lives.length ≤ 5) && lives.all Wi.lifeB)))))) ∧ Below w.heap.size w w' := by
 have HC := hq' hc
 have HL := hq' hl
 obtain ⟨ca,cc,hcv⟩ := hc.form
 subst hcv
 obtain ⟨la,lc,hlv⟩ := hl.form
 subst hlv
 clear hc hl
 have W1 := hq' (fun W => wwithin_any pep 0 1073741824 W)
 have W2 := hq' (fun W => wwithin_any learner 0 5 W)
 have W3 := hq' (fun (W : World) (hW : Below w.heap.size w W) => are_any chain hcl _ 1 5 W (HC.out.kept hW))
 have W5 := hq' (fun (W : World) (hW : Below w.heap.size w W) => containsplace_any lives hll _ W (HL.out.kept hW))
 unfold maxLen at hcl hll
 rw [any_not_all] at W5
 generalize Wi.inB pep 0 1073741824 = b1 at *
 generalize Wi.inB learner 0 5 = b2 at *
 generalize Wi.areB 1 5 chain = b4 at *
 generalize lives.all Wi.lifeB = b6 at *
 go_enter Tryz.func74,Tryz.ntmps74
 obtain ⟨w1,hw1,CA,B1⟩ := oneBox (w := w) [.int .i64 pep,.slice ca chain.length cc,.int .i64 learner] 32
 have HW1 := hq' hw1
 clear hw1
 go_upto_region 1 with (fail)
 first | rw [HW1.out] | skip
 clear HW1
 have HA := hq' (fun (W : World) (hW : Below w1.heap.size w1 W) => (CA.out.below hW))
 have a0 := CA.out.cell 0
 have a1 := CA.out.cell 1
 have a2 := CA.out.cell 2
 simp only [g0',gs'] at a0 a1 a2
 generalize w.heap.size = pa at CA a0 a1 a2 HA ⊢
 go_wp2_with fail
 refine (W1.out _).mono ?_
 rintro e w2 ⟨rfl,hw⟩
 subst hw
 cases b1 with
 | false =>
  go_wp2
  go_ret
  exact ⟨rfl,B1.out⟩
 | true =>
  go_wp2_with fail
  refine (W2.out _).mono ?_
  rintro e w3 ⟨rfl,hw⟩
  subst hw
  cases b2 with
  | false =>
   go_wp2
   go_ret
   exact ⟨rfl,B1.out⟩
  | true =>
   by_cases h3 : chain.length ≤ 5
   ·have HE3 : Hid ((decide (chain.length ≤ 5)) = true) := decide_eq_true h3
    go_wp2_with fail
    refine (W3.out _ B1.out).mono ?_
    rintro e w4 ⟨rfl,hb4⟩
    have B4 := hq' (bt B1.out hb4)
    clear hb4
    cases b4 with
    | false =>
     go_wp2
     go_ret
     exact ⟨by first | rfl | (rw [HE3.out]; rfl),B4.out⟩
    | true =>
     by_cases h5 : lives.length ≤ 5
     ·have HE5 : Hid ((decide (lives.length ≤ 5)) = true) := decide_eq_true h5
      go_wp2_with fail
      refine (W5.out _ B4.out).mono ?_
      rintro e w5 ⟨rfl,hb5⟩
      have B5 := hq' (bt B4.out hb5)
      clear hb5
      go_wp2
      go_ret
      exact ⟨by first | rfl | (rw [HE3.out,HE5.out]; cases b6 <;> rfl),B5.out⟩
     ·have HE5 : Hid ((decide (lives.length ≤ 5)) = false) := decide_eq_false h5
      go_wp2
      go_ret
      exact ⟨by first | rfl | (rw [HE3.out,HE5.out]; rfl),B4.out⟩
   ·have HE3 : Hid ((decide (chain.length ≤ 5)) = false) := decide_eq_false h3
    go_wp2
    go_ret
    exact ⟨by first | rfl | (rw [HE3.out]; rfl),B1.out⟩
theorem slice_one {P : Program} (t e : TypeId) (i : TypeInfo) (ht : P.underlying t = some (.slice e)) (hi : P.info? e = some i) (hsz : i.size = 4) (g off len cap k : Nat) (hk : k < len) (hlc : len ≤ cap) (w : World) :
  (Instr.slice t (.slice (some ⟨g,off,none⟩) len cap) (some (.int .i64 (k : Int))) (some (.int .i64 ((k : Int) + 1))) none).run P w = .ok (.slice (some ⟨g,off + k * 4,none⟩) 1 (cap - k)) w := by
 have he : P.elem t = e := by simp [Program.elem,ht]
 rw [run_slice_lh (P := P) w t (some ⟨g,off,none⟩) len cap (by rw [he]; exact ht) .i64 .i64 (k : Int) ((k : Int) + 1) (by omega) (by omega) (by omega),he]
 have h1 : ((k : Int) + 1).toNat = k + 1 := by omega
 have h2 : ¬ cap = k := by omega
 simp [sizeOf,typeInfo,hi,sliced,Addr.add,hsz,h1,h2]
 try (by_cases h0 : k = 0 <;> simp [h0])
theorem recs_one {w W : World} {g off rc : Nat} {recs : List Cr.Rec} {k : Nat} {x : Cr.Rec} (h : Recs w (.slice (some ⟨g,off,none⟩) recs.length rc) recs) (hx : recs[k]? = some x) (hb : Below w.heap.size w W) : Recs W (.slice (some ⟨g,off + k * 4,none⟩) 1 (rc - k)) [x] := by
 obtain ⟨g',off',cap',he,hg,p0,p1,p2,p3⟩ := h.get hb hx
 injection he with he1
 injection he1 with he1
 injection he1 with he1 he4
 subst he1 he4
 refine ⟨_,_,rfl,fun i y hy => ⟨g,off + k * 4,rfl,Nat.lt_of_lt_of_le hg hb.size,?_⟩⟩
 have hi : i = 0 := by have := (List.getElem?_eq_some_iff.1 hy).1; simp at this; omega
 subst hi
 injection hy with hy
 subst hy
 exact ⟨by simpa using p0,by simpa using p1,by simpa using p2,by simpa using p3⟩
def prevOff (l : List Cr.Rec) : Nat → Int
 | 0 => -1
 | k + 1 => match l[k]? with
  | some x => x.off
  | none => 0
theorem prevOff_succ {l : List Cr.Rec} {k : Nat} {x : Cr.Rec} (h : l[k]? = some x) : prevOff l (k + 1) = x.off := by simp [prevOff,h]
theorem rising_step {l : List Cr.Rec} {k : Nat} {x : Cr.Rec} (hx : l[k]? = some x) (p : Int) : Wi.risingB p (l.drop k) = (Wi.inB x.off 0 1099511627776 && (Cr.fits [x] && (decide (p < x.off) && Wi.risingB x.off (l.drop (k + 1))))) := by
 obtain ⟨hk,rfl⟩ := List.getElem?_eq_some_iff.1 hx
 rw [List.drop_eq_getElem_cons hk]
 rfl
theorem recInfo4 : (Tryz.prog.info? 67).map (fun i => (i.zero,i.size,i.bytes)) = some (some (.agg #[.int .i64 0,.string ⟨#[]⟩,.string ⟨#[]⟩,.bool false]),4,48) := by kernel_rfl
def CapOk (v : Value) : Prop := ∀ a n cap,v = .slice a n cap → n ≤ cap
theorem isResp_any (a : Wi.Resp) (pv rv : Value) (w : World) (hp : Ints w pv a.parts) (h : Recs w rv a.recs) (ok : RespOk a) (hcap : CapOk rv) :
  Calls Tryz.prog 73 #[.agg (wrespC a pv rv).toArray] w fun e w' => e = .returned (.bool (Wi.respB a)) ∧ Below w.heap.size w w' := by
 obtain ⟨_,⟨hpl,_⟩,hrl,hro⟩ := ok
 have HZ := hq' h
 have HP := hq' hp
 have HRO := hq' hro
 obtain ⟨ra,rc,hrv⟩ := h.form
 have hrc := hcap _ _ _ hrv
 subst hrv
 obtain ⟨qa,qc,hpv⟩ := hp.form
 subst hpv
 obtain ⟨i0,hi,hz0,hz1,hz2⟩ := info_parts recInfo4
 obtain ⟨a_client,a_n,a_code,a_off,a_high,a_gen,parts,recs⟩ := a
 unfold wrespC
 dsimp only at *
 have hrm := hrl
 unfold maxLen at hpl hrl
 clear h hp hro hcap
 have W1 := hq' (fun W => wwithin_any a_client 1 4 W)
 have W2 := hq' (fun W => wwithin_any a_code 0 99 W)
 have W3 : Hid (∀ (w0 : World) (W : World),Cl W w0.heap.size ([a_n,a_off,a_high,a_gen].map (Value.int .i64)) 3 → Calls Tryz.prog 70 #[.int .i64 0,.int .i64 1099511627776,.slice (some ⟨w0.heap.size,0,none⟩) 4 4] W fun e w' => e = .returned (.bool (Wi.areB 0 1099511627776 [a_n,a_off,a_high,a_gen])) ∧ Below W.heap.size W w') :=
  fun w0 W hc => are_any [a_n,a_off,a_high,a_gen] (by simp [maxLen]) _ 0 1099511627776 W (intsN_cl hc)
 have W5 := hq' (fun (W : World) (hW : Below w.heap.size w W) => are_any parts hpl _ 0 3 W (HP.out.kept hW))
 have HE : Hid (Wi.respB ⟨a_client,a_n,a_code,a_off,a_high,a_gen,parts,recs⟩ = ((Wi.inB a_client 1 4 && (Wi.inB a_code 0 99 && (Wi.areB 0 1099511627776 [a_n,a_off,a_high,a_gen] && (decide (parts.length ≤ 4) && (Wi.areB 0 3 parts && decide (recs.length ≤ 16)))))) && Wi.risingB (-1) recs)) := by simp [Hid,Wi.respB,Bool.and_assoc]
 rw [HE.out]
 generalize Wi.inB a_client 1 4 = b1 at *
 generalize Wi.inB a_code 0 99 = b2 at *
 generalize Wi.areB 0 1099511627776 [a_n,a_off,a_high,a_gen] = b3 at *
 generalize Wi.areB 0 3 parts = b5 at *
 obtain ⟨r1,hr1⟩ : ∃ r,r = (b1 && (b2 && (b3 && (decide (parts.length ≤ 4) && (b5 && decide (recs.length ≤ 16)))))) := ⟨_,rfl⟩
 rw [← hr1]
 have HR1 := hq' hr1
 clear HE hr1
 go_enter Tryz.func73,Tryz.ntmps73
 obtain ⟨w1,hw1,CA,B1⟩ := oneBox (w := w) [.int .i64 a_client,.int .i64 a_n,.int .i64 a_code,.int .i64 a_off,.int .i64 a_high,.int .i64 a_gen,.slice qa parts.length qc,.slice ra recs.length rc] 42
 have HW1 := hq' hw1
 clear hw1
 go_upto_region 1 with (fail)
 first | rw [HW1.out] | skip
 clear HW1
 have a0 := CA.out.cell 0
 have a1 := CA.out.cell 1
 have a2 := CA.out.cell 2
 have a3 := CA.out.cell 3
 have a4 := CA.out.cell 4
 have a5 := CA.out.cell 5
 simp only [g0',gs'] at a0 a1 a2 a3 a4 a5
 generalize w.heap.size = pa at CA a0 a1 a2 a3 a4 a5 ⊢
 go_cut [45] (fun t wz => t = .bool (!r1) ∧ Below w1.heap.size w1 wz)
 case first =>
  go_wp2_with fail
  refine (W1.out _).mono ?_
  rintro e w2 ⟨rfl,hw⟩
  subst hw
  cases b1 with
  | false =>
   go_wp2
   go_meet
   case rel => exact ⟨by rw [HR1.out]; first | rfl | (simp; omega),Below.refl _ _⟩
  | true =>
   go_wp2_with fail
   refine (W2.out _).mono ?_
   rintro e w3 ⟨rfl,hw⟩
   subst hw
   cases b2 with
   | false =>
    go_wp2
    go_meet
    case rel => exact ⟨by rw [HR1.out]; first | rfl | (simp; omega),Below.refl _ _⟩
   | true =>
    go_wp2_with fail
    refine (W3.out w3 _ (Cl.new _ _ _)).mono ?_
    rintro e w4 ⟨rfl,hb4⟩
    have B4 : Hid (Below w3.heap.size w3 w4) := bt ((Below.refl _ _).alloc (Nat.le_refl _) _) hb4
    have C4 := hq' (CA.out.below B4.out)
    have a6 := C4.out.cell 6
    have a7 := C4.out.cell 7
    simp only [g0',gs'] at a6 a7
    clear hb4
    cases b3 with
    | false =>
     go_wp2
     go_meet
     case rel => exact ⟨by rw [HR1.out]; first | rfl | (simp; omega),B4.out⟩
    | true =>
     by_cases h4 : parts.length ≤ 4
     ·have HE4 : Hid (decide (parts.length ≤ 4) = true) := decide_eq_true h4
      rw [HE4.out] at HR1
      go_wp2_with fail
      refine (W5.out _ (bt B1.out B4.out)).mono ?_
      rintro e w5 ⟨rfl,hb5⟩
      have B5 := hq' (bt B4.out hb5)
      have C5 := hq' (C4.out.below hb5)
      clear hb5 a6 a7
      have a7 := C5.out.cell 7
      simp only [g0',gs'] at a7
      cases b5 with
      | false =>
       go_wp2
       go_meet
       case rel => exact ⟨by rw [HR1.out]; first | rfl | (simp; omega),B5.out⟩
      | true =>
       by_cases h6 : recs.length ≤ 16
       ·have HE6 : Hid (decide (recs.length ≤ 16) = true) := decide_eq_true h6
        rw [HE6.out] at HR1
        go_wp2
        go_meet
        case rel => exact ⟨by rw [HR1.out]; first | rfl | (simp; omega),B5.out⟩
       ·have HE6 : Hid (decide (recs.length ≤ 16) = false) := decide_eq_false h6
        rw [HE6.out] at HR1
        go_wp2
        go_meet
        case rel => exact ⟨by rw [HR1.out]; first | rfl | (simp; omega),B5.out⟩
     ·have HE4 : Hid (decide (parts.length ≤ 4) = false) := decide_eq_false h4
      rw [HE4.out] at HR1
      go_wp2
      go_meet
      case rel => exact ⟨by rw [HR1.out]; first | rfl | (simp; omega),B4.out⟩
 case rest =>
  obtain ⟨rfl,hwz⟩ := hcut
  have B2 := hq' (bt B1.out hwz)
  have C2 := hq' (CA.out.below hwz)
  have a7 := C2.out.cell 7
  simp only [g0',gs'] at a7
  clear hwz CA a0 a1 a2 a3 a4 a5 W1 W2 W3 W5 HR1
  cases r1 with
  | false =>
   go_wp2
   go_ret
   exact ⟨rfl,B2.out⟩
  | true =>
   have HA : Hid (∀ W,Below wc.heap.size wc W → Cl W pa [.int .i64 a_client,.int .i64 a_n,.int .i64 a_code,.int .i64 a_off,.int .i64 a_high,.int .i64 a_gen,.slice qa parts.length qc,.slice ra recs.length rc] 42) := fun W hW => C2.out.below hW
   go_wp2
   go_loopw [49] (fun ti wr => ∃ k : Nat,ti = .int .i64 k ∧ k ≤ recs.length ∧ Wi.risingB (-1) recs = Wi.risingB (prevOff recs k) (recs.drop k) ∧ Below wc.heap.size wc wr) (fun ti _ => recs.length - (intOf ti).toNat)
   case atStart => exact ⟨0,rfl,by omega,rfl,Below.refl _ _⟩
   case round =>
    obtain ⟨k,rfl,hk,hr,hb⟩ := hrel
    have HR := hq' hr
    have BRC := hq' hb
    have BR := hq' (bt B2.out hb)
    have HBW := hq' (fun (W : World) (hW : Below w.heap.size w W) => hW)
    clear hr hb a7
    by_cases hlt : k < recs.length
    ·obtain ⟨x,hx⟩ : ∃ x,recs[k]? = some x := ⟨recs[k],by simp [hlt]⟩
     have HS := hq' (rising_step hx (prevOff recs k))
     have HPO : Hid (prevOff recs (k + 1) = x.off) := prevOff_succ hx
     obtain ⟨g,off,cap',he,hg,p0,p1,p2,p3⟩ := HZ.out.get BR.out hx
     injection he with he1 he2 he3
     subst he1 he3
     have HFT := hq' (fun (W : World) (hW : Below w.heap.size w W) => fits_any [x] (fun y hy => by rw [List.mem_singleton.1 hy]; exact HRO.out x (List.mem_of_getElem? hx)) (by simp [maxLen]) (.slice (some ⟨g,off + k * 4,none⟩) 1 (rc - k)) W (recs_one HZ.out hx hW))
     have hprev : Hid (0 < k → ∃ y,recs[k - 1]? = some y ∧ prevOff recs k = y.off ∧ wr.cell? ⟨g,off + (k - 1) * 4,none⟩ = some (.int .i64 y.off)) := fun h0 => by
      obtain ⟨y,hy⟩ : ∃ y,recs[k - 1]? = some y := ⟨recs[k - 1]'(by omega),List.getElem?_eq_getElem _⟩
      obtain ⟨g',off',cap'',he',_,q0,_⟩ := HZ.out.get BR.out hy
      injection he' with he1
      injection he1 with he1
      injection he1 with he1 he4
      subst he1 he4
      have hpo : prevOff recs k = y.off := by
       have := prevOff_succ hy
       rwa [show k - 1 + 1 = k by omega] at this
      exact ⟨y,hy,hpo,q0⟩
     obtain ⟨x0,xk,xv,xg⟩ := x
     dsimp only at *
     have W6 := hq' (fun W => wwithin_any x0 0 1099511627776 W)
     have hcut0 : Hid (Wi.inB x0 0 1099511627776 = true → decide ((-1 : Int) < x0) = true) := fun h => by have := Wi.inB_iff.1 h; exact decide_eq_true (by omega)
     generalize Wi.inB x0 0 1099511627776 = c1 at *
     generalize Cr.fits [⟨x0,xk,xv,xg⟩] = c2 at *
     have hsl := fun W => slice_one (P := Tryz.prog) 34 67 i0 Tryz.underlying34 hi hz1 g off recs.length rc k hlt hrc W
     clear he2
     have CX : Hid (Cl (wr.alloc (.cells #[.int .i64 x0,.string ⟨xk.toArray⟩,.string ⟨xv.toArray⟩,.bool xg] 67)) wr.heap.size [.int .i64 x0,.string ⟨xk.toArray⟩,.string ⟨xv.toArray⟩,.bool xg] 67) := Cl.new wr _ _
     have BX : Hid (Below wr.heap.size wr (wr.alloc (.cells #[.int .i64 x0,.string ⟨xk.toArray⟩,.string ⟨xv.toArray⟩,.bool xg] 67))) := (Below.refl _ _).alloc (Nat.le_refl _) _
     go_upto_region 6 with (fail)
     generalize wr.alloc (.cells #[.int .i64 x0,.string ⟨xk.toArray⟩,.string ⟨xv.toArray⟩,.bool xg] 67) = wl at *
     have BL : Hid (Below w.heap.size w wl) := bt BR.out BX.out
     have BLC : Hid (Below wc.heap.size wc wl) := bt BRC.out BX.out
     have BLR : Hid (Below wr.heap.size wr wl) := BX.out
     have hgl : g < wr.heap.size := Nat.lt_of_lt_of_le hg BR.out.size
     have mx := fun y : BelowOf wl => y.cell (show wl.cell? ⟨wr.heap.size,0,none⟩ = some (.int .i64 x0) from CX.out.cell 0)
     have ma := fun y : BelowOf wl => y.cell (show wl.cell? ⟨pa,7,none⟩ = some (.slice (some ⟨g,off,none⟩) recs.length rc) from (HA.out _ BLC.out).cell 7)
     have M6 := hq' (fun y : BelowOf wl => (W6.out y.1).mono (fun e w' (h : _ ∧ _) => (⟨h.1,y,h.2⟩ : _ ∧ ∃ c : BelowOf wl,w' = c.1)))
     have MF := hq' (below_class (w := wl) (fun W hW => HFT.out W (bt BL.out hW)))
     generalize wr.heap.size = px at *
     clear CX BX p0 p1 p2 p3
     cases c1 with
     | false =>
      have HX : Hid (Wi.risingB (-1) recs = false) := by rw [Hid,HR.out,HS.out]; rfl
      clear HS HR HPO
      refine wp_region_below (by kernel_rfl) (by kernel_rfl) ?_
      repeat (go_big_quiet_step (fail))
      go_big_quiet_step ((exact M6.out _))
      repeat (go_big_quiet_step (fail))
      refine wpQuiet_nil ?_
      intro w8 h8
      obtain ⟨⟨w8,hb8⟩,rfl⟩ := h8
      have B8 := hq' (bt BL.out hb8)
      have BC8 := hq' (bt BLC.out hb8)
      clear hb8
      go_wp2
      go_ret
      exact ⟨by rw [HX.out]; rfl,B8.out⟩
     | true =>
      cases c2 with
      | false =>
       have HX : Hid (Wi.risingB (-1) recs = false) := by rw [Hid,HR.out,HS.out]; rfl
       clear HS HR HPO
       refine wp_region_below (by kernel_rfl) (by kernel_rfl) ?_
       repeat (go_big_quiet_step (fail))
       go_big_quiet_step ((exact M6.out _))
       repeat (go_big_quiet_step (fail))
       go_big_quiet_step ((exact MF.out _))
       repeat (go_big_quiet_step (fail))
       refine wpQuiet_nil ?_
       intro w8 h8
       obtain ⟨⟨w8,hb8⟩,rfl⟩ := h8
       have B8 := hq' (bt BL.out hb8)
       have BC8 := hq' (bt BLC.out hb8)
       clear hb8
       go_wp2
       go_ret
       exact ⟨by rw [HX.out]; rfl,B8.out⟩
      | true =>
       by_cases h0 : k = 0
       ·subst h0
        have HX : Hid (Wi.risingB (-1) recs = Wi.risingB (prevOff recs (0 + 1)) (recs.drop (0 + 1))) := by
         rw [Hid,HR.out,HS.out,HPO.out,show prevOff recs 0 = -1 from rfl,hcut0.out rfl]
         rfl
        clear HS HR HPO
        refine wp_region_below (by kernel_rfl) (by kernel_rfl) ?_
        repeat (go_big_quiet_step (fail))
        go_big_quiet_step ((exact M6.out _))
        repeat (go_big_quiet_step (fail))
        go_big_quiet_step ((exact MF.out _))
        repeat (go_big_quiet_step (fail))
        refine wpQuiet_nil ?_
        intro w8 h8
        obtain ⟨⟨w8,hb8⟩,rfl⟩ := h8
        have B8 := hq' (bt BL.out hb8)
        have BC8 := hq' (bt BLC.out hb8)
        clear hb8
        go_wp2
        go_roundw
        case rel => exact ⟨0 + 1,by go_num,by omega,HX.out,BC8.out⟩
        case measure => simp [intOf]; omega
       ·have h0i : (0 : Int) < (k : Int) := by omega
        obtain ⟨y,hy,hpo,hyc⟩ := hprev.out (by omega)
        have mp := fun z : BelowOf wl => z.cell (show wl.cell? ⟨g,off + (k - 1) * 4,none⟩ = some (.int .i64 y.off) from (BLR.out.cell (p := ⟨g,off + (k - 1) * 4,none⟩) hgl).trans hyc)
        have hk1 : ((k : Int) - 1) = ((k - 1 : Nat) : Int) := by omega
        rw [hpo] at HS HR
        have h0n : 0 < k := by omega
        have hk0 : (0 : Int) ≤ (k : Int) - 1 := by omega
        have hkl : (k : Int) - 1 < (recs.length : Int) := by omega
        have hkt : ((k : Int) - 1).toNat = k - 1 := by omega
        clear hyc hprev hy hpo
        generalize y.off = y0 at *
        by_cases hyx : y0 < x0
        ·have HX : Hid (Wi.risingB (-1) recs = Wi.risingB (prevOff recs (k + 1)) (recs.drop (k + 1))) := by
          rw [Hid,HR.out,HS.out,HPO.out,decide_eq_true hyx]
          rfl
         have hyx2 : ¬ (x0 ≤ y0) := by omega
         clear HS HR HPO
         refine wp_region_below (by kernel_rfl) (by kernel_rfl) ?_
         repeat (go_big_quiet_step (fail))
         go_big_quiet_step ((exact M6.out _))
         repeat (go_big_quiet_step (fail))
         go_big_quiet_step ((exact MF.out _))
         repeat (go_big_quiet_step (fail))
         refine wpQuiet_nil ?_
         intro w8 h8
         obtain ⟨⟨w8,hb8⟩,rfl⟩ := h8
         have B8 := hq' (bt BL.out hb8)
         have BC8 := hq' (bt BLC.out hb8)
         clear hb8
         go_wp2
         go_roundw
         case rel => exact ⟨k + 1,by go_num,by omega,HX.out,BC8.out⟩
         case measure => simp [intOf]; omega
        ·have HX : Hid (Wi.risingB (-1) recs = false) := by
          rw [Hid,HR.out,HS.out,decide_eq_false hyx]
          rfl
         have hyx2 : x0 ≤ y0 := by omega
         clear HS HR HPO
         refine wp_region_below (by kernel_rfl) (by kernel_rfl) ?_
         repeat (go_big_quiet_step (fail))
         go_big_quiet_step ((exact M6.out _))
         repeat (go_big_quiet_step (fail))
         go_big_quiet_step ((exact MF.out _))
         repeat (go_big_quiet_step (fail))
         refine wpQuiet_nil ?_
         intro w8 h8
         obtain ⟨⟨w8,hb8⟩,rfl⟩ := h8
         have B8 := hq' (bt BL.out hb8)
         have BC8 := hq' (bt BLC.out hb8)
         clear hb8
         go_wp2
         go_ret
         exact ⟨by rw [HX.out]; rfl,B8.out⟩
    ·obtain rfl : k = recs.length := by omega
     have HX : Hid (Wi.risingB (-1) recs = true) := by rw [Hid,HR.out,List.drop_length]; rfl
     go_wp2
     go_ret
     exact ⟨by rw [HX.out]; rfl,BR.out⟩
open Go.ChangeShapes Go.WideShapes Go.ChangeAt Go.RowKit
set_option maxRecDepth 100000 in
theorem open_respK {W : World} {b0 fuel : Nat} {H : Type} {enc : TypeId × Value → H} {spare : Nat → Bool} {held : Bool} {cs : List Value} {x : DataW H × List MemPlace}
  (h : DataW.trod enc Tryz.prog W b0 spare held fuel 42 cs = some x) : ∃ (a : Wi.Resp) (pv rv : Value),cs = wrespC a pv rv ∧ Ints W pv a.parts ∧ Recs W rv a.recs ∧ RespOk a ∧ CapOk rv := by
 obtain ⟨xs,n,_,_,hcl,hxl,hfd⟩ := DataW.trod_struct Tryz.underlying42 h
 rw [cResp] at hcl
 match xs,hxl,cs,hcl with
 | [x0,x1,x2,x3,x4,x5,x6,x7],_,[c0,c1,c2,c3,c4,c5,c6,c7],_ =>
  have g0 := hfd 0 _ rfl
  have g1 := hfd 1 _ rfl
  have g2 := hfd 2 _ rfl
  have g3 := hfd 3 _ rfl
  have g4 := hfd 4 _ rfl
  have g5 := hfd 5 _ rfl
  have g6 := hfd 6 _ rfl
  have g7 := hfd 7 _ rfl
  simp [cInt,cStr,cRecs,cErr,cInts,cLives,cSlots,cTab,cPart,cBat,cReq,cResp] at g0 g1 g2 g3 g4 g5 g6 g7
  obtain ⟨n0,e0,_,w0⟩ := DataW.trod_int Tryz.underlying3 g0
  obtain ⟨n1,e1,_,w1⟩ := DataW.trod_int Tryz.underlying3 g1
  obtain ⟨n2,e2,_,w2⟩ := DataW.trod_int Tryz.underlying40 g2
  obtain ⟨n3,e3,_,w3⟩ := DataW.trod_int Tryz.underlying3 g3
  obtain ⟨n4,e4,_,w4⟩ := DataW.trod_int Tryz.underlying3 g4
  obtain ⟨n5,e5,_,w5⟩ := DataW.trod_int Tryz.underlying3 g5
  obtain ⟨v6,l6,e6,R6,m6,o6⟩ := open_intsT g6
  obtain ⟨v7,l7,e7,R7,m7,o7,hcp⟩ := open_recsT g7
  simp [wreqC,wrespC] at e0 e1 e2 e3 e4 e5 e6 e7
  subst e0 e1 e2 e3 e4 e5 e6 e7
  exact ⟨⟨n0,n1,n2,n3,n4,n5,l6,l7⟩,_,_,rfl,R6,R7,⟨⟨inR_wf w0,inR_wf w1,inR_wf w2,inR_wf w3,inR_wf w4,inR_wf w5⟩,⟨m6,o6⟩,m7,o7⟩,fun a n cap e => by
   obtain ⟨a',c',e',hle,_⟩ := hcp
   rw [e'] at e
   injection e with f1 f2 f3
   omega⟩
set_option maxRecDepth 100000 in
theorem open_msgK {W : World} {b0 fuel : Nat} {H : Type} {enc : TypeId × Value → H} {spare : Nat → Bool} {held : Bool} {cs : List Value} {x : DataW H × List MemPlace}
  (h : DataW.trod enc Tryz.prog W b0 spare held fuel 44 cs = some x) : ∃ (m : Wi.Msg) (v : MsgV),cs = msgC m v ∧ MsgAt W m v ∧ MsgOk m ∧ CapOk v.arecs := by
 obtain ⟨xs,n,_,_,hcl,hxl,hfd⟩ := DataW.trod_struct Tryz.underlying44 h
 rw [cMsg] at hcl
 obtain ⟨c0,t0,rfl,k0⟩ := list_cons (hcl)
 obtain ⟨c1,t1,rfl,k1⟩ := list_cons (k0)
 obtain ⟨c2,t2,rfl,k2⟩ := list_cons (k1)
 obtain ⟨c3,t3,rfl,k3⟩ := list_cons (k2)
 obtain ⟨c4,t4,rfl,k4⟩ := list_cons (k3)
 obtain ⟨c5,t5,rfl,k5⟩ := list_cons (k4)
 obtain ⟨c6,t6,rfl,k6⟩ := list_cons (k5)
 obtain ⟨c7,t7,rfl,k7⟩ := list_cons (k6)
 obtain ⟨c8,t8,rfl,k8⟩ := list_cons (k7)
 obtain ⟨c9,t9,rfl,k9⟩ := list_cons (k8)
 obtain ⟨c10,t10,rfl,k10⟩ := list_cons (k9)
 obtain ⟨c11,t11,rfl,k11⟩ := list_cons (k10)
 obtain ⟨c12,t12,rfl,k12⟩ := list_cons (k11)
 obtain ⟨c13,t13,rfl,k13⟩ := list_cons (k12)
 obtain ⟨c14,t14,rfl,k14⟩ := list_cons (k13)
 obtain ⟨c15,t15,rfl,k15⟩ := list_cons (k14)
 obtain ⟨c16,t16,rfl,k16⟩ := list_cons (k15)
 obtain ⟨c17,t17,rfl,k17⟩ := list_cons (k16)
 obtain ⟨c18,t18,rfl,k18⟩ := list_cons (k17)
 obtain ⟨c19,t19,rfl,k19⟩ := list_cons (k18)
 obtain ⟨c20,t20,rfl,k20⟩ := list_cons (k19)
 obtain ⟨c21,t21,rfl,k21⟩ := list_cons (k20)
 obtain ⟨c22,t22,rfl,k22⟩ := list_cons (k21)
 obtain ⟨c23,t23,rfl,k23⟩ := list_cons (k22)
 obtain ⟨c24,t24,rfl,k24⟩ := list_cons (k23)
 obtain ⟨c25,t25,rfl,k25⟩ := list_cons (k24)
 obtain ⟨c26,t26,rfl,k26⟩ := list_cons (k25)
 obtain ⟨c27,t27,rfl,k27⟩ := list_cons (k26)
 obtain ⟨c28,t28,rfl,k28⟩ := list_cons (k27)
 obtain ⟨c29,t29,rfl,k29⟩ := list_cons (k28)
 obtain ⟨c30,t30,rfl,k30⟩ := list_cons (k29)
 obtain ⟨c31,t31,rfl,k31⟩ := list_cons (k30)
 obtain ⟨c32,t32,rfl,k32⟩ := list_cons (k31)
 obtain ⟨c33,t33,rfl,k33⟩ := list_cons (k32)
 obtain ⟨c34,t34,rfl,k34⟩ := list_cons (k33)
 obtain ⟨c35,t35,rfl,k35⟩ := list_cons (k34)
 obtain ⟨c36,t36,rfl,k36⟩ := list_cons (k35)
 obtain ⟨c37,t37,rfl,k37⟩ := list_cons (k36)
 obtain rfl := List.eq_nil_of_length_eq_zero k37
 match xs,hxl with
 | [x0,x1,x2,x3,x4,x5,x6,x7,x8,x9,x10,x11,x12,x13],_ =>
  have g0 := hfd 0 _ rfl
  have g1 := hfd 1 _ rfl
  have g2 := hfd 2 _ rfl
  have g3 := hfd 3 _ rfl
  have g4 := hfd 4 _ rfl
  have g5 := hfd 5 _ rfl
  have g6 := hfd 6 _ rfl
  have g7 := hfd 7 _ rfl
  have g8 := hfd 8 _ rfl
  have g9 := hfd 9 _ rfl
  have g10 := hfd 10 _ rfl
  have g11 := hfd 11 _ rfl
  have g12 := hfd 12 _ rfl
  have g13 := hfd 13 _ rfl
  simp [cInt,cStr,cRecs,cErr,cInts,cLives,cSlots,cTab,cPart,cBat,cReq,cResp] at g0 g1 g2 g3 g4 g5 g6 g7 g8 g9 g10 g11 g12 g13
  obtain ⟨n0,e0,_,w0⟩ := DataW.trod_int Tryz.underlying3 g0
  obtain ⟨n1,e1,_,w1⟩ := DataW.trod_int Tryz.underlying3 g1
  obtain ⟨n2,e2,_,w2⟩ := DataW.trod_int Tryz.underlying3 g2
  obtain ⟨n3,e3,_,w3⟩ := DataW.trod_int Tryz.underlying3 g3
  obtain ⟨n4,e4,_,w4⟩ := DataW.trod_int Tryz.underlying3 g4
  obtain ⟨n5,e5,_,w5⟩ := DataW.trod_int Tryz.underlying3 g5
  obtain ⟨n6,e6,_,w6⟩ := DataW.trod_int Tryz.underlying3 g6
  obtain ⟨n7,e7,_,w7⟩ := DataW.trod_int Tryz.underlying3 g7
  obtain ⟨pa8,pc8,pl8,pv8,e8,wa8,R8,m8,o8,wb8⟩ := open_partT g8
  obtain ⟨v9,l9,e9,R9,m9,o9⟩ := open_livesT g9
  obtain ⟨b10,v10,e10,R10,o10⟩ := open_batT g10
  obtain ⟨v11,l11,e11,R11,m11,o11⟩ := open_tableT g11
  obtain ⟨q12,v12,e12,R12,o12⟩ := open_reqT g12
  obtain ⟨q13,v13,u13,e13,P13,R13,o13,K13⟩ := open_respK g13
  simp [wreqC,wrespC] at e0 e1 e2 e3 e4 e5 e6 e7 e8 e9 e10 e11 e12 e13
  obtain ⟨f8_0,f8_1,f8_2⟩ := e8
  obtain ⟨f10_0,f10_1,f10_2,f10_3,f10_4,f10_5⟩ := e10
  obtain ⟨f12_0,f12_1,f12_2,f12_3,f12_4,f12_5,f12_6,f12_7,f12_8,f12_9,f12_10⟩ := e12
  obtain ⟨f13_0,f13_1,f13_2,f13_3,f13_4,f13_5,f13_6,f13_7⟩ := e13
  subst e0 e1 e2 e3 e4 e5 e6 e7 f8_0 f8_1 f8_2 e9 f10_0 f10_1 f10_2 f10_3 f10_4 f10_5 e11 f12_0 f12_1 f12_2 f12_3 f12_4 f12_5 f12_6 f12_7 f12_8 f12_9 f12_10 f13_0 f13_1 f13_2 f13_3 f13_4 f13_5 f13_6 f13_7
  refine ⟨⟨n0,n1,n2,n3,n4,n5,n6,n7,pa8,pc8,pl8,l9,b10,l11,q12,q13⟩,⟨_,_,_,_,_,_,_⟩,rfl,⟨R8,R9,R10,R11,R12,P13,R13⟩,?_,K13⟩
  obtain ⟨⟨a0,a1,a2,a3,a4,a5,a6,a7⟩,a8,a9,a10,a11⟩ := o12
  obtain ⟨⟨d0,d1,d2,d3,d4,d5⟩,d6,d7,d8⟩ := o13
  refine ⟨?_,⟨m8,o8⟩,⟨m9,o9⟩,o10,⟨m11,o11⟩,⟨a8,a9,a10,a11⟩,d6,⟨d7,d8⟩⟩
  simp only [List.mem_cons,List.not_mem_nil,or_false,forall_eq_or_imp,forall_eq]
  exact ⟨inR_wf w0,inR_wf w1,inR_wf w2,inR_wf w3,inR_wf w4,inR_wf w5,inR_wf w6,inR_wf w7,wa8,wb8,a0,a1,a2,a3,a4,a5,a6,a7,d0,d1,d2,d3,d4,d5⟩
open Go.ChangeShapes Go.WideShapes Go.ChangeAt Go.RowKit
structure MX where
 m : Wi.Msg
 v : MsgV
def mxC (x : MX) : List Value := msgC x.m x.v
theorem mxC_len (x : MX) : (mxC x).length = 38 := rfl
def MxOk (x : MX) : Prop := MsgOk x.m ∧ CapOk x.v.arecs
def mxZ : MX := ⟨Wi.zMsg,zeroV⟩
theorem msg_one {w : World} {m : Wi.Msg} {v : MsgV} (h : MsgAt w m v) : ∀ u ∈ msgC m v,u.oneCell' = true := by
 obtain ⟨a0,c0,h0⟩ := h.chain.form
 obtain ⟨a1,c1,h1⟩ := h.lives.form
 obtain ⟨a2,c2,h2⟩ := h.brecs.form
 obtain ⟨a3,c3,h3⟩ := h.table.form
 obtain ⟨a4,c4,h4⟩ := h.qrecs.form
 obtain ⟨a5,c5,h5⟩ := h.parts.form
 obtain ⟨a6,c6,h6⟩ := h.arecs.form
 obtain ⟨v0,v1,v2,v3,v4,v5,v6⟩ := v
 dsimp only at h0 h1 h2 h3 h4 h5 h6
 subst h0 h1 h2 h3 h4 h5 h6
 simp [msgC,wreqC,wrespC,Value.oneCell']
theorem mx_cells (x : MX) (w : World) (h : MsgAt w x.m x.v) : ∃ cs : List Value,mxC x = cs ∧ msgV x.m x.v = .agg cs.toArray ∧ cs[2]? = some (.int .i64 x.m.to) ∧ Hid (cs.length = 38) ∧
  Hid ((Tryz.prog.info? 44).map (·.size) = some cs.length) ∧ Hid ((Tryz.prog.info? 44).map (·.size) = some (cs.toArray : Array Value).size) ∧ Hid ((cs.toArray : Array Value).all (·.oneCell') = true) ∧ Hid (∀ u ∈ cs,u.oneCell' = true) :=
 ⟨msgC x.m x.v,rfl,rfl,rfl,rfl,by rw [Hid,show (msgC x.m x.v).length = 38 from rfl]; kernel_rfl,by rw [Hid,List.size_toArray,show (msgC x.m x.v).length = 38 from rfl]; kernel_rfl,by have := msg_one h; simpa [Hid] using this,msg_one h⟩
theorem fill_one (n : Nat) (hn : 0 < n) (base : Array Value) (cs : List Value) (hb : base.size = n) (hc : cs.length = n) : Instr.fill (fun i => some (i * n,n)) base [(0,.agg cs.toArray)] = some cs.toArray := by
 have hcl : (Value.agg cs.toArray).cells.size = n := by simp [Value.cells,hc]
 obtain ⟨r,hr,hs,hk⟩ := Great.fill_dense hn [.agg cs.toArray] 0 base (by simpa using hcl) (by simp [hb])
 have e : r = cs.toArray := by
  apply Array.ext_getElem?
  intro k
  rw [hk k]
  by_cases h : k < n
  ·rw [if_pos ⟨by omega,by simpa using h⟩,Nat.div_eq_of_lt h,Nat.mod_eq_of_lt h]
   simp [Value.cells]
  ·rw [if_neg (by simpa using h)]
   rw [Array.getElem?_eq_none (by omega),Array.getElem?_eq_none (by simp; omega)]
 rw [e] at hr
 simpa using hr
theorem wpList_build_wide {P : Program} {ops : Array Oper} {rest : List Oper} {o : Oper} {a : Act} {w : World} {Q : Exit → Act → World → Prop} (hg : o.guard = none) (t e : TypeId) (x : Operand) (ho : o.op = .buildSlice t 1 #[(0,x)])
  (cs : List Value) (hx : a.eval x = .agg cs.toArray) (ie : TypeInfo) (z : Value) (hu : P.underlying t = some (.slice e)) (hie : P.info? e = some ie) (hz : ie.zero = some z) (hsz : ie.size = cs.length) (h0 : 0 < cs.length) (h1 : cs.length ≤ 1000)
  (h : wpList P ops Q rest (a.put o.dst (.slice (some ⟨w.heap.size,0,none⟩) 1 1)) (w.alloc (.cells cs.toArray e))) : wpList P ops Q (o::rest) a w := by
 refine wpList_buildSlice hg t e 1 _ ho cs.toArray ie z hu hie hz (by rw [hsz]; omega) (by rw [hsz]; omega) ?_ h
 rw [hsz]
 simp only [List.map_toArray,List.map_cons,List.map_nil,hx]
 exact fill_one cs.length h0 _ cs (by simp) rfl
end Go.Proofs.YtbljbdjmgogknaaGreatDoor
