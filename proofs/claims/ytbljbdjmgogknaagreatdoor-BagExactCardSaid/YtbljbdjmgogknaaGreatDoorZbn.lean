/-
  Ye: texts of one proof, one behind the other.
  Conditions: none of its own.
-/
import Derived.Test.YtbljbdjmgogknaaGreatDoorZaq
set_option linter.unusedVariables false
set_option linter.unusedSimpArgs false
set_option maxHeartbeats 25600000
set_option maxRecDepth 20000
namespace Go.Proofs.YtbljbdjmgogknaaGreatDoor
open Go.RowKit
theorem refnum6_any (n : Int) (w : World) : Calls Tryz.prog 89 #[.int .i64 n] w fun e w' => e = .returned (.bool (Cr.isNum n)) ∧ w' = w := by
 by_cases h0 : 0 ≤ n
 ·by_cases h1 : n ≤ 1099511627776
  ·have HE : Hid (Cr.isNum n = true) := by simp [Hid,Cr.isNum,h0,h1]
   go_enter Tryz.func89,Tryz.ntmps89
   go_wp2
   go_ret
   exact ⟨by rw [HE.out]; first | rfl | (simp; omega),rfl⟩
  ·have HE : Hid (Cr.isNum n = false) := by simp [Hid,Cr.isNum,h1]
   go_enter Tryz.func89,Tryz.ntmps89
   go_wp2
   go_ret
   exact ⟨by rw [HE.out]; first | rfl | (simp; omega),rfl⟩
 ·have HE : Hid (Cr.isNum n = false) := by simp [Hid,Cr.isNum,h0]
  go_enter Tryz.func89,Tryz.ntmps89
  go_wp2
  go_ret
  exact ⟨by rw [HE.out]; first | rfl | (simp; omega),rfl⟩
theorem refgood6_any (l : List Wi.Seen) (hl : l.length ≤ maxLen) (ho : ∀ x ∈ l,x.2.length ≤ maxLen) (v : Value) (w : World) (h : Tbl w v l) :
  Calls Tryz.prog 55 #[v] w fun e w' => e = .returned (.bool (Wi.tableB l)) ∧ Below w.heap.size w w' := by
 have HZ := hq' h
 have HO := hq' ho
 obtain ⟨ra,rc,hrv⟩ := h.form
 subst hrv
 unfold maxLen at hl
 clear h ho
 by_cases h64 : l.length ≤ 64
 rotate_left
 ·have h64i : (64 : Int) < (l.length : Int) := by omega
  have HX : Hid (Wi.tableB l = false) := by rw [Hid,Wi.tableB,decide_eq_false h64,Bool.and_false]
  go_enter Tryz.func55,Tryz.ntmps55
  go_wp2
  go_ret
  exact ⟨by rw [HX.out]; rfl,Below.refl _ _⟩
 have h64i : ¬ ((64 : Int) < (l.length : Int)) := by omega
 have HT : Hid (Wi.tableB l = Wi.seensB none l) := by rw [Hid,Wi.tableB,decide_eq_true h64,Bool.and_true]
 go_enter Tryz.func55,Tryz.ntmps55
 go_wp2
 go_loopw [3] (fun ti wr => ∃ k : Nat,ti = .int .i64 k ∧ k ≤ l.length ∧ Wi.seensB none l = Wi.seensB (prevP l k) (l.drop k) ∧ Below w.heap.size w wr) (fun ti _ => l.length - (intOf ti).toNat)
 case atStart => exact ⟨0,rfl,by omega,rfl,Below.refl _ _⟩
 case round =>
  obtain ⟨k,rfl,hk,hr,hb⟩ := hrel
  have HR := hq' hr
  have BR := hq' hb
  clear hr hb
  by_cases hlt : k < l.length
  ·have hlti : (k : Int) < (l.length : Int) := by omega
   obtain ⟨x,hx⟩ : ∃ x,l[k]? = some x := ⟨l[k],by simp [hlt]⟩
   have HS := hq' (tab_step hx (prevP l k))
   have HPO : Hid (prevP l (k + 1) = some x.1) := prevP_succ hx
   obtain ⟨g,off,cap',sv,he,hg,p0,p1,hsv⟩ := HZ.out.getT BR.out hx
   injection he with he1 he2 he3
   subst he1 he3
   have hgr : g < wr.heap.size := Nat.lt_of_lt_of_le hg BR.out.size
   have hprev : Hid (0 < k → ∃ y,prevP l k = some y ∧ ∀ W,Below wr.heap.size wr W → W.cell? ⟨g,off + (k - 1) * 2,none⟩ = some (.int .i64 y)) := fun h0 => by
    obtain ⟨y,hy⟩ : ∃ y,l[k - 1]? = some y := ⟨l[k - 1]'(by omega),List.getElem?_eq_getElem _⟩
    obtain ⟨g',off',cap'',sv',he',_,q0,_⟩ := HZ.out.getT BR.out hy
    injection he' with he1
    injection he1 with he1
    injection he1 with he1 he4
    subst he1 he4
    have hpo : prevP l k = some y.1 := by
     have := prevP_succ hy
     rwa [show k - 1 + 1 = k by omega] at this
    exact ⟨y.1,hpo,fun W hW => (hW.cell (p := ⟨g,off + (k - 1) * 2,none⟩) hgr).trans q0⟩
   have hsl := HO.out x (List.mem_of_getElem? hx)
   obtain ⟨x0,xs⟩ := x
   dsimp only at *
   have HV := hq' hsv
   obtain ⟨sa,sc,hsf⟩ := hsv.form
   subst hsf
   unfold maxLen at hsl
   have W1 := hq' (fun W => refnum6_any x0 W)
   have HSL : Hid (Wi.slotsB xs = (Wi.rowB none xs && (decide (1 ≤ xs.length) && decide (xs.length ≤ 5)))) := rfl
   generalize Cr.isNum x0 = c1 at *
   clear he2 hsv hx
   go_upto_region 7 with (fail)
   have mx0 := fun y : BelowOf wr => y.cell p0
   have M1 := hq' (fun y : BelowOf wr => (W1.out y.1).mono (fun e w' (h : _ ∧ _) => (⟨h.1,y,h.2⟩ : _ ∧ ∃ c : BelowOf wr,w' = c.1)))
   have HNO : Hid ((c1 && (Wi.aboveB (prevP l k) x0 && (decide (1 ≤ xs.length) && decide (xs.length ≤ 5)))) = false → Wi.seensB none l = false) := fun h => by
    rw [HR.out,HS.out,HSL.out]
    revert h
    cases c1 <;> cases Wi.aboveB (prevP l k) x0 <;> cases decide (1 ≤ xs.length) <;> cases decide (xs.length ≤ 5) <;> simp
   have HYE : Hid ((c1 && (Wi.aboveB (prevP l k) x0 && (decide (1 ≤ xs.length) && decide (xs.length ≤ 5)))) = true → Wi.seensB none l = (Wi.rowB none xs && Wi.seensB (prevP l (k + 1)) (l.drop (k + 1)))) := fun h => by
    rw [HR.out,HS.out,HSL.out,HPO.out]
    revert h
    cases c1 <;> cases Wi.aboveB (prevP l k) x0 <;> cases decide (1 ≤ xs.length) <;> cases decide (xs.length ≤ 5) <;> simp
   obtain ⟨r1,hr1⟩ : ∃ r,r = (c1 && (Wi.aboveB (prevP l k) x0 && (decide (1 ≤ xs.length) && decide (xs.length ≤ 5)))) := ⟨_,rfl⟩
   rw [← hr1] at HNO HYE
   have HR1 := hq' hr1
   clear hr1 HS HPO HSL HR
   go_cut [54] (fun t wz => t = .bool (!r1) ∧ Below wr.heap.size wr wz)
   case first =>
    clear HNO HYE HV HZ HO HT p0 p1
    cases c1 with
    | false =>
     refine wp_region_below (by kernel_rfl) (by kernel_rfl) ?_
     repeat (go_big_quiet_step (fail))
     go_big_quiet_step ((exact M1.out _))
     repeat (go_big_quiet_step (fail))
     refine wpQuiet_nil ?_
     intro w8 h8
     obtain ⟨⟨w8,hb8⟩,rfl⟩ := h8
     have B8 := hq' hb8
     clear hb8
     go_wp2
     go_meet
     case rel => exact ⟨by rw [HR1.out]; first | rfl | simp,B8.out⟩
    | true =>
     by_cases h0 : k = 0
     ·have hk0n : ¬ (0 < (k : Int)) := by omega
      have hk0m : ¬ (0 < k) := by omega
      have hk0d : decide (0 < k) = false := decide_eq_false hk0m
      rw [h0,show prevP l 0 = none from rfl,show Wi.aboveB none x0 = true from rfl] at HR1
      clear h0
      by_cases h1 : 1 ≤ xs.length
      rotate_left
      ·have h1n : (xs.length : Int) < 1 := by omega
       have h1m : xs.length < 1 := by omega
       have h1z : decide (xs.length = 0) = true := decide_eq_true (by omega)
       have h1y : (xs.length == 0) = true := beq_iff_eq.2 (by omega)
       rw [decide_eq_false h1] at HR1
       refine wp_region_below (by kernel_rfl) (by kernel_rfl) ?_
       repeat (go_big_quiet_step (fail))
       go_big_quiet_step ((exact M1.out _))
       repeat (go_big_quiet_step (fail))
       refine wpQuiet_nil ?_
       intro w8 h8
       obtain ⟨⟨w8,hb8⟩,rfl⟩ := h8
       have B8 := hq' hb8
       clear hb8
       go_wp2
       go_meet
       case rel => exact ⟨by rw [HR1.out]; first | rfl | simp,B8.out⟩
      have h1n : ¬ ((xs.length : Int) < 1) := by omega
      have h1m : ¬ (xs.length < 1) := by omega
      have h1z : ¬ xs.length = 0 := by omega
      have h1d : decide (xs.length < 1) = false := decide_eq_false h1m
      have h1e : decide (xs.length = 0) = false := decide_eq_false h1z
      rw [decide_eq_true h1] at HR1
      by_cases h5 : xs.length ≤ 5
      ·have h5n : ¬ (5 < (xs.length : Int)) := by omega
       have h5m : ¬ (5 < xs.length) := by omega
       rw [decide_eq_true h5] at HR1
       refine wp_region_below (by kernel_rfl) (by kernel_rfl) ?_
       repeat (go_big_quiet_step (fail))
       go_big_quiet_step ((exact M1.out _))
       repeat (go_big_quiet_step (fail))
       refine wpQuiet_nil ?_
       intro w8 h8
       obtain ⟨⟨w8,hb8⟩,rfl⟩ := h8
       have B8 := hq' hb8
       clear hb8
       go_wp2
       go_meet
       case rel => exact ⟨by rw [HR1.out]; first | rfl | simp,B8.out⟩
      ·have h5n : (5 < (xs.length : Int)) := by omega
       have h5m : 5 < xs.length := by omega
       rw [decide_eq_false h5] at HR1
       refine wp_region_below (by kernel_rfl) (by kernel_rfl) ?_
       repeat (go_big_quiet_step (fail))
       go_big_quiet_step ((exact M1.out _))
       repeat (go_big_quiet_step (fail))
       refine wpQuiet_nil ?_
       intro w8 h8
       obtain ⟨⟨w8,hb8⟩,rfl⟩ := h8
       have B8 := hq' hb8
       clear hb8
       go_wp2
       go_meet
       case rel => exact ⟨by rw [HR1.out]; first | rfl | simp,B8.out⟩
     ·have h0i : (0 : Int) < (k : Int) := by omega
      have h0n : 0 < k := by omega
      obtain ⟨y,hpo,hy0⟩ := hprev.out h0n
      have mp0 := fun z : BelowOf wr => hy0 z.1 z.2
      rw [hpo,show Wi.aboveB (some y) x0 = decide (y < x0) from rfl] at HR1
      have hk0 : (0 : Int) ≤ (k : Int) - 1 := by omega
      have hkl : (k : Int) - 1 < (l.length : Int) := by omega
      have hkt : ((k : Int) - 1).toNat = k - 1 := by omega
      clear hpo hprev hy0
      by_cases h5 : y < x0
      ·have h5n : ¬ (x0 ≤ y) := by omega
       rw [decide_eq_true h5] at HR1
       by_cases h1 : 1 ≤ xs.length
       rotate_left
       ·have h1n : (xs.length : Int) < 1 := by omega
        have h1m : xs.length < 1 := by omega
        have h1z : decide (xs.length = 0) = true := decide_eq_true (by omega)
        have h1y : (xs.length == 0) = true := beq_iff_eq.2 (by omega)
        rw [decide_eq_false h1] at HR1
        refine wp_region_below (by kernel_rfl) (by kernel_rfl) ?_
        repeat (go_big_quiet_step (fail))
        go_big_quiet_step ((exact M1.out _))
        repeat (go_big_quiet_step (fail))
        refine wpQuiet_nil ?_
        intro w8 h8
        obtain ⟨⟨w8,hb8⟩,rfl⟩ := h8
        have B8 := hq' hb8
        clear hb8
        go_wp2
        go_meet
        case rel => exact ⟨by rw [HR1.out]; first | rfl | simp,B8.out⟩
       have h1n : ¬ ((xs.length : Int) < 1) := by omega
       have h1m : ¬ (xs.length < 1) := by omega
       have h1z : ¬ xs.length = 0 := by omega
       have h1d : decide (xs.length < 1) = false := decide_eq_false h1m
       have h1e : decide (xs.length = 0) = false := decide_eq_false h1z
       rw [decide_eq_true h1] at HR1
       by_cases h6 : xs.length ≤ 5
       ·have h6n : ¬ (5 < (xs.length : Int)) := by omega
        have h6m : ¬ (5 < xs.length) := by omega
        rw [decide_eq_true h6] at HR1
        refine wp_region_below (by kernel_rfl) (by kernel_rfl) ?_
        repeat (go_big_quiet_step (fail))
        go_big_quiet_step ((exact M1.out _))
        repeat (go_big_quiet_step (fail))
        refine wpQuiet_nil ?_
        intro w8 h8
        obtain ⟨⟨w8,hb8⟩,rfl⟩ := h8
        have B8 := hq' hb8
        clear hb8
        go_wp2
        go_meet
        case rel => exact ⟨by rw [HR1.out]; first | rfl | simp,B8.out⟩
       ·have h6n : (5 < (xs.length : Int)) := by omega
        have h6m : 5 < xs.length := by omega
        rw [decide_eq_false h6] at HR1
        refine wp_region_below (by kernel_rfl) (by kernel_rfl) ?_
        repeat (go_big_quiet_step (fail))
        go_big_quiet_step ((exact M1.out _))
        repeat (go_big_quiet_step (fail))
        refine wpQuiet_nil ?_
        intro w8 h8
        obtain ⟨⟨w8,hb8⟩,rfl⟩ := h8
        have B8 := hq' hb8
        clear hb8
        go_wp2
        go_meet
        case rel => exact ⟨by rw [HR1.out]; first | rfl | simp,B8.out⟩
      ·have h5n : x0 ≤ y := by omega
       rw [decide_eq_false h5] at HR1
       refine wp_region_below (by kernel_rfl) (by kernel_rfl) ?_
       repeat (go_big_quiet_step (fail))
       go_big_quiet_step ((exact M1.out _))
       repeat (go_big_quiet_step (fail))
       refine wpQuiet_nil ?_
       intro w8 h8
       obtain ⟨⟨w8,hb8⟩,rfl⟩ := h8
       have B8 := hq' hb8
       clear hb8
       go_wp2
       go_meet
       case rel => exact ⟨by rw [HR1.out]; first | rfl | simp,B8.out⟩
   case rest =>
    obtain ⟨rfl,hwa⟩ := hcut
    generalize wc = wq at *
    have BQ := hq' hwa
    have BWQ := hq' (bt BR.out hwa)
    have VQ := hq' (HV.out.kept hwa)
    clear hwa HR1 mx0 M1 hprev W1 p0 p1 HV
    cases r1 with
    | false =>
     have HX := hq' (HNO.out rfl)
     clear HNO HYE
     go_wp2
     go_ret
     exact ⟨by rw [HT.out,HX.out]; rfl,BWQ.out⟩
    | true =>
     have HX0 := hq' (HYE.out rfl)
     clear HNO HYE
     go_wp2
     go_loopw [5] (fun ti wr => ∃ j : Nat,ti = .int .i64 j ∧ j ≤ xs.length ∧ Wi.rowB none xs = Wi.rowB (prevS xs j) (xs.drop j) ∧ (∀ y,prevS xs j = some y → 0 ≤ y.1 ∧ y.1 ≤ 1099511627776) ∧ Below wq.heap.size wq wr) (fun ti _ => xs.length - (intOf ti).toNat)
     case atStart => exact ⟨0,rfl,by omega,rfl,(fun y hy => by cases hy),Below.refl _ _⟩
     case round =>
      obtain ⟨j,rfl,hk,hr,hpn,hb⟩ := hrel
      have HR := hq' hr
      have HPN := hq' hpn
      have BR2 := hq' hb
      have BW2 := hq' (bt BWQ.out hb)
      clear hr hb hpn
      by_cases hlt2 : j < xs.length
      ·have hlt2i : (j : Int) < (xs.length : Int) := by omega
       obtain ⟨x,hx⟩ : ∃ x,xs[j]? = some x := ⟨xs[j],by simp [hlt2]⟩
       have HS := hq' (row_step hx (prevS xs j))
       have HPO : Hid (prevS xs (j + 1) = some x) := prevS_succ hx
       obtain ⟨g2,off2,cap2,he,hg2,q0,q1,q2⟩ := VQ.out.getS BR2.out hx
       injection he with he1 he2 he3
       subst he1 he3
       have hgr2 : g2 < wr.heap.size := Nat.lt_of_lt_of_le hg2 BR2.out.size
       have hprev : Hid (0 < j → ∃ y,prevS xs j = some y ∧ (0 ≤ y.1 ∧ y.1 ≤ 1099511627776) ∧ (∀ W,Below wr.heap.size wr W → W.cell? ⟨g2,off2 + (j - 1) * 3,none⟩ = some (.int .i64 y.1)) ∧ (∀ W,Below wr.heap.size wr W → W.cell? ⟨g2,off2 + (j - 1) * 3 + 2,none⟩ = some (.int .i64 y.2.2))) := fun h0 => by
        obtain ⟨y,hy⟩ : ∃ y,xs[j - 1]? = some y := ⟨xs[j - 1]'(by omega),List.getElem?_eq_getElem _⟩
        obtain ⟨g',off',cap',he',_,q0,_,q2⟩ := VQ.out.getS BR2.out hy
        injection he' with he1
        injection he1 with he1
        injection he1 with he1 he4
        subst he1 he4
        have hpo : prevS xs j = some y := by
         have := prevS_succ hy
         rwa [show j - 1 + 1 = j by omega] at this
        exact ⟨y,hpo,HPN.out y hpo,fun W hW => (hW.cell (p := ⟨g2,off2 + (j - 1) * 3,none⟩) hgr2).trans q0,fun W hW => (hW.cell (p := ⟨g2,off2 + (j - 1) * 3 + 2,none⟩) hgr2).trans q2⟩
       have F0 : Hid (∀ W,Below wr.heap.size wr W → W.cell? ⟨g2,off2 + j * 3,none⟩ = some (.int .i64 x.1)) := fun W hW => (hW.cell (p := ⟨g2,off2 + j * 3,none⟩) hgr2).trans q0
       have F1 : Hid (∀ W,Below wr.heap.size wr W → W.cell? ⟨g2,off2 + j * 3 + 1,none⟩ = some (.int .i64 x.2.1)) := fun W hW => (hW.cell (p := ⟨g2,off2 + j * 3 + 1,none⟩) hgr2).trans q1
       obtain ⟨x0,x1,x2⟩ := x
       dsimp only at *
       have W1 := hq' (fun W => refnum6_any x0 W)
       have W2 := hq' (fun W => refnum6_any x1 W)
       have W3 := hq' (fun W => refnum6_any x2 W)
       have HPN2 : Hid (Cr.isNum x0 = true → ∀ y,prevS xs (j + 1) = some y → 0 ≤ y.1 ∧ y.1 ≤ 1099511627776) := fun h y hy => by
        rw [HPO.out] at hy
        injection hy with hy
        subst hy
        exact Wi.isNum_iff.1 h
       generalize Cr.isNum x0 = c1 at *
       generalize Cr.isNum x1 = c2 at *
       generalize Cr.isNum x2 = c3 at *
       clear he2 hx HPN
       go_upto_region 12 with (fail)
       have mx0 := fun y : BelowOf wr => y.cell q0
       have mx1 := fun y : BelowOf wr => y.cell q1
       have mx2 := fun y : BelowOf wr => y.cell q2
       have M1 := hq' (fun y : BelowOf wr => (W1.out y.1).mono (fun e w' (h : _ ∧ _) => (⟨h.1,y,h.2⟩ : _ ∧ ∃ c : BelowOf wr,w' = c.1)))
       have M2 := hq' (fun y : BelowOf wr => (W2.out y.1).mono (fun e w' (h : _ ∧ _) => (⟨h.1,y,h.2⟩ : _ ∧ ∃ c : BelowOf wr,w' = c.1)))
       have M3 := hq' (fun y : BelowOf wr => (W3.out y.1).mono (fun e w' (h : _ ∧ _) => (⟨h.1,y,h.2⟩ : _ ∧ ∃ c : BelowOf wr,w' = c.1)))
       have HNO : Hid ((c1 && (c2 && (c3 && decide (x1 < x2)))) = false → Wi.rowB none xs = false) := fun h => by
        rw [HR.out,HS.out,h,Bool.false_and]
       have HYE : Hid ((c1 && (c2 && (c3 && decide (x1 < x2)))) = true → c1 = true ∧ Wi.rowB none xs = (Wi.nextB (prevS xs j) (x0,x1,x2) && Wi.rowB (prevS xs (j + 1)) (xs.drop (j + 1)))) := fun h => by
        rw [HR.out,HS.out,h,Bool.true_and,HPO.out]
        refine ⟨?_,rfl⟩
        revert h
        cases c1 <;> simp
       obtain ⟨r1,hr1⟩ : ∃ r,r = (c1 && (c2 && (c3 && decide (x1 < x2)))) := ⟨_,rfl⟩
       rw [← hr1] at HNO HYE
       have HR1 := hq' hr1
       clear hr1 HS HPO HR q0 q1 q2
       go_cut [98] (fun t wz => t = .bool (!r1) ∧ Below wr.heap.size wr wz)
       case first =>
        clear HNO HYE VQ HZ HO HT HX0 hprev F0 F1 HPN2
        cases c1 with
        | false =>
         refine wp_region_below (by kernel_rfl) (by kernel_rfl) ?_
         repeat (go_big_quiet_step (fail))
         go_big_quiet_step ((exact M1.out _))
         repeat (go_big_quiet_step (fail))
         refine wpQuiet_nil ?_
         intro w8 h8
         obtain ⟨⟨w8,hb8⟩,rfl⟩ := h8
         have B8 := hq' hb8
         clear hb8
         go_wp2
         go_meet
         case rel => exact ⟨by rw [HR1.out]; first | rfl | simp,B8.out⟩
        | true =>
         cases c2 with
         | false =>
          refine wp_region_below (by kernel_rfl) (by kernel_rfl) ?_
          repeat (go_big_quiet_step (fail))
          go_big_quiet_step ((exact M1.out _))
          repeat (go_big_quiet_step (fail))
          go_big_quiet_step ((exact M2.out _))
          repeat (go_big_quiet_step (fail))
          refine wpQuiet_nil ?_
          intro w8 h8
          obtain ⟨⟨w8,hb8⟩,rfl⟩ := h8
          have B8 := hq' hb8
          clear hb8
          go_wp2
          go_meet
          case rel => exact ⟨by rw [HR1.out]; first | rfl | simp,B8.out⟩
         | true =>
          cases c3 with
          | false =>
           refine wp_region_below (by kernel_rfl) (by kernel_rfl) ?_
           repeat (go_big_quiet_step (fail))
           go_big_quiet_step ((exact M1.out _))
           repeat (go_big_quiet_step (fail))
           go_big_quiet_step ((exact M2.out _))
           repeat (go_big_quiet_step (fail))
           go_big_quiet_step ((exact M3.out _))
           repeat (go_big_quiet_step (fail))
           refine wpQuiet_nil ?_
           intro w8 h8
           obtain ⟨⟨w8,hb8⟩,rfl⟩ := h8
           have B8 := hq' hb8
           clear hb8
           go_wp2
           go_meet
           case rel => exact ⟨by rw [HR1.out]; first | rfl | simp,B8.out⟩
          | true =>
           by_cases h4 : x1 < x2
           ·have h4n : ¬ (x2 ≤ x1) := by omega
            rw [decide_eq_true h4] at HR1
            refine wp_region_below (by kernel_rfl) (by kernel_rfl) ?_
            repeat (go_big_quiet_step (fail))
            go_big_quiet_step ((exact M1.out _))
            repeat (go_big_quiet_step (fail))
            go_big_quiet_step ((exact M2.out _))
            repeat (go_big_quiet_step (fail))
            go_big_quiet_step ((exact M3.out _))
            repeat (go_big_quiet_step (fail))
            refine wpQuiet_nil ?_
            intro w8 h8
            obtain ⟨⟨w8,hb8⟩,rfl⟩ := h8
            have B8 := hq' hb8
            clear hb8
            go_wp2
            go_meet
            case rel => exact ⟨by rw [HR1.out]; first | rfl | simp,B8.out⟩
           ·have h4n : x2 ≤ x1 := by omega
            rw [decide_eq_false h4] at HR1
            refine wp_region_below (by kernel_rfl) (by kernel_rfl) ?_
            repeat (go_big_quiet_step (fail))
            go_big_quiet_step ((exact M1.out _))
            repeat (go_big_quiet_step (fail))
            go_big_quiet_step ((exact M2.out _))
            repeat (go_big_quiet_step (fail))
            go_big_quiet_step ((exact M3.out _))
            repeat (go_big_quiet_step (fail))
            refine wpQuiet_nil ?_
            intro w8 h8
            obtain ⟨⟨w8,hb8⟩,rfl⟩ := h8
            have B8 := hq' hb8
            clear hb8
            go_wp2
            go_meet
            case rel => exact ⟨by rw [HR1.out]; first | rfl | simp,B8.out⟩
       case rest =>
        obtain ⟨rfl,hwa⟩ := hcut
        generalize wc = wa at *
        have BA := hq' hwa
        have BWA := hq' (bt BW2.out hwa)
        have BQA := hq' (bt BR2.out hwa)
        clear hwa HR1 mx0 mx1 mx2 M1 M2 M3 W1 W2 W3
        cases r1 with
        | false =>
         have HX := hq' (HNO.out rfl)
         clear HNO HYE hprev F0 F1
         go_wp2
         go_ret
         exact ⟨by rw [HT.out,HX0.out,HX.out]; rfl,BWA.out⟩
        | true =>
         obtain ⟨hc1,hye⟩ := HYE.out rfl
         have HX := hq' hye
         have HPN := hq' (HPN2.out hc1)
         clear HNO HYE hc1 hye HPN2
         go_upto_region 14 with (fail)
         have mx0 := fun y : BelowOf wa => F0.out y.1 (bt BA.out y.2)
         have mx1 := fun y : BelowOf wa => F1.out y.1 (bt BA.out y.2)
         obtain ⟨r2,hr2⟩ : ∃ r,r = Wi.nextB (prevS xs j) (x0,x1,x2) := ⟨_,rfl⟩
         rw [← hr2] at HX
         have HR1 := hq' hr2
         clear hr2
         go_cut [129] (fun t wz => t = .bool (!r2) ∧ Below wa.heap.size wa wz)
         case first =>
          clear HX HPN F0 F1 VQ HZ HO HT HX0
          by_cases h0 : j = 0
          ·have hk0' : (j : Int) = 0 := by omega
           have hk0n : ¬ (0 < (j : Int)) := by omega
           have hk0m : ¬ (0 < j) := by omega
           have hk0d : decide (0 < j) = false := decide_eq_false hk0m
           rw [h0,show prevS xs 0 = none from rfl] at HR1
           clear hk0' h0
           have HR1 : Hid (r2 = true) := HR1.out
           refine wp_region_below (by kernel_rfl) (by kernel_rfl) ?_
           repeat (go_big_quiet_step (fail))
           refine wpQuiet_nil ?_
           intro w8 h8
           obtain ⟨⟨w8,hb8⟩,rfl⟩ := h8
           have B8 := hq' hb8
           clear hb8
           go_wp2
           go_meet
           case rel => exact ⟨by rw [HR1.out]; first | rfl | simp,B8.out⟩
          ·have h0i : (0 : Int) < (j : Int) := by omega
           have h0n : 0 < j := by omega
           obtain ⟨y,hpo,hyn,hy0,hy2⟩ := hprev.out h0n
           have mp0 := fun z : BelowOf wa => hy0 z.1 (bt BA.out z.2)
           have mp2 := fun z : BelowOf wa => hy2 z.1 (bt BA.out z.2)
           rw [hpo] at HR1
           have hk0 : (0 : Int) ≤ (j : Int) - 1 := by omega
           have hkl : (j : Int) - 1 < (xs.length : Int) := by omega
           have hkt : ((j : Int) - 1).toNat = j - 1 := by omega
           have HNX : Hid (Wi.nextB (some y) (x0,x1,x2) = (decide (x0 = y.1 + 1) && decide (y.2.2 ≤ x1))) := rfl
           rw [HNX.out] at HR1
           clear hpo hprev hy0 hy2 HNX
           obtain ⟨y0,y1,y2⟩ := y
           dsimp only at *
           have hwr : IntKind.i64.wrap (y0 + 1) = y0 + 1 := by rw [IntKind.wrap_i64]; omega
           by_cases h5 : x0 = y0 + 1
           ·subst h5
            rw [decide_eq_true rfl] at HR1
            by_cases h6 : y2 ≤ x1
            ·have h6n : ¬ (x1 < y2) := by omega
             rw [decide_eq_true h6] at HR1
             refine wp_region_below (by kernel_rfl) (by kernel_rfl) ?_
             repeat (go_big_quiet_step (fail))
             refine wpQuiet_nil ?_
             intro w8 h8
             obtain ⟨⟨w8,hb8⟩,rfl⟩ := h8
             have B8 := hq' hb8
             clear hb8
             go_wp2
             go_meet
             case rel => exact ⟨by rw [HR1.out]; first | rfl | simp,B8.out⟩
            ·have h6n : x1 < y2 := by omega
             rw [decide_eq_false h6] at HR1
             refine wp_region_below (by kernel_rfl) (by kernel_rfl) ?_
             repeat (go_big_quiet_step (fail))
             refine wpQuiet_nil ?_
             intro w8 h8
             obtain ⟨⟨w8,hb8⟩,rfl⟩ := h8
             have B8 := hq' hb8
             clear hb8
             go_wp2
             go_meet
             case rel => exact ⟨by rw [HR1.out]; first | rfl | simp,B8.out⟩
           ·have h5n : (x0 == y0 + 1) = false := beq_eq_false_iff_ne.2 h5
            have h5b : (x0 != y0 + 1) = true := by simp [h5]
            have h5c : decide (x0 = y0 + 1) = false := decide_eq_false h5
            rw [decide_eq_false h5] at HR1
            have HR1 : Hid (r2 = false) := HR1.out
            refine wp_region_below (by kernel_rfl) (by kernel_rfl) ?_
            repeat (go_big_quiet_step (fail))
            refine wpQuiet_nil ?_
            intro w8 h8
            obtain ⟨⟨w8,hb8⟩,rfl⟩ := h8
            have B8 := hq' hb8
            clear hb8
            go_wp2
            go_meet
            case rel => exact ⟨by rw [HR1.out]; first | rfl | simp,B8.out⟩
         case rest =>
          obtain ⟨rfl,hwd⟩ := hcut
          generalize wc = wd at *
          have BWD := hq' (bt BWA.out hwd)
          have BQD := hq' (bt BQA.out hwd)
          clear hwd HR1 mx0 mx1 F0 F1 hprev
          cases r2 with
          | false =>
           go_wp2
           go_ret
           exact ⟨by rw [HT.out,HX0.out,HX.out]; rfl,BWD.out⟩
          | true =>
           have HX1 : Hid (Wi.rowB none xs = Wi.rowB (prevS xs (j + 1)) (xs.drop (j + 1))) := by rw [Hid,HX.out]; rfl
           clear HX
           go_wp2
           go_roundw
           case rel => exact ⟨j + 1,by go_num,by omega,HX1.out,HPN.out,BQD.out⟩
           case measure => simp [intOf]; omega
      ·obtain rfl : j = xs.length := by omega
       have HX : Hid (Wi.seensB none l = Wi.seensB (prevP l (k + 1)) (l.drop (k + 1))) := by rw [Hid,HX0.out,HR.out,List.drop_length]; rfl
       clear HR HX0
       go_wp2
       go_roundw
       case rel => exact ⟨k + 1,by go_num,by omega,HX.out,BW2.out⟩
       case measure => simp [intOf]; omega
  ·obtain rfl : k = l.length := by omega
   have HX : Hid (Wi.seensB none l = true) := by rw [Hid,HR.out,List.drop_length]; rfl
   go_wp2
   go_ret
   exact ⟨by rw [HT.out,HX.out]; rfl,BR.out⟩
end Go.Proofs.YtbljbdjmgogknaaGreatDoor
