/-
  Ye / Yo1: texts of one proof, one behind the other.
  Conditions: none of its own.
-/
import Derived.Test.YtjfpbeccpcbpcaaGreatDoorZag
import Derived.Test.YtjfpbeccpcbpcaaGreatDoorZap
import Derived.Deep.DeepCutAuto
set_option linter.unusedVariables false
set_option linter.unusedSimpArgs false
namespace Go.Proofs.YtjfpbeccpcbpcaaGreatDoor
open Go.RowKit
theorem refnum6_any (n : Int) (w : World) : Calls Tryz.prog 103 #[.int .i64 n] w fun e w' => e = .returned (.bool (Cr.isNum n)) ∧ w' = w := by
 by_cases h0 : 0 ≤ n
 ·by_cases h1 : n ≤ 1099511627776
  ·have HE : Hid (Cr.isNum n = true) := by simp [Hid, Cr.isNum, h0, h1]
   go_enter Tryz.func103, Tryz.ntmps103
   go_wp2
   go_ret
   exact ⟨by rw [HE.out]; first | rfl | (simp; omega), rfl⟩
  ·have HE : Hid (Cr.isNum n = false) := by simp [Hid, Cr.isNum, h1]
   go_enter Tryz.func103, Tryz.ntmps103
   go_wp2
   go_ret
   exact ⟨by rw [HE.out]; first | rfl | (simp; omega), rfl⟩
 ·have HE : Hid (Cr.isNum n = false) := by simp [Hid, Cr.isNum, h0]
  go_enter Tryz.func103, Tryz.ntmps103
  go_wp2
  go_ret
  exact ⟨by rw [HE.out]; first | rfl | (simp; omega), rfl⟩
set_option maxRecDepth 20000 in
set_option maxHeartbeats 25600000 in
theorem refgood6_any (l : List Wi.Seen) (hl : l.length ≤ maxLen) (ho : ∀ x ∈ l, x.2.length ≤ maxLen) (v : Value) (w : World) (h : Tbl w v l) :
  Calls Tryz.prog 47 #[v] w fun e w' => e = .returned (.bool (Wi.tableB l)) ∧ Below w.heap.size w w' := by
 have HZ := Lib.hid h
 have HO := Lib.hid ho
 obtain ⟨ra, rc, hrv⟩ := h.form
 subst hrv
 unfold maxLen at hl
 clear h ho
 by_cases h64 : l.length ≤ 64
 rotate_left
 ·have h64i : (64 : Int) < (l.length : Int) := by omega
  have HX : Hid (Wi.tableB l = false) := by rw [Hid, Wi.tableB, decide_eq_false h64, Bool.and_false]
  go_enter Tryz.func47, Tryz.ntmps47
  go_wp2
  go_ret
  exact ⟨by rw [HX.out]; rfl, Below.refl _ _⟩
 have h64i : ¬ ((64 : Int) < (l.length : Int)) := by omega
 have HT : Hid (Wi.tableB l = Wi.seensB none l) := by rw [Hid, Wi.tableB, decide_eq_true h64, Bool.and_true]
 go_enter Tryz.func47, Tryz.ntmps47
 go_wp2
 go_loopw [3] (fun ti wr => ∃ k : Nat, ti = .int .i64 k ∧ k ≤ l.length ∧ Wi.seensB none l = Wi.seensB (prevP l k) (l.drop k) ∧ Below w.heap.size w wr) (fun ti _ => l.length - (intOf ti).toNat)
 case atStart => exact ⟨0, rfl, by omega, rfl, Below.refl _ _⟩
 case round =>
  obtain ⟨k, rfl, hk, hr, hb⟩ := hrel
  have HR := Lib.hid hr
  have BR := Lib.hid hb
  clear hr hb
  by_cases hlt : k < l.length
  ·have hlti : (k : Int) < (l.length : Int) := by omega
   obtain ⟨x, hx⟩ : ∃ x, l[k]? = some x := ⟨l[k], by simp [hlt]⟩
   have HS := Lib.hid (tab_step hx (prevP l k))
   have HPO : Hid (prevP l (k + 1) = some x.1) := prevP_succ hx
   obtain ⟨g, off, cap', sv, he, hg, p0, p1, hsv⟩ := HZ.out.getT BR.out hx
   injection he with he1 he2 he3
   subst he1 he3
   have hgr : g < wr.heap.size := Nat.lt_of_lt_of_le hg BR.out.size
   have hprev : Hid (0 < k → ∃ y, prevP l k = some y ∧ ∀ W, Below wr.heap.size wr W → W.cell? ⟨g, off + (k - 1) * 2, none⟩ = some (.int .i64 y)) := fun h0 => by
    obtain ⟨y, hy⟩ : ∃ y, l[k - 1]? = some y := ⟨l[k - 1]'(by omega), List.getElem?_eq_getElem _⟩
    obtain ⟨g', off', cap'', sv', he', _, q0, _⟩ := HZ.out.getT BR.out hy
    injection he' with he1
    injection he1 with he1
    injection he1 with he1 he4
    subst he1 he4
    have hpo : prevP l k = some y.1 := by
     have := prevP_succ hy
     rwa [show k - 1 + 1 = k by omega] at this
    exact ⟨y.1, hpo, fun W hW => (hW.cell (p := ⟨g, off + (k - 1) * 2, none⟩) hgr).trans q0⟩
   have hsl := HO.out x (List.mem_of_getElem? hx)
   obtain ⟨x0, xs⟩ := x
   dsimp only at *
   have HV := Lib.hid hsv
   obtain ⟨sa, sc, hsf⟩ := hsv.form
   subst hsf
   unfold maxLen at hsl
   have W1 := Lib.hid (fun W => refnum6_any x0 W)
   have HSL : Hid (Wi.slotsB xs = (Wi.rowB none xs && (decide (1 ≤ xs.length) && decide (xs.length ≤ 5)))) := rfl
   generalize Cr.isNum x0 = c1 at *
   clear he2 hsv hx
   go_upto_region 7 with (fail)
   have mx0 := fun y : BelowOf wr => y.cell p0
   have M1 := Lib.hid (fun y : BelowOf wr => (W1.out y.1).mono (fun e w' (h : _ ∧ _) => (⟨h.1, y, h.2⟩ : _ ∧ ∃ c : BelowOf wr, w' = c.1)))
   have HNO : Hid ((c1 && (Wi.aboveB (prevP l k) x0 && (decide (1 ≤ xs.length) && decide (xs.length ≤ 5)))) = false → Wi.seensB none l = false) := fun h => by
    rw [HR.out, HS.out, HSL.out]
    revert h
    cases c1 <;> cases Wi.aboveB (prevP l k) x0 <;> cases decide (1 ≤ xs.length) <;> cases decide (xs.length ≤ 5) <;> simp
   have HYE : Hid ((c1 && (Wi.aboveB (prevP l k) x0 && (decide (1 ≤ xs.length) && decide (xs.length ≤ 5)))) = true → Wi.seensB none l = (Wi.rowB none xs && Wi.seensB (prevP l (k + 1)) (l.drop (k + 1)))) := fun h => by
    rw [HR.out, HS.out, HSL.out, HPO.out]
    revert h
    cases c1 <;> cases Wi.aboveB (prevP l k) x0 <;> cases decide (1 ≤ xs.length) <;> cases decide (xs.length ≤ 5) <;> simp
   obtain ⟨r1, hr1⟩ : ∃ r, r = (c1 && (Wi.aboveB (prevP l k) x0 && (decide (1 ≤ xs.length) && decide (xs.length ≤ 5)))) := ⟨_, rfl⟩
   rw [← hr1] at HNO HYE
   have HR1 := Lib.hid hr1
   clear hr1 HS HPO HSL HR
   go_cut [54] (fun t wz => t = .bool (!r1) ∧ Below wr.heap.size wr wz)
   case first =>
    clear HNO HYE HV HZ HO HT p0 p1
    cases c1 with
    | false =>
     refine wp_region_below (by kernel_rfl) (by kernel_rfl) ?_
     repeat (go_big_quiet_step (fail))
     go_big_quiet_step ((exact M1.out _))
     repeat (go_big_quiet_step (fail))
     refine wpQuiet_nil ?_
     intro w8 h8
     obtain ⟨⟨w8, hb8⟩, rfl⟩ := h8
     have B8 := Lib.hid hb8
     clear hb8
     go_wp2
     go_meet
     case rel => exact ⟨by rw [HR1.out]; first | rfl | simp, B8.out⟩
    | true =>
     by_cases h0 : k = 0
     ·have hk0n : ¬ (0 < (k : Int)) := by omega
      have hk0m : ¬ (0 < k) := by omega
      have hk0d : decide (0 < k) = false := decide_eq_false hk0m
      rw [h0, show prevP l 0 = none from rfl, show Wi.aboveB none x0 = true from rfl] at HR1
      clear h0
      by_cases h1 : 1 ≤ xs.length
      rotate_left
      ·have h1n : (xs.length : Int) < 1 := by omega
       have h1m : xs.length < 1 := by omega
       have h1z : decide (xs.length = 0) = true := decide_eq_true (by omega)
       have h1y : (xs.length == 0) = true := beq_iff_eq.2 (by omega)
       rw [decide_eq_false h1] at HR1
       refine wp_region_below (by kernel_rfl) (by kernel_rfl) ?_
       repeat (go_big_quiet_step (fail))
       go_big_quiet_step ((exact M1.out _))
       repeat (go_big_quiet_step (fail))
       refine wpQuiet_nil ?_
       intro w8 h8
       obtain ⟨⟨w8, hb8⟩, rfl⟩ := h8
       have B8 := Lib.hid hb8
       clear hb8
       go_wp2
       go_meet
       case rel => exact ⟨by rw [HR1.out]; first | rfl | simp, B8.out⟩
      have h1n : ¬ ((xs.length : Int) < 1) := by omega
      have h1m : ¬ (xs.length < 1) := by omega
      have h1z : ¬ xs.length = 0 := by omega
      have h1d : decide (xs.length < 1) = false := decide_eq_false h1m
      have h1e : decide (xs.length = 0) = false := decide_eq_false h1z
      rw [decide_eq_true h1] at HR1
      by_cases h5 : xs.length ≤ 5
      ·have h5n : ¬ (5 < (xs.length : Int)) := by omega
       have h5m : ¬ (5 < xs.length) := by omega
       rw [decide_eq_true h5] at HR1
       refine wp_region_below (by kernel_rfl) (by kernel_rfl) ?_
       repeat (go_big_quiet_step (fail))
       go_big_quiet_step ((exact M1.out _))
       repeat (go_big_quiet_step (fail))
       refine wpQuiet_nil ?_
       intro w8 h8
       obtain ⟨⟨w8, hb8⟩, rfl⟩ := h8
       have B8 := Lib.hid hb8
       clear hb8
       go_wp2
       go_meet
       case rel => exact ⟨by rw [HR1.out]; first | rfl | simp, B8.out⟩
      ·have h5n : (5 < (xs.length : Int)) := by omega
       have h5m : 5 < xs.length := by omega
       rw [decide_eq_false h5] at HR1
       refine wp_region_below (by kernel_rfl) (by kernel_rfl) ?_
       repeat (go_big_quiet_step (fail))
       go_big_quiet_step ((exact M1.out _))
       repeat (go_big_quiet_step (fail))
       refine wpQuiet_nil ?_
       intro w8 h8
       obtain ⟨⟨w8, hb8⟩, rfl⟩ := h8
       have B8 := Lib.hid hb8
       clear hb8
       go_wp2
       go_meet
       case rel => exact ⟨by rw [HR1.out]; first | rfl | simp, B8.out⟩
     ·have h0i : (0 : Int) < (k : Int) := by omega
      have h0n : 0 < k := by omega
      obtain ⟨y, hpo, hy0⟩ := hprev.out h0n
      have mp0 := fun z : BelowOf wr => hy0 z.1 z.2
      rw [hpo, show Wi.aboveB (some y) x0 = decide (y < x0) from rfl] at HR1
      have hk0 : (0 : Int) ≤ (k : Int) - 1 := by omega
      have hkl : (k : Int) - 1 < (l.length : Int) := by omega
      have hkt : ((k : Int) - 1).toNat = k - 1 := by omega
      clear hpo hprev hy0
      by_cases h5 : y < x0
      ·have h5n : ¬ (x0 ≤ y) := by omega
       rw [decide_eq_true h5] at HR1
       by_cases h1 : 1 ≤ xs.length
       rotate_left
       ·have h1n : (xs.length : Int) < 1 := by omega
        have h1m : xs.length < 1 := by omega
        have h1z : decide (xs.length = 0) = true := decide_eq_true (by omega)
        have h1y : (xs.length == 0) = true := beq_iff_eq.2 (by omega)
        rw [decide_eq_false h1] at HR1
        refine wp_region_below (by kernel_rfl) (by kernel_rfl) ?_
        repeat (go_big_quiet_step (fail))
        go_big_quiet_step ((exact M1.out _))
        repeat (go_big_quiet_step (fail))
        refine wpQuiet_nil ?_
        intro w8 h8
        obtain ⟨⟨w8, hb8⟩, rfl⟩ := h8
        have B8 := Lib.hid hb8
        clear hb8
        go_wp2
        go_meet
        case rel => exact ⟨by rw [HR1.out]; first | rfl | simp, B8.out⟩
       have h1n : ¬ ((xs.length : Int) < 1) := by omega
       have h1m : ¬ (xs.length < 1) := by omega
       have h1z : ¬ xs.length = 0 := by omega
       have h1d : decide (xs.length < 1) = false := decide_eq_false h1m
       have h1e : decide (xs.length = 0) = false := decide_eq_false h1z
       rw [decide_eq_true h1] at HR1
       by_cases h6 : xs.length ≤ 5
       ·have h6n : ¬ (5 < (xs.length : Int)) := by omega
        have h6m : ¬ (5 < xs.length) := by omega
        rw [decide_eq_true h6] at HR1
        refine wp_region_below (by kernel_rfl) (by kernel_rfl) ?_
        repeat (go_big_quiet_step (fail))
        go_big_quiet_step ((exact M1.out _))
        repeat (go_big_quiet_step (fail))
        refine wpQuiet_nil ?_
        intro w8 h8
        obtain ⟨⟨w8, hb8⟩, rfl⟩ := h8
        have B8 := Lib.hid hb8
        clear hb8
        go_wp2
        go_meet
        case rel => exact ⟨by rw [HR1.out]; first | rfl | simp, B8.out⟩
       ·have h6n : (5 < (xs.length : Int)) := by omega
        have h6m : 5 < xs.length := by omega
        rw [decide_eq_false h6] at HR1
        refine wp_region_below (by kernel_rfl) (by kernel_rfl) ?_
        repeat (go_big_quiet_step (fail))
        go_big_quiet_step ((exact M1.out _))
        repeat (go_big_quiet_step (fail))
        refine wpQuiet_nil ?_
        intro w8 h8
        obtain ⟨⟨w8, hb8⟩, rfl⟩ := h8
        have B8 := Lib.hid hb8
        clear hb8
        go_wp2
        go_meet
        case rel => exact ⟨by rw [HR1.out]; first | rfl | simp, B8.out⟩
      ·have h5n : x0 ≤ y := by omega
       rw [decide_eq_false h5] at HR1
       refine wp_region_below (by kernel_rfl) (by kernel_rfl) ?_
       repeat (go_big_quiet_step (fail))
       go_big_quiet_step ((exact M1.out _))
       repeat (go_big_quiet_step (fail))
       refine wpQuiet_nil ?_
       intro w8 h8
       obtain ⟨⟨w8, hb8⟩, rfl⟩ := h8
       have B8 := Lib.hid hb8
       clear hb8
       go_wp2
       go_meet
       case rel => exact ⟨by rw [HR1.out]; first | rfl | simp, B8.out⟩
   case rest =>
    obtain ⟨rfl, hwa⟩ := hcut
    generalize wc = wq at *
    have BQ := Lib.hid hwa
    have BWQ := Lib.hid (bt BR.out hwa)
    have VQ := Lib.hid (HV.out.kept hwa)
    clear hwa HR1 mx0 M1 hprev W1 p0 p1 HV
    cases r1 with
    | false =>
     have HX := Lib.hid (HNO.out rfl)
     clear HNO HYE
     go_wp2
     go_ret
     exact ⟨by rw [HT.out, HX.out]; rfl, BWQ.out⟩
    | true =>
     have HX0 := Lib.hid (HYE.out rfl)
     clear HNO HYE
     go_wp2
     go_loopw [5] (fun ti wr => ∃ j : Nat, ti = .int .i64 j ∧ j ≤ xs.length ∧ Wi.rowB none xs = Wi.rowB (prevS xs j) (xs.drop j) ∧ (∀ y, prevS xs j = some y → 0 ≤ y.1 ∧ y.1 ≤ 1099511627776) ∧ Below wq.heap.size wq wr) (fun ti _ => xs.length - (intOf ti).toNat)
     case atStart => exact ⟨0, rfl, by omega, rfl, (fun y hy => by cases hy), Below.refl _ _⟩
     case round =>
      obtain ⟨j, rfl, hk, hr, hpn, hb⟩ := hrel
      have HR := Lib.hid hr
      have HPN := Lib.hid hpn
      have BR2 := Lib.hid hb
      have BW2 := Lib.hid (bt BWQ.out hb)
      clear hr hb hpn
      by_cases hlt2 : j < xs.length
      ·have hlt2i : (j : Int) < (xs.length : Int) := by omega
       obtain ⟨x, hx⟩ : ∃ x, xs[j]? = some x := ⟨xs[j], by simp [hlt2]⟩
       have HS := Lib.hid (row_step hx (prevS xs j))
       have HPO : Hid (prevS xs (j + 1) = some x) := prevS_succ hx
       obtain ⟨g2, off2, cap2, he, hg2, q0, q1, q2⟩ := VQ.out.getS BR2.out hx
       injection he with he1 he2 he3
       subst he1 he3
       have hgr2 : g2 < wr.heap.size := Nat.lt_of_lt_of_le hg2 BR2.out.size
       have hprev : Hid (0 < j → ∃ y, prevS xs j = some y ∧ (0 ≤ y.1 ∧ y.1 ≤ 1099511627776) ∧ (∀ W, Below wr.heap.size wr W → W.cell? ⟨g2, off2 + (j - 1) * 3, none⟩ = some (.int .i64 y.1)) ∧ (∀ W, Below wr.heap.size wr W → W.cell? ⟨g2, off2 + (j - 1) * 3 + 2, none⟩ = some (.int .i64 y.2.2))) := fun h0 => by
        obtain ⟨y, hy⟩ : ∃ y, xs[j - 1]? = some y := ⟨xs[j - 1]'(by omega), List.getElem?_eq_getElem _⟩
        obtain ⟨g', off', cap', he', _, q0, _, q2⟩ := VQ.out.getS BR2.out hy
        injection he' with he1
        injection he1 with he1
        injection he1 with he1 he4
        subst he1 he4
        have hpo : prevS xs j = some y := by
         have := prevS_succ hy
         rwa [show j - 1 + 1 = j by omega] at this
        exact ⟨y, hpo, HPN.out y hpo, fun W hW => (hW.cell (p := ⟨g2, off2 + (j - 1) * 3, none⟩) hgr2).trans q0, fun W hW => (hW.cell (p := ⟨g2, off2 + (j - 1) * 3 + 2, none⟩) hgr2).trans q2⟩
       have F0 : Hid (∀ W, Below wr.heap.size wr W → W.cell? ⟨g2, off2 + j * 3, none⟩ = some (.int .i64 x.1)) := fun W hW => (hW.cell (p := ⟨g2, off2 + j * 3, none⟩) hgr2).trans q0
       have F1 : Hid (∀ W, Below wr.heap.size wr W → W.cell? ⟨g2, off2 + j * 3 + 1, none⟩ = some (.int .i64 x.2.1)) := fun W hW => (hW.cell (p := ⟨g2, off2 + j * 3 + 1, none⟩) hgr2).trans q1
       obtain ⟨x0, x1, x2⟩ := x
       dsimp only at *
       have W1 := Lib.hid (fun W => refnum6_any x0 W)
       have W2 := Lib.hid (fun W => refnum6_any x1 W)
       have W3 := Lib.hid (fun W => refnum6_any x2 W)
       have HPN2 : Hid (Cr.isNum x0 = true → ∀ y, prevS xs (j + 1) = some y → 0 ≤ y.1 ∧ y.1 ≤ 1099511627776) := fun h y hy => by
        rw [HPO.out] at hy
        injection hy with hy
        subst hy
        exact Wi.isNum_iff.1 h
       generalize Cr.isNum x0 = c1 at *
       generalize Cr.isNum x1 = c2 at *
       generalize Cr.isNum x2 = c3 at *
       clear he2 hx HPN
       go_upto_region 12 with (fail)
       have mx0 := fun y : BelowOf wr => y.cell q0
       have mx1 := fun y : BelowOf wr => y.cell q1
       have mx2 := fun y : BelowOf wr => y.cell q2
       have M1 := Lib.hid (fun y : BelowOf wr => (W1.out y.1).mono (fun e w' (h : _ ∧ _) => (⟨h.1, y, h.2⟩ : _ ∧ ∃ c : BelowOf wr, w' = c.1)))
       have M2 := Lib.hid (fun y : BelowOf wr => (W2.out y.1).mono (fun e w' (h : _ ∧ _) => (⟨h.1, y, h.2⟩ : _ ∧ ∃ c : BelowOf wr, w' = c.1)))
       have M3 := Lib.hid (fun y : BelowOf wr => (W3.out y.1).mono (fun e w' (h : _ ∧ _) => (⟨h.1, y, h.2⟩ : _ ∧ ∃ c : BelowOf wr, w' = c.1)))
       have HNO : Hid ((c1 && (c2 && (c3 && decide (x1 < x2)))) = false → Wi.rowB none xs = false) := fun h => by
        rw [HR.out, HS.out, h, Bool.false_and]
       have HYE : Hid ((c1 && (c2 && (c3 && decide (x1 < x2)))) = true → c1 = true ∧ Wi.rowB none xs = (Wi.nextB (prevS xs j) (x0, x1, x2) && Wi.rowB (prevS xs (j + 1)) (xs.drop (j + 1)))) := fun h => by
        rw [HR.out, HS.out, h, Bool.true_and, HPO.out]
        refine ⟨?_, rfl⟩
        revert h
        cases c1 <;> simp
       obtain ⟨r1, hr1⟩ : ∃ r, r = (c1 && (c2 && (c3 && decide (x1 < x2)))) := ⟨_, rfl⟩
       rw [← hr1] at HNO HYE
       have HR1 := Lib.hid hr1
       clear hr1 HS HPO HR q0 q1 q2
       go_cut [98] (fun t wz => t = .bool (!r1) ∧ Below wr.heap.size wr wz)
       case first =>
        clear HNO HYE VQ HZ HO HT HX0 hprev F0 F1 HPN2
        cases c1 with
        | false =>
         refine wp_region_below (by kernel_rfl) (by kernel_rfl) ?_
         repeat (go_big_quiet_step (fail))
         go_big_quiet_step ((exact M1.out _))
         repeat (go_big_quiet_step (fail))
         refine wpQuiet_nil ?_
         intro w8 h8
         obtain ⟨⟨w8, hb8⟩, rfl⟩ := h8
         have B8 := Lib.hid hb8
         clear hb8
         go_wp2
         go_meet
         case rel => exact ⟨by rw [HR1.out]; first | rfl | simp, B8.out⟩
        | true =>
         cases c2 with
         | false =>
          refine wp_region_below (by kernel_rfl) (by kernel_rfl) ?_
          repeat (go_big_quiet_step (fail))
          go_big_quiet_step ((exact M1.out _))
          repeat (go_big_quiet_step (fail))
          go_big_quiet_step ((exact M2.out _))
          repeat (go_big_quiet_step (fail))
          refine wpQuiet_nil ?_
          intro w8 h8
          obtain ⟨⟨w8, hb8⟩, rfl⟩ := h8
          have B8 := Lib.hid hb8
          clear hb8
          go_wp2
          go_meet
          case rel => exact ⟨by rw [HR1.out]; first | rfl | simp, B8.out⟩
         | true =>
          cases c3 with
          | false =>
           refine wp_region_below (by kernel_rfl) (by kernel_rfl) ?_
           repeat (go_big_quiet_step (fail))
           go_big_quiet_step ((exact M1.out _))
           repeat (go_big_quiet_step (fail))
           go_big_quiet_step ((exact M2.out _))
           repeat (go_big_quiet_step (fail))
           go_big_quiet_step ((exact M3.out _))
           repeat (go_big_quiet_step (fail))
           refine wpQuiet_nil ?_
           intro w8 h8
           obtain ⟨⟨w8, hb8⟩, rfl⟩ := h8
           have B8 := Lib.hid hb8
           clear hb8
           go_wp2
           go_meet
           case rel => exact ⟨by rw [HR1.out]; first | rfl | simp, B8.out⟩
          | true =>
           by_cases h4 : x1 < x2
           ·have h4n : ¬ (x2 ≤ x1) := by omega
            rw [decide_eq_true h4] at HR1
            refine wp_region_below (by kernel_rfl) (by kernel_rfl) ?_
            repeat (go_big_quiet_step (fail))
            go_big_quiet_step ((exact M1.out _))
            repeat (go_big_quiet_step (fail))
            go_big_quiet_step ((exact M2.out _))
            repeat (go_big_quiet_step (fail))
            go_big_quiet_step ((exact M3.out _))
            repeat (go_big_quiet_step (fail))
            refine wpQuiet_nil ?_
            intro w8 h8
            obtain ⟨⟨w8, hb8⟩, rfl⟩ := h8
            have B8 := Lib.hid hb8
            clear hb8
            go_wp2
            go_meet
            case rel => exact ⟨by rw [HR1.out]; first | rfl | simp, B8.out⟩
           ·have h4n : x2 ≤ x1 := by omega
            rw [decide_eq_false h4] at HR1
            refine wp_region_below (by kernel_rfl) (by kernel_rfl) ?_
            repeat (go_big_quiet_step (fail))
            go_big_quiet_step ((exact M1.out _))
            repeat (go_big_quiet_step (fail))
            go_big_quiet_step ((exact M2.out _))
            repeat (go_big_quiet_step (fail))
            go_big_quiet_step ((exact M3.out _))
            repeat (go_big_quiet_step (fail))
            refine wpQuiet_nil ?_
            intro w8 h8
            obtain ⟨⟨w8, hb8⟩, rfl⟩ := h8
            have B8 := Lib.hid hb8
            clear hb8
            go_wp2
            go_meet
            case rel => exact ⟨by rw [HR1.out]; first | rfl | simp, B8.out⟩
       case rest =>
        obtain ⟨rfl, hwa⟩ := hcut
        generalize wc = wa at *
        have BA := Lib.hid hwa
        have BWA := Lib.hid (bt BW2.out hwa)
        have BQA := Lib.hid (bt BR2.out hwa)
        clear hwa HR1 mx0 mx1 mx2 M1 M2 M3 W1 W2 W3
        cases r1 with
        | false =>
         have HX := Lib.hid (HNO.out rfl)
         clear HNO HYE hprev F0 F1
         go_wp2
         go_ret
         exact ⟨by rw [HT.out, HX0.out, HX.out]; rfl, BWA.out⟩
        | true =>
         obtain ⟨hc1, hye⟩ := HYE.out rfl
         have HX := Lib.hid hye
         have HPN := Lib.hid (HPN2.out hc1)
         clear HNO HYE hc1 hye HPN2
         go_upto_region 14 with (fail)
         have mx0 := fun y : BelowOf wa => F0.out y.1 (bt BA.out y.2)
         have mx1 := fun y : BelowOf wa => F1.out y.1 (bt BA.out y.2)
         obtain ⟨r2, hr2⟩ : ∃ r, r = Wi.nextB (prevS xs j) (x0, x1, x2) := ⟨_, rfl⟩
         rw [← hr2] at HX
         have HR1 := Lib.hid hr2
         clear hr2
         go_cut [129] (fun t wz => t = .bool (!r2) ∧ Below wa.heap.size wa wz)
         case first =>
          clear HX HPN F0 F1 VQ HZ HO HT HX0
          by_cases h0 : j = 0
          ·have hk0' : (j : Int) = 0 := by omega
           have hk0n : ¬ (0 < (j : Int)) := by omega
           have hk0m : ¬ (0 < j) := by omega
           have hk0d : decide (0 < j) = false := decide_eq_false hk0m
           rw [h0, show prevS xs 0 = none from rfl] at HR1
           clear hk0' h0
           have HR1 : Hid (r2 = true) := HR1.out
           refine wp_region_below (by kernel_rfl) (by kernel_rfl) ?_
           repeat (go_big_quiet_step (fail))
           refine wpQuiet_nil ?_
           intro w8 h8
           obtain ⟨⟨w8, hb8⟩, rfl⟩ := h8
           have B8 := Lib.hid hb8
           clear hb8
           go_wp2
           go_meet
           case rel => exact ⟨by rw [HR1.out]; first | rfl | simp, B8.out⟩
          ·have h0i : (0 : Int) < (j : Int) := by omega
           have h0n : 0 < j := by omega
           obtain ⟨y, hpo, hyn, hy0, hy2⟩ := hprev.out h0n
           have mp0 := fun z : BelowOf wa => hy0 z.1 (bt BA.out z.2)
           have mp2 := fun z : BelowOf wa => hy2 z.1 (bt BA.out z.2)
           rw [hpo] at HR1
           have hk0 : (0 : Int) ≤ (j : Int) - 1 := by omega
           have hkl : (j : Int) - 1 < (xs.length : Int) := by omega
           have hkt : ((j : Int) - 1).toNat = j - 1 := by omega
           have HNX : Hid (Wi.nextB (some y) (x0, x1, x2) = (decide (x0 = y.1 + 1) && decide (y.2.2 ≤ x1))) := rfl
           rw [HNX.out] at HR1
           clear hpo hprev hy0 hy2 HNX
           obtain ⟨y0, y1, y2⟩ := y
           dsimp only at *
           have hwr : IntKind.i64.wrap (y0 + 1) = y0 + 1 := by rw [IntKind.wrap_i64]; omega
           by_cases h5 : x0 = y0 + 1
           ·subst h5
            rw [decide_eq_true rfl] at HR1
            by_cases h6 : y2 ≤ x1
            ·have h6n : ¬ (x1 < y2) := by omega
             rw [decide_eq_true h6] at HR1
             refine wp_region_below (by kernel_rfl) (by kernel_rfl) ?_
             repeat (go_big_quiet_step (fail))
             refine wpQuiet_nil ?_
             intro w8 h8
             obtain ⟨⟨w8, hb8⟩, rfl⟩ := h8
             have B8 := Lib.hid hb8
             clear hb8
             go_wp2
             go_meet
             case rel => exact ⟨by rw [HR1.out]; first | rfl | simp, B8.out⟩
            ·have h6n : x1 < y2 := by omega
             rw [decide_eq_false h6] at HR1
             refine wp_region_below (by kernel_rfl) (by kernel_rfl) ?_
             repeat (go_big_quiet_step (fail))
             refine wpQuiet_nil ?_
             intro w8 h8
             obtain ⟨⟨w8, hb8⟩, rfl⟩ := h8
             have B8 := Lib.hid hb8
             clear hb8
             go_wp2
             go_meet
             case rel => exact ⟨by rw [HR1.out]; first | rfl | simp, B8.out⟩
           ·have h5n : (x0 == y0 + 1) = false := beq_eq_false_iff_ne.2 h5
            have h5b : (x0 != y0 + 1) = true := by simp [h5]
            have h5c : decide (x0 = y0 + 1) = false := decide_eq_false h5
            rw [decide_eq_false h5] at HR1
            have HR1 : Hid (r2 = false) := HR1.out
            refine wp_region_below (by kernel_rfl) (by kernel_rfl) ?_
            repeat (go_big_quiet_step (fail))
            refine wpQuiet_nil ?_
            intro w8 h8
            obtain ⟨⟨w8, hb8⟩, rfl⟩ := h8
            have B8 := Lib.hid hb8
            clear hb8
            go_wp2
            go_meet
            case rel => exact ⟨by rw [HR1.out]; first | rfl | simp, B8.out⟩
         case rest =>
          obtain ⟨rfl, hwd⟩ := hcut
          generalize wc = wd at *
          have BWD := Lib.hid (bt BWA.out hwd)
          have BQD := Lib.hid (bt BQA.out hwd)
          clear hwd HR1 mx0 mx1 F0 F1 hprev
          cases r2 with
          | false =>
           go_wp2
           go_ret
           exact ⟨by rw [HT.out, HX0.out, HX.out]; rfl, BWD.out⟩
          | true =>
           have HX1 : Hid (Wi.rowB none xs = Wi.rowB (prevS xs (j + 1)) (xs.drop (j + 1))) := by rw [Hid, HX.out]; rfl
           clear HX
           go_wp2
           go_roundw
           case rel => exact ⟨j + 1, by go_num, by omega, HX1.out, HPN.out, BQD.out⟩
           case measure => simp [intOf]; omega
      ·obtain rfl : j = xs.length := by omega
       have HX : Hid (Wi.seensB none l = Wi.seensB (prevP l (k + 1)) (l.drop (k + 1))) := by rw [Hid, HX0.out, HR.out, List.drop_length]; rfl
       clear HR HX0
       go_wp2
       go_roundw
       case rel => exact ⟨k + 1, by go_num, by omega, HX.out, BW2.out⟩
       case measure => simp [intOf]; omega
  ·obtain rfl : k = l.length := by omega
   have HX : Hid (Wi.seensB none l = true) := by rw [Hid, HR.out, List.drop_length]; rfl
   go_wp2
   go_ret
   exact ⟨by rw [HT.out, HX.out]; rfl, BR.out⟩
end Go.Proofs.YtjfpbeccpcbpcaaGreatDoor
namespace Go.Proofs.YtjfpbeccpcbpcaaGreatDoor
open Go.RowKit
set_option maxRecDepth 20000 in
set_option maxHeartbeats 12800000 in
theorem refonly_k1 (m : Wi.Msg) (v : MsgV) (w : World) (h : MsgAt w m v) (hk : m.kind = 1) :
  Calls Tryz.prog 42 #[msgV m v] w fun e w' => e = .returned (msgV (Wi.only m) (onlyV m v)) ∧ Below w.heap.size w w' := by
 obtain ⟨s0, c0, hh0⟩ := h.chain.form
 obtain ⟨s1, c1, hh1⟩ := h.lives.form
 obtain ⟨s2, c2, hh2⟩ := h.brecs.form
 obtain ⟨s3, c3, hh3⟩ := h.table.form
 obtain ⟨s4, c4, hh4⟩ := h.qrecs.form
 obtain ⟨s5, c5, hh5⟩ := h.parts.form
 obtain ⟨s6, c6, hh6⟩ := h.arecs.form
 obtain ⟨v0, v1, v2, v3, v4, v5, v6⟩ := v
 dsimp only at hh0 hh1 hh2 hh3 hh4 hh5 hh6
 subst hh0 hh1 hh2 hh3 hh4 hh5 hh6
 obtain ⟨x_kind, x_frm, x_to, x_part, x_ep, x_off, x_high, x_life, x_pep, x_chain, x_learner, x_lives, x_batch, x_table, x_req, x_resp⟩ := m
 dsimp only at *
 clear h
 subst hk
 obtain ⟨L, hL⟩ : ∃ L, L = msgC (Wi.only ⟨1, x_frm, x_to, x_part, x_ep, x_off, x_high, x_life, x_pep, x_chain, x_learner, x_lives, x_batch, x_table, x_req, x_resp⟩) (onlyV ⟨1, x_frm, x_to, x_part, x_ep, x_off, x_high, x_life, x_pep, x_chain, x_learner, x_lives, x_batch, x_table, x_req, x_resp⟩ ⟨.slice s0 x_chain.length c0, .slice s1 x_lives.length c1, .slice s2 x_batch.recs.length c2, .slice s3 x_table.length c3, .slice s4 x_req.recs.length c4, .slice s5 x_resp.parts.length c5, .slice s6 x_resp.recs.length c6⟩) := ⟨_, rfl⟩
 have HLV : Hid (msgV (Wi.only ⟨1, x_frm, x_to, x_part, x_ep, x_off, x_high, x_life, x_pep, x_chain, x_learner, x_lives, x_batch, x_table, x_req, x_resp⟩) (onlyV ⟨1, x_frm, x_to, x_part, x_ep, x_off, x_high, x_life, x_pep, x_chain, x_learner, x_lives, x_batch, x_table, x_req, x_resp⟩ ⟨.slice s0 x_chain.length c0, .slice s1 x_lives.length c1, .slice s2 x_batch.recs.length c2, .slice s3 x_table.length c3, .slice s4 x_req.recs.length c4, .slice s5 x_resp.parts.length c5, .slice s6 x_resp.recs.length c6⟩) = .agg L.toArray) := by rw [Hid, hL, msgV]
 rw [HLV.out]
 have HL0 := Lib.hid hL
 have HL38 : Hid ((Tryz.prog.info? 36).map (·.size) = some L.length) := by rw [Hid, hL, show ∀ a b, (msgC a b).length = 38 from fun _ _ => rfl]; kernel_rfl
 have HL39 : Hid ((Tryz.prog.info? 36).map (·.size) = some (L.toArray : Array Value).size) := by rw [Hid, List.size_toArray, hL, show ∀ a b, (msgC a b).length = 38 from fun _ _ => rfl]; kernel_rfl
 have HLON : Hid ((L.toArray : Array Value).all (·.oneCell') = true) := by rw [Hid, hL]; simp [msgC, onlyV, Value.oneCell']
 have HLSZ : Hid (((zt0).toArray : Array Value).size = (L.toArray : Array Value).size) := by rw [Hid, hL]; rfl
 clear hL HLV
 unfold msgV msgC
 dsimp only
 go_enter Tryz.func42, Tryz.ntmps42
 obtain ⟨w1, hw1, CA, CR, B1⟩ := twoBox (w := w) (.int .i64 1 :: .int .i64 x_frm :: .int .i64 x_to :: .int .i64 x_part :: .int .i64 x_ep :: .int .i64 x_off :: .int .i64 x_high :: .int .i64 x_life :: .int .i64 x_pep :: .slice s0 x_chain.length c0 :: .int .i64 x_learner :: .slice s1 x_lives.length c1 :: .int .i64 x_batch.base :: .int .i64 x_batch.count :: .int .i64 x_batch.prod :: .int .i64 x_batch.seq :: .int .i64 x_batch.time :: .slice s2 x_batch.recs.length c2 :: .slice s3 x_table.length c3 :: .int .i64 x_req.client :: .int .i64 x_req.n :: .int .i64 x_req.kind :: .int .i64 x_req.part :: .int .i64 x_req.seq :: .int .i64 x_req.off :: .int .i64 x_req.max :: .int .i64 x_req.gen :: .string ⟨x_req.group.toArray⟩ :: .string ⟨x_req.member.toArray⟩ :: .slice s4 x_req.recs.length c4 :: .int .i64 x_resp.client :: .int .i64 x_resp.n :: .int .i64 x_resp.code :: .int .i64 x_resp.off :: .int .i64 x_resp.high :: .int .i64 x_resp.gen :: .slice s5 x_resp.parts.length c5 :: .slice s6 x_resp.recs.length c6 :: []) (zt0) 36
 go_upto_region 1 with (fail)
 first | rw [hw1] | skip
 clear hw1
 have hs1 : w.heap.size + 2 ≤ w1.heap.size := by have := CR.out.lt; omega
 have hsw : w.heap.size + 1 ≠ w1.heap.size := by omega
 have hsw2 : w.heap.size ≤ w1.heap.size := by omega
 obtain ⟨pr, hpr⟩ : ∃ pr, pr = w.heap.size + 1 := ⟨_, rfl⟩
 rw [← hpr] at CR hsw ⊢
 obtain ⟨pa, hpa⟩ : ∃ pa, pa = w.heap.size := ⟨_, rfl⟩
 rw [← hpa] at CA
 first | rw [← hpa] | skip
 have HPA := Lib.hid hpa
 have hprw : w.heap.size ≤ pr := by omega
 clear hpr hs1 hpa
 have a0 := CA.out.cell 0
 have a1 := CA.out.cell 1
 have a2 := CA.out.cell 2
 simp only [List.getElem?_cons_zero, List.getElem?_cons_succ] at a0 a1 a2
 have HZC : Hid ((w1.alloc (.cells (zt0).toArray 36)).heap[w1.heap.size]? = some (.cells (zt0).toArray 36 (0, 0))) := Cl.new w1 (zt0) _
 have CO : Hid (Cl ((w1.alloc (.cells (zt0).toArray 36)).setRow w1.heap.size (.int .i64 1 :: .int .i64 x_frm :: .int .i64 x_to :: zt3).toArray) w1.heap.size (.int .i64 1 :: .int .i64 x_frm :: .int .i64 x_to :: zt3) 36) := Cl.row (Cl.new w1 (zt0) _) _
 have b2 : Hid (Below w1.heap.size w1 ((w1.alloc (.cells (zt0).toArray 36)).setRow w1.heap.size (.int .i64 1 :: .int .i64 x_frm :: .int .i64 x_to :: zt3).toArray)) := ((Below.refl _ _).alloc (Nat.le_refl _) _).trans ((Keeps.row (S := fun j => j = w1.heap.size) _ w1.heap.size _ rfl).toBelow (by simp) (fun k hk e => by omega))
 have HI38 := Lib.hid (show (Tryz.prog.info? 36).map (·.size) = some ((.int .i64 1 :: .int .i64 x_frm :: .int .i64 x_to :: zt3).toArray : Array Value).size by kernel_rfl)
 have HONE : Hid (((.int .i64 1 :: .int .i64 x_frm :: .int .i64 x_to :: zt3).toArray : Array Value).all (·.oneCell') = true) := by simp [Hid, Value.oneCell']
 have HSZ : Hid (((zt0).toArray : Array Value).size = ((.int .i64 1 :: .int .i64 x_frm :: .int .i64 x_to :: zt3).toArray : Array Value).size) := rfl
 go_upto_region 2 with (refine wpList_store_row (by rfl) _ _ _ (by rfl) w1.heap.size (.int .i64 1 :: .int .i64 x_frm :: .int .i64 x_to :: zt3).toArray (by rfl) (by rfl) 36 _ HZC.out HI38.out HSZ.out HONE.out ?_)
 generalize (w1.alloc (.cells (zt0).toArray 36)).setRow w1.heap.size (.int .i64 1 :: .int .i64 x_frm :: .int .i64 x_to :: zt3).toArray = w2 at *
 clear HZC HI38 HONE HSZ a0 a1 a2
 have hpo : ¬ pr = w1.heap.size := hsw
 have hpo2 : ¬ pa = w1.heap.size := by have := CA.out.lt; omega
 have CA2 := Lib.hid (CA.out.below b2.out)
 have CR2 := Lib.hid (CR.out.below b2.out)
 have B2 := Lib.hid (bt B1.out b2.out)
 generalize w1.heap.size = po at *
 clear CA CR B1 b2 hsw
 have a0 := CA2.out.cell 0
 simp only [List.getElem?_cons_zero, List.getElem?_cons_succ] at a0
 go_upto_if 13 with (fail)
 go_cut [] (fun wz => Cl wz po (.int .i64 1 :: .int .i64 x_frm :: .int .i64 x_to :: zt3) 36 ∧ Keeps (fun j => j = po) w2 wz)
 case first =>
  have K9 := Keeps.refl (fun j => j = po) w2
  go_wp2
  go_meet
  case rel => exact ⟨CO.out, K9⟩
 case rest =>
  obtain ⟨hC3, hK3⟩ := hcut
  generalize wc = w3 at *
  have CO3 := Lib.hid hC3
  have CA3 := Lib.hid (Cl.keep CA2.out hK3 hpo2)
  have CR3 := Lib.hid (Cl.keep CR2.out hK3 hpo)
  have B3 : Hid (Below w.heap.size w w3) := B2.out.trans (hK3.toBelow B2.out.size (fun k hk e => by omega))
  clear hC3 hK3 CA2 CR2 B2 CO a0
  have a0 := CA3.out.cell 0
  simp only [List.getElem?_cons_zero, List.getElem?_cons_succ] at a0
  go_upto_block 0 with (fail)
  go_cut [] (fun wz => Cl wz po L 36 ∧ Cl wz pr (zt0) 36 ∧ Below w.heap.size w wz)
  case first =>
   clear a0 HL38 HL39 HLON HLSZ
   have HL : Hid (L = (.int .i64 1 :: .int .i64 x_frm :: .int .i64 x_to :: .int .i64 0 :: .int .i64 0 :: .int .i64 0 :: .int .i64 0 :: .int .i64 0 :: .int .i64 0 :: .slice none 0 0 :: .int .i64 0 :: .slice none 0 0 :: .int .i64 0 :: .int .i64 0 :: .int .i64 0 :: .int .i64 0 :: .int .i64 0 :: .slice none 0 0 :: .slice none 0 0 :: .int .i64 x_req.client :: .int .i64 x_req.n :: .int .i64 x_req.kind :: .int .i64 x_req.part :: .int .i64 x_req.seq :: .int .i64 x_req.off :: .int .i64 x_req.max :: .int .i64 x_req.gen :: .string ⟨x_req.group.toArray⟩ :: .string ⟨x_req.member.toArray⟩ :: .slice s4 x_req.recs.length c4 :: zt30)) := by
    rw [Hid, HL0.out]
    rfl
   clear HL0
   have CO := Lib.hid CO3.out
   have a19 := CA3.out.cell 19
   have o19 := CO.out.cell 19
   have f19 := CO.out.free 19
   have a20 := CA3.out.cell 20
   have o20 := CO.out.cell 20
   have f20 := CO.out.free 20
   have a21 := CA3.out.cell 21
   have o21 := CO.out.cell 21
   have f21 := CO.out.free 21
   have a22 := CA3.out.cell 22
   have o22 := CO.out.cell 22
   have f22 := CO.out.free 22
   have a23 := CA3.out.cell 23
   have o23 := CO.out.cell 23
   have f23 := CO.out.free 23
   have a24 := CA3.out.cell 24
   have o24 := CO.out.cell 24
   have f24 := CO.out.free 24
   have a25 := CA3.out.cell 25
   have o25 := CO.out.cell 25
   have f25 := CO.out.free 25
   have a26 := CA3.out.cell 26
   have o26 := CO.out.cell 26
   have f26 := CO.out.free 26
   have a27 := CA3.out.cell 27
   have o27 := CO.out.cell 27
   have f27 := CO.out.free 27
   have a28 := CA3.out.cell 28
   have o28 := CO.out.cell 28
   have f28 := CO.out.free 28
   have a29 := CA3.out.cell 29
   have o29 := CO.out.cell 29
   have f29 := CO.out.free 29
   simp only [List.getElem?_cons_zero, List.getElem?_cons_succ] at a19 o19 a20 o20 a21 o21 a22 o22 a23 o23 a24 o24 a25 o25 a26 o26 a27 o27 a28 o28 a29 o29
   obtain ⟨w9, hw9, C9, K9⟩ : ∃ w9, (((((((((((w3.setCell ⟨po, 19, none⟩ (.int .i64 x_req.client)).setCell ⟨po, 20, none⟩ (.int .i64 x_req.n)).setCell ⟨po, 21, none⟩ (.int .i64 x_req.kind)).setCell ⟨po, 22, none⟩ (.int .i64 x_req.part)).setCell ⟨po, 23, none⟩ (.int .i64 x_req.seq)).setCell ⟨po, 24, none⟩ (.int .i64 x_req.off)).setCell ⟨po, 25, none⟩ (.int .i64 x_req.max)).setCell ⟨po, 26, none⟩ (.int .i64 x_req.gen)).setCell ⟨po, 27, none⟩ (.string ⟨x_req.group.toArray⟩)).setCell ⟨po, 28, none⟩ (.string ⟨x_req.member.toArray⟩)).setCell ⟨po, 29, none⟩ (.slice s4 x_req.recs.length c4)) = w9 ∧ Hid (Cl w9 po (.int .i64 1 :: .int .i64 x_frm :: .int .i64 x_to :: .int .i64 0 :: .int .i64 0 :: .int .i64 0 :: .int .i64 0 :: .int .i64 0 :: .int .i64 0 :: .slice none 0 0 :: .int .i64 0 :: .slice none 0 0 :: .int .i64 0 :: .int .i64 0 :: .int .i64 0 :: .int .i64 0 :: .int .i64 0 :: .slice none 0 0 :: .slice none 0 0 :: .int .i64 x_req.client :: .int .i64 x_req.n :: .int .i64 x_req.kind :: .int .i64 x_req.part :: .int .i64 x_req.seq :: .int .i64 x_req.off :: .int .i64 x_req.max :: .int .i64 x_req.gen :: .string ⟨x_req.group.toArray⟩ :: .string ⟨x_req.member.toArray⟩ :: .slice s4 x_req.recs.length c4 :: zt30) 36) ∧ Hid (Keeps (fun j => j = po) w3 w9) :=
    ⟨_, rfl, (Cl.set (Cl.set (Cl.set (Cl.set (Cl.set (Cl.set (Cl.set (Cl.set (Cl.set (Cl.set (Cl.set CO.out 19 (.int .i64 x_req.client)) 20 (.int .i64 x_req.n)) 21 (.int .i64 x_req.kind)) 22 (.int .i64 x_req.part)) 23 (.int .i64 x_req.seq)) 24 (.int .i64 x_req.off)) 25 (.int .i64 x_req.max)) 26 (.int .i64 x_req.gen)) 27 (.string ⟨x_req.group.toArray⟩)) 28 (.string ⟨x_req.member.toArray⟩)) 29 (.slice s4 x_req.recs.length c4)), ((((((((((((Keeps.refl (fun j => j = po) w3).trans (Keeps.setCell (fun j => j = po) _ ⟨po, 19, none⟩ (.int .i64 x_req.client) rfl)).trans (Keeps.setCell (fun j => j = po) _ ⟨po, 20, none⟩ (.int .i64 x_req.n) rfl)).trans (Keeps.setCell (fun j => j = po) _ ⟨po, 21, none⟩ (.int .i64 x_req.kind) rfl)).trans (Keeps.setCell (fun j => j = po) _ ⟨po, 22, none⟩ (.int .i64 x_req.part) rfl)).trans (Keeps.setCell (fun j => j = po) _ ⟨po, 23, none⟩ (.int .i64 x_req.seq) rfl)).trans (Keeps.setCell (fun j => j = po) _ ⟨po, 24, none⟩ (.int .i64 x_req.off) rfl)).trans (Keeps.setCell (fun j => j = po) _ ⟨po, 25, none⟩ (.int .i64 x_req.max) rfl)).trans (Keeps.setCell (fun j => j = po) _ ⟨po, 26, none⟩ (.int .i64 x_req.gen) rfl)).trans (Keeps.setCell (fun j => j = po) _ ⟨po, 27, none⟩ (.string ⟨x_req.group.toArray⟩) rfl)).trans (Keeps.setCell (fun j => j = po) _ ⟨po, 28, none⟩ (.string ⟨x_req.member.toArray⟩) rfl)).trans (Keeps.setCell (fun j => j = po) _ ⟨po, 29, none⟩ (.slice s4 x_req.recs.length c4) rfl))⟩
   clear CO CO3
   have a0 := CA3.out.cell 0
   simp only [List.getElem?_cons_zero] at a0
   go_wp2
   first | rw [hw9] | skip
   go_meet
   case rel => exact ⟨by rw [HL.out]; exact C9.out, Cl.keep CR3.out K9.out hpo, B3.out.trans (K9.out.toBelow B3.out.size (fun k hk e => by omega))⟩
  case rest =>
   obtain ⟨hC4, hR4, hB4⟩ := hcut
   generalize wc = w4 at *
   have CP := Lib.hid hC4
   have CQ := Lib.hid hR4
   have B4 := Lib.hid hB4
   clear hC4 hR4 hB4 HL0 CO3 CA3 CR3 B3 a0
   have hpr : pr ≠ po := hpo
   have C9 : Hid (Cl (w4.setRow pr L.toArray) pr L 36) := by
    have := CQ.out.row L.toArray
    rwa [List.toList_toArray] at this
   have K9 : Hid (Keeps (fun j => j = pr) w4 (w4.setRow pr L.toArray)) := Keeps.row _ _ _ rfl
   have R4 := Lib.hid CP.out.range
   have HU := Lib.hid Tryz.underlying36
   go_wp2_with (first
    | (refine wpList_load_mid (by rfl) _ _ (by rfl) po 0 (by rfl) L _ R4.out HU.out (by rfl) HL38.out ?_)
    | (refine wpList_store_row (by rfl) _ _ _ (by rfl) pr L.toArray (by rfl) (by rfl) 36 _ CQ.out HL39.out HLSZ.out HLON.out ?_))
   have BF : Below w.heap.size w (w4.setRow pr L.toArray) := B4.out.trans (K9.out.toBelow B4.out.size (fun k hk e => by omega))
   refine bodyPost_ret (results_cl rfl _ _ _ _ _ _ rfl C9.out Tryz.underlying36 rfl HL38.out) rfl ?_
   exact ⟨rfl, BF⟩
end Go.Proofs.YtjfpbeccpcbpcaaGreatDoor
