/-
  Wj: texts of one proof, one behind the other.
  Conditions: none of its own.
-/
import Derived.Test.YtjfpbeccpcbpcaaGreatDoorZao
set_option linter.unusedVariables false
set_option linter.unusedSimpArgs false
namespace Go.Proofs.YtjfpbeccpcbpcaaGreatDoor
open Go.RowKit
theorem lnum_any (n : Int) (w : World) : Calls Tryz.prog 132 #[.int .i64 n] w fun e w' => e = .returned (.bool (Cr.isNum n)) ∧ w' = w := by
 by_cases h0 : 0 ≤ n
 ·by_cases h1 : n ≤ 1099511627776
  ·have HE : Hid (Cr.isNum n = true) := by simp [Hid, Cr.isNum, h0, h1]
   go_enter Tryz.func132, Tryz.ntmps132
   go_wp2
   go_ret
   exact ⟨by rw [HE.out]; first | rfl | (simp; omega), rfl⟩
  ·have HE : Hid (Cr.isNum n = false) := by simp [Hid, Cr.isNum, h1]
   go_enter Tryz.func132, Tryz.ntmps132
   go_wp2
   go_ret
   exact ⟨by rw [HE.out]; first | rfl | (simp; omega), rfl⟩
 ·have HE : Hid (Cr.isNum n = false) := by simp [Hid, Cr.isNum, h0]
  go_enter Tryz.func132, Tryz.ntmps132
  go_wp2
  go_ret
  exact ⟨by rw [HE.out]; first | rfl | (simp; omega), rfl⟩
theorem Rw.getS {w wr : World} {v : Value} {l : List Wi.Slot} (h : Rw 3 slotC w v l) (hb : Below w.heap.size w wr) {k : Nat} {x : Wi.Slot} (hx : l[k]? = some x) :
  ∃ g off cap, v = .slice (some ⟨g, off, none⟩) l.length cap ∧ g < w.heap.size ∧ wr.cell? ⟨g, off + k * 3, none⟩ = some (.int .i64 x.1) ∧ wr.cell? ⟨g, off + k * 3 + 1, none⟩ = some (.int .i64 x.2.1) ∧ wr.cell? ⟨g, off + k * 3 + 2, none⟩ = some (.int .i64 x.2.2) := by
 obtain ⟨a, cap, rfl, hc⟩ := h
 obtain ⟨g, off, rfl, hg, hr⟩ := hc k x hx
 exact ⟨g, off, cap, rfl, hg, (hb.cell (p := ⟨g, off + k * 3, none⟩) hg).trans (hr 0 _ rfl), (hb.cell (p := ⟨g, off + k * 3 + 1, none⟩) hg).trans (hr 1 _ rfl), (hb.cell (p := ⟨g, off + k * 3 + 2, none⟩) hg).trans (hr 2 _ rfl)⟩
theorem Tbl.getT {w wr : World} {v : Value} {l : List Wi.Seen} (h : Tbl w v l) (hb : Below w.heap.size w wr) {k : Nat} {x : Wi.Seen} (hx : l[k]? = some x) :
  ∃ g off cap sv, v = .slice (some ⟨g, off, none⟩) l.length cap ∧ g < w.heap.size ∧ wr.cell? ⟨g, off + k * 2, none⟩ = some (.int .i64 x.1) ∧ wr.cell? ⟨g, off + k * 2 + 1, none⟩ = some sv ∧ Rw 3 slotC wr sv x.2 := by
 obtain ⟨a, cap, rfl, hc⟩ := h.kept hb
 obtain ⟨g, off, sv, rfl, hg, h0, h1, h2⟩ := hc k x hx
 obtain ⟨a', cap', e, hc'⟩ := h
 obtain ⟨g', off', sv', e', hg', _⟩ := hc' k x hx
 injection e with e1
 rw [e'] at e1
 injection e1 with e1
 injection e1 with e1
 exact ⟨g, off, cap, sv, rfl, e1 ▸ hg', h0, h1, h2⟩
def prevS (l : List Wi.Slot) : Nat → Option Wi.Slot
 | 0 => none
 | k + 1 => l[k]?
theorem prevS_succ {l : List Wi.Slot} {k : Nat} {x : Wi.Slot} (h : l[k]? = some x) : prevS l (k + 1) = some x := h
theorem row_step {l : List Wi.Slot} {k : Nat} {x : Wi.Slot} (hx : l[k]? = some x) (p : Option Wi.Slot) : Wi.rowB p (l.drop k) = ((Cr.isNum x.1 && (Cr.isNum x.2.1 && (Cr.isNum x.2.2 && decide (x.2.1 < x.2.2)))) && (Wi.nextB p x && Wi.rowB (some x) (l.drop (k + 1)))) := by
 obtain ⟨hk, rfl⟩ := List.getElem?_eq_some_iff.1 hx
 rw [List.drop_eq_getElem_cons hk]
 rfl
def prevP (l : List Wi.Seen) : Nat → Option Int
 | 0 => none
 | k + 1 => (l[k]?).map (·.1)
theorem prevP_succ {l : List Wi.Seen} {k : Nat} {x : Wi.Seen} (h : l[k]? = some x) : prevP l (k + 1) = some x.1 := by simp [prevP, h]
theorem tab_step {l : List Wi.Seen} {k : Nat} {x : Wi.Seen} (hx : l[k]? = some x) (p : Option Int) : Wi.seensB p (l.drop k) = (Cr.isNum x.1 && (Wi.aboveB p x.1 && (Wi.slotsB x.2 && Wi.seensB (some x.1) (l.drop (k + 1))))) := by
 obtain ⟨hk, rfl⟩ := List.getElem?_eq_some_iff.1 hx
 rw [List.drop_eq_getElem_cons hk]
 rfl
set_option maxRecDepth 20000 in
set_option maxHeartbeats 12800000 in
theorem lrow_any (l : List Wi.Slot) (hl : l.length ≤ maxLen) (v : Value) (w : World) (h : Rw 3 slotC w v l) :
  Calls Tryz.prog 133 #[v] w fun e w' => e = .returned (.bool (Wi.slotsB l)) ∧ Below w.heap.size w w' := by
 have HZ := Lib.hid h
 obtain ⟨ra, rc, hrv⟩ := h.form
 subst hrv
 unfold maxLen at hl
 clear h
 go_enter Tryz.func133, Tryz.ntmps133
 go_wp2
 go_loopw [7] (fun ti wr => ∃ k : Nat, ti = .int .i64 k ∧ k ≤ l.length ∧ Wi.rowB none l = Wi.rowB (prevS l k) (l.drop k) ∧ (∀ y, prevS l k = some y → 0 ≤ y.1 ∧ y.1 ≤ 1099511627776) ∧ Below w.heap.size w wr) (fun ti _ => l.length - (intOf ti).toNat)
 case atStart => exact ⟨0, rfl, by omega, rfl, (fun y hy => by cases hy), Below.refl _ _⟩
 case round =>
  obtain ⟨k, rfl, hk, hr, hpn, hb⟩ := hrel
  have HR := Lib.hid hr
  have HPN := Lib.hid hpn
  have BR := Lib.hid hb
  clear hr hb hpn
  by_cases hlt : k < l.length
  ·obtain ⟨x, hx⟩ : ∃ x, l[k]? = some x := ⟨l[k], by simp [hlt]⟩
   have HS := Lib.hid (row_step hx (prevS l k))
   have HPO : Hid (prevS l (k + 1) = some x) := prevS_succ hx
   obtain ⟨g, off, cap', he, hg, p0, p1, p2⟩ := HZ.out.getS BR.out hx
   injection he with he1 he2 he3
   subst he1 he3
   have hprev : Hid (0 < k → ∃ y, prevS l k = some y ∧ (0 ≤ y.1 ∧ y.1 ≤ 1099511627776) ∧ wr.cell? ⟨g, off + (k - 1) * 3, none⟩ = some (.int .i64 y.1) ∧ wr.cell? ⟨g, off + (k - 1) * 3 + 2, none⟩ = some (.int .i64 y.2.2)) := fun h0 => by
    obtain ⟨y, hy⟩ : ∃ y, l[k - 1]? = some y := ⟨l[k - 1]'(by omega), List.getElem?_eq_getElem _⟩
    obtain ⟨g', off', cap'', he', _, q0, _, q2⟩ := HZ.out.getS BR.out hy
    injection he' with he1
    injection he1 with he1
    injection he1 with he1 he4
    subst he1 he4
    have hpo : prevS l k = some y := by
     have := prevS_succ hy
     rwa [show k - 1 + 1 = k by omega] at this
    exact ⟨y, hpo, HPN.out y hpo, q0, q2⟩
   obtain ⟨x0, x1, x2⟩ := x
   dsimp only at *
   have W1 := Lib.hid (fun W => lnum_any x0 W)
   have W2 := Lib.hid (fun W => lnum_any x1 W)
   have W3 := Lib.hid (fun W => lnum_any x2 W)
   have HPN2 : Hid (Cr.isNum x0 = true → ∀ y, prevS l (k + 1) = some y → 0 ≤ y.1 ∧ y.1 ≤ 1099511627776) := fun h y hy => by
    rw [HPO.out] at hy
    injection hy with hy
    subst hy
    exact Wi.isNum_iff.1 h
   generalize Cr.isNum x0 = c1 at *
   generalize Cr.isNum x1 = c2 at *
   generalize Cr.isNum x2 = c3 at *
   clear he2
   have CX : Hid (Cl (wr.alloc (.cells #[.int .i64 x0, .int .i64 x1, .int .i64 x2] 113)) wr.heap.size [.int .i64 x0, .int .i64 x1, .int .i64 x2] 113) := Cl.new wr _ _
   have BX : Hid (Below wr.heap.size wr (wr.alloc (.cells #[.int .i64 x0, .int .i64 x1, .int .i64 x2] 113))) := (Below.refl _ _).alloc (Nat.le_refl _) _
   go_upto_region 4 with (fail)
   generalize wr.alloc (.cells #[.int .i64 x0, .int .i64 x1, .int .i64 x2] 113) = wl at *
   have BL : Hid (Below w.heap.size w wl) := bt BR.out BX.out
   have hgl : g < wr.heap.size := Nat.lt_of_lt_of_le hg BR.out.size
   have mx0 := fun y : BelowOf wl => y.cell (show wl.cell? ⟨wr.heap.size, 0, none⟩ = some (.int .i64 x0) from CX.out.cell 0)
   have mx1 := fun y : BelowOf wl => y.cell (show wl.cell? ⟨wr.heap.size, 1, none⟩ = some (.int .i64 x1) from CX.out.cell 1)
   have mx2 := fun y : BelowOf wl => y.cell (show wl.cell? ⟨wr.heap.size, 2, none⟩ = some (.int .i64 x2) from CX.out.cell 2)
   have M1 := Lib.hid (fun y : BelowOf wl => (W1.out y.1).mono (fun e w' (h : _ ∧ _) => (⟨h.1, y, h.2⟩ : _ ∧ ∃ c : BelowOf wl, w' = c.1)))
   have M2 := Lib.hid (fun y : BelowOf wl => (W2.out y.1).mono (fun e w' (h : _ ∧ _) => (⟨h.1, y, h.2⟩ : _ ∧ ∃ c : BelowOf wl, w' = c.1)))
   have M3 := Lib.hid (fun y : BelowOf wl => (W3.out y.1).mono (fun e w' (h : _ ∧ _) => (⟨h.1, y, h.2⟩ : _ ∧ ∃ c : BelowOf wl, w' = c.1)))
   have BXL : Hid (Below wr.heap.size wr wl) := BX.out
   generalize wr.heap.size = px at CX mx0 mx1 mx2 ⊢
   clear CX BX p0 p1 p2 HPN
   cases c1 with
   | false =>
    have HX : Hid (Wi.rowB none l = false) := by rw [Hid, HR.out, HS.out]; rfl
    clear HS HR HPO
    refine wp_region_below (by kernel_rfl) (by kernel_rfl) ?_
    repeat (go_big_quiet_step (fail))
    go_big_quiet_step ((exact M1.out _))
    repeat (go_big_quiet_step (fail))
    refine wpQuiet_nil ?_
    intro w8 h8
    obtain ⟨⟨w8, hb8⟩, rfl⟩ := h8
    have B8 := Lib.hid (bt BL.out hb8)
    clear hb8
    go_wp2
    go_ret
    exact ⟨by rw [Wi.slotsB, HX.out]; rfl, B8.out⟩
   | true =>
    have HPN := Lib.hid (HPN2.out rfl)
    cases c2 with
    | false =>
     have HX : Hid (Wi.rowB none l = false) := by rw [Hid, HR.out, HS.out]; rfl
     clear HS HR HPO
     refine wp_region_below (by kernel_rfl) (by kernel_rfl) ?_
     repeat (go_big_quiet_step (fail))
     go_big_quiet_step ((exact M1.out _))
     repeat (go_big_quiet_step (fail))
     go_big_quiet_step ((exact M2.out _))
     repeat (go_big_quiet_step (fail))
     refine wpQuiet_nil ?_
     intro w8 h8
     obtain ⟨⟨w8, hb8⟩, rfl⟩ := h8
     have B8 := Lib.hid (bt BL.out hb8)
     clear hb8
     go_wp2
     go_ret
     exact ⟨by rw [Wi.slotsB, HX.out]; rfl, B8.out⟩
    | true =>
     cases c3 with
     | false =>
      have HX : Hid (Wi.rowB none l = false) := by rw [Hid, HR.out, HS.out]; rfl
      clear HS HR HPO
      refine wp_region_below (by kernel_rfl) (by kernel_rfl) ?_
      repeat (go_big_quiet_step (fail))
      go_big_quiet_step ((exact M1.out _))
      repeat (go_big_quiet_step (fail))
      go_big_quiet_step ((exact M2.out _))
      repeat (go_big_quiet_step (fail))
      go_big_quiet_step ((exact M3.out _))
      repeat (go_big_quiet_step (fail))
      refine wpQuiet_nil ?_
      intro w8 h8
      obtain ⟨⟨w8, hb8⟩, rfl⟩ := h8
      have B8 := Lib.hid (bt BL.out hb8)
      clear hb8
      go_wp2
      go_ret
      exact ⟨by rw [Wi.slotsB, HX.out]; rfl, B8.out⟩
     | true =>
      by_cases h4 : x1 < x2
      ·have h4n : ¬ (x2 ≤ x1) := by omega
       rw [decide_eq_true h4] at HS
       by_cases h0 : k = 0
       ·subst h0
        have HX : Hid (Wi.rowB none l = Wi.rowB (prevS l (0 + 1)) (l.drop (0 + 1))) := by
         rw [Hid, HR.out, HS.out, HPO.out, show prevS l 0 = none from rfl]
         rfl
        clear HS HR HPO
        refine wp_region_below (by kernel_rfl) (by kernel_rfl) ?_
        repeat (go_big_quiet_step (fail))
        go_big_quiet_step ((exact M1.out _))
        repeat (go_big_quiet_step (fail))
        go_big_quiet_step ((exact M2.out _))
        repeat (go_big_quiet_step (fail))
        go_big_quiet_step ((exact M3.out _))
        repeat (go_big_quiet_step (fail))
        refine wpQuiet_nil ?_
        intro w8 h8
        obtain ⟨⟨w8, hb8⟩, rfl⟩ := h8
        have B8 := Lib.hid (bt BL.out hb8)
        clear hb8
        go_wp2
        go_roundw
        case rel => exact ⟨0 + 1, by go_num, by omega, HX.out, HPN.out, B8.out⟩
        case measure => simp [intOf]; omega
       ·have h0i : (0 : Int) < (k : Int) := by omega
        have h0n : 0 < k := by omega
        obtain ⟨y, hpo, hyn, hy0, hy2⟩ := hprev.out h0n
        have mp0 := fun z : BelowOf wl => z.cell (show wl.cell? ⟨g, off + (k - 1) * 3, none⟩ = some (.int .i64 y.1) from (BXL.out.cell (p := ⟨g, off + (k - 1) * 3, none⟩) hgl).trans hy0)
        have mp2 := fun z : BelowOf wl => z.cell (show wl.cell? ⟨g, off + (k - 1) * 3 + 2, none⟩ = some (.int .i64 y.2.2) from (BXL.out.cell (p := ⟨g, off + (k - 1) * 3 + 2, none⟩) hgl).trans hy2)
        rw [hpo] at HS HR
        have hk0 : (0 : Int) ≤ (k : Int) - 1 := by omega
        have hkl : (k : Int) - 1 < (l.length : Int) := by omega
        have hkt : ((k : Int) - 1).toNat = k - 1 := by omega
        have HNX : Hid (Wi.nextB (some y) (x0, x1, x2) = (decide (x0 = y.1 + 1) && decide (y.2.2 ≤ x1))) := rfl
        rw [HNX.out] at HS
        clear hpo hprev hy0 hy2 HNX
        obtain ⟨y0, y1, y2⟩ := y
        dsimp only at *
        have hwr : IntKind.i64.wrap (y0 + 1) = y0 + 1 := by rw [IntKind.wrap_i64]; omega
        by_cases h5 : x0 = y0 + 1
        ·subst h5
         by_cases h6 : y2 ≤ x1
         ·have HX : Hid (Wi.rowB none l = Wi.rowB (prevS l (k + 1)) (l.drop (k + 1))) := by
           rw [Hid, HR.out, HS.out, HPO.out, decide_eq_true rfl, decide_eq_true h6]
           rfl
          have h6n : ¬ (x1 < y2) := by omega
          clear HS HR HPO
          refine wp_region_below (by kernel_rfl) (by kernel_rfl) ?_
          repeat (go_big_quiet_step (fail))
          go_big_quiet_step ((exact M1.out _))
          repeat (go_big_quiet_step (fail))
          go_big_quiet_step ((exact M2.out _))
          repeat (go_big_quiet_step (fail))
          go_big_quiet_step ((exact M3.out _))
          repeat (go_big_quiet_step (fail))
          refine wpQuiet_nil ?_
          intro w8 h8
          obtain ⟨⟨w8, hb8⟩, rfl⟩ := h8
          have B8 := Lib.hid (bt BL.out hb8)
          clear hb8
          go_wp2
          go_roundw
          case rel => exact ⟨k + 1, by go_num, by omega, HX.out, HPN.out, B8.out⟩
          case measure => simp [intOf]; omega
         ·have HX : Hid (Wi.rowB none l = false) := by
           rw [Hid, HR.out, HS.out, decide_eq_false h6]
           simp
          have h6n : x1 < y2 := by omega
          clear HS HR HPO
          refine wp_region_below (by kernel_rfl) (by kernel_rfl) ?_
          repeat (go_big_quiet_step (fail))
          go_big_quiet_step ((exact M1.out _))
          repeat (go_big_quiet_step (fail))
          go_big_quiet_step ((exact M2.out _))
          repeat (go_big_quiet_step (fail))
          go_big_quiet_step ((exact M3.out _))
          repeat (go_big_quiet_step (fail))
          refine wpQuiet_nil ?_
          intro w8 h8
          obtain ⟨⟨w8, hb8⟩, rfl⟩ := h8
          have B8 := Lib.hid (bt BL.out hb8)
          clear hb8
          go_wp2
          go_ret
          exact ⟨by rw [Wi.slotsB, HX.out]; rfl, B8.out⟩
        ·have HX : Hid (Wi.rowB none l = false) := by
          rw [Hid, HR.out, HS.out, decide_eq_false h5]
          simp
         have h5n : (x0 == y0 + 1) = false := beq_eq_false_iff_ne.2 h5
         have h5b : (x0 != y0 + 1) = true := by simp [h5]
         have h5c : decide (x0 = y0 + 1) = false := decide_eq_false h5
         clear HS HR HPO
         refine wp_region_below (by kernel_rfl) (by kernel_rfl) ?_
         repeat (go_big_quiet_step (fail))
         go_big_quiet_step ((exact M1.out _))
         repeat (go_big_quiet_step (fail))
         go_big_quiet_step ((exact M2.out _))
         repeat (go_big_quiet_step (fail))
         go_big_quiet_step ((exact M3.out _))
         repeat (go_big_quiet_step (fail))
         refine wpQuiet_nil ?_
         intro w8 h8
         obtain ⟨⟨w8, hb8⟩, rfl⟩ := h8
         have B8 := Lib.hid (bt BL.out hb8)
         clear hb8
         go_wp2
         go_ret
         exact ⟨by rw [Wi.slotsB, HX.out]; rfl, B8.out⟩
      ·have h4n : x2 ≤ x1 := by omega
       have HX : Hid (Wi.rowB none l = false) := by rw [Hid, HR.out, HS.out, decide_eq_false h4]; rfl
       clear HS HR HPO
       refine wp_region_below (by kernel_rfl) (by kernel_rfl) ?_
       repeat (go_big_quiet_step (fail))
       go_big_quiet_step ((exact M1.out _))
       repeat (go_big_quiet_step (fail))
       go_big_quiet_step ((exact M2.out _))
       repeat (go_big_quiet_step (fail))
       go_big_quiet_step ((exact M3.out _))
       repeat (go_big_quiet_step (fail))
       refine wpQuiet_nil ?_
       intro w8 h8
       obtain ⟨⟨w8, hb8⟩, rfl⟩ := h8
       have B8 := Lib.hid (bt BL.out hb8)
       clear hb8
       go_wp2
       go_ret
       exact ⟨by rw [Wi.slotsB, HX.out]; rfl, B8.out⟩
  ·obtain rfl : k = l.length := by omega
   have HX : Hid (Wi.rowB none l = true) := by rw [Hid, HR.out, List.drop_length]; rfl
   by_cases h1 : 1 ≤ l.length
   ·by_cases h5 : l.length ≤ 5
    ·have HF : Hid (Wi.slotsB l = true) := by rw [Hid, Wi.slotsB, HX.out, decide_eq_true h1, decide_eq_true h5]; rfl
     go_wp2
     go_ret
     exact ⟨by rw [HF.out]; first | rfl | (simp; omega), BR.out⟩
    ·have HF : Hid (Wi.slotsB l = false) := by rw [Hid, Wi.slotsB, HX.out, decide_eq_true h1, decide_eq_false h5]; rfl
     go_wp2
     go_ret
     exact ⟨by rw [HF.out]; first | rfl | (simp; omega), BR.out⟩
   ·have HF : Hid (Wi.slotsB l = false) := by rw [Hid, Wi.slotsB, HX.out, decide_eq_false h1]; rfl
    go_wp2
    go_ret
    exact ⟨by rw [HF.out]; first | rfl | (simp; omega), BR.out⟩
set_option maxRecDepth 20000 in
set_option maxHeartbeats 12800000 in
theorem ltab_any (l : List Wi.Seen) (hl : l.length ≤ maxLen) (ho : ∀ x ∈ l, x.2.length ≤ maxLen ∧ True) (v : Value) (w : World) (h : Tbl w v l) :
  Calls Tryz.prog 98 #[v] w fun e w' => e = .returned (.bool (Wi.tableB l)) ∧ Below w.heap.size w w' := by
 have HZ := Lib.hid h
 have HO := Lib.hid ho
 obtain ⟨ra, rc, hrv⟩ := h.form
 subst hrv
 unfold maxLen at hl
 clear h ho
 go_enter Tryz.func98, Tryz.ntmps98
 go_wp2
 go_loopw [7] (fun ti wr => ∃ k : Nat, ti = .int .i64 k ∧ k ≤ l.length ∧ Wi.seensB none l = Wi.seensB (prevP l k) (l.drop k) ∧ Below w.heap.size w wr) (fun ti _ => l.length - (intOf ti).toNat)
 case atStart => exact ⟨0, rfl, by omega, rfl, Below.refl _ _⟩
 case round =>
  obtain ⟨k, rfl, hk, hr, hb⟩ := hrel
  have HR := Lib.hid hr
  have BR := Lib.hid hb
  clear hr hb
  by_cases hlt : k < l.length
  ·obtain ⟨x, hx⟩ : ∃ x, l[k]? = some x := ⟨l[k], by simp [hlt]⟩
   have HS := Lib.hid (tab_step hx (prevP l k))
   have HPO : Hid (prevP l (k + 1) = some x.1) := prevP_succ hx
   obtain ⟨g, off, cap', sv, he, hg, p0, p1, hsv⟩ := HZ.out.getT BR.out hx
   injection he with he1 he2 he3
   subst he1 he3
   have hprev : Hid (0 < k → ∃ y, prevP l k = some y ∧ wr.cell? ⟨g, off + (k - 1) * 2, none⟩ = some (.int .i64 y)) := fun h0 => by
    obtain ⟨y, hy⟩ : ∃ y, l[k - 1]? = some y := ⟨l[k - 1]'(by omega), List.getElem?_eq_getElem _⟩
    obtain ⟨g', off', cap'', sv', he', _, q0, _⟩ := HZ.out.getT BR.out hy
    injection he' with he1
    injection he1 with he1
    injection he1 with he1 he4
    subst he1 he4
    have hpo : prevP l k = some y.1 := by
     have := prevP_succ hy
     rwa [show k - 1 + 1 = k by omega] at this
    exact ⟨y.1, hpo, q0⟩
   have hsl := (HO.out x (List.mem_of_getElem? hx)).1
   obtain ⟨x0, xs⟩ := x
   dsimp only at *
   have W1 := Lib.hid (fun W => lnum_any x0 W)
   have W2 := Lib.hid (fun (W : World) (hW : Below wr.heap.size wr W) => lrow_any xs hsl sv W (hsv.kept hW))
   obtain ⟨sa, sc, hsf⟩ := hsv.form
   subst hsf
   generalize Cr.isNum x0 = c1 at *
   generalize Wi.slotsB xs = c3 at *
   clear he2 hsv
   have CX : Hid (Cl (wr.alloc (.cells #[.int .i64 x0, .slice sa xs.length sc] 57)) wr.heap.size [.int .i64 x0, .slice sa xs.length sc] 57) := Cl.new wr _ _
   have BX : Hid (Below wr.heap.size wr (wr.alloc (.cells #[.int .i64 x0, .slice sa xs.length sc] 57))) := (Below.refl _ _).alloc (Nat.le_refl _) _
   go_upto_region 4 with (fail)
   generalize wr.alloc (.cells #[.int .i64 x0, .slice sa xs.length sc] 57) = wl at *
   have BL : Hid (Below w.heap.size w wl) := bt BR.out BX.out
   have hgl : g < wr.heap.size := Nat.lt_of_lt_of_le hg BR.out.size
   have mx0 := fun y : BelowOf wl => y.cell (show wl.cell? ⟨wr.heap.size, 0, none⟩ = some (.int .i64 x0) from CX.out.cell 0)
   have mx1 := fun y : BelowOf wl => y.cell (show wl.cell? ⟨wr.heap.size, 1, none⟩ = some (.slice sa xs.length sc) from CX.out.cell 1)
   have M1 := Lib.hid (fun y : BelowOf wl => (W1.out y.1).mono (fun e w' (h : _ ∧ _) => (⟨h.1, y, h.2⟩ : _ ∧ ∃ c : BelowOf wl, w' = c.1)))
   have M2 := Lib.hid (below_class (w := wl) (fun W hW => W2.out W (bt BX.out hW)))
   have BXL : Hid (Below wr.heap.size wr wl) := BX.out
   generalize wr.heap.size = px at CX mx0 mx1 ⊢
   clear CX BX p0 p1
   cases c1 with
   | false =>
    have HX : Hid (Wi.seensB none l = false) := by rw [Hid, HR.out, HS.out]; rfl
    clear HS HR HPO
    refine wp_region_below (by kernel_rfl) (by kernel_rfl) ?_
    repeat (go_big_quiet_step (fail))
    go_big_quiet_step ((exact M1.out _))
    repeat (go_big_quiet_step (fail))
    refine wpQuiet_nil ?_
    intro w8 h8
    obtain ⟨⟨w8, hb8⟩, rfl⟩ := h8
    have B8 := Lib.hid (bt BL.out hb8)
    clear hb8
    go_wp2
    go_ret
    exact ⟨by rw [Wi.tableB, HX.out]; rfl, B8.out⟩
   | true =>
    by_cases h0 : k = 0
    ·subst h0
     rw [show prevP l 0 = none from rfl, show Wi.aboveB none x0 = true from rfl] at HS
     rw [show prevP l 0 = none from rfl] at HR
     cases c3 with
     | false =>
      have HX : Hid (Wi.seensB none l = false) := by rw [Hid, HR.out, HS.out]; rfl
      clear HS HR HPO
      refine wp_region_below (by kernel_rfl) (by kernel_rfl) ?_
      repeat (go_big_quiet_step (fail))
      go_big_quiet_step ((exact M1.out _))
      repeat (go_big_quiet_step (fail))
      go_big_quiet_step ((exact M2.out _))
      repeat (go_big_quiet_step (fail))
      refine wpQuiet_nil ?_
      intro w8 h8
      obtain ⟨⟨w8, hb8⟩, rfl⟩ := h8
      have B8 := Lib.hid (bt BL.out hb8)
      clear hb8
      go_wp2
      go_ret
      exact ⟨by rw [Wi.tableB, HX.out]; rfl, B8.out⟩
     | true =>
      have HX : Hid (Wi.seensB none l = Wi.seensB (prevP l (0 + 1)) (l.drop (0 + 1))) := by
       rw [Hid, HR.out, HS.out, HPO.out]
       rfl
      clear HS HR HPO
      refine wp_region_below (by kernel_rfl) (by kernel_rfl) ?_
      repeat (go_big_quiet_step (fail))
      go_big_quiet_step ((exact M1.out _))
      repeat (go_big_quiet_step (fail))
      go_big_quiet_step ((exact M2.out _))
      repeat (go_big_quiet_step (fail))
      refine wpQuiet_nil ?_
      intro w8 h8
      obtain ⟨⟨w8, hb8⟩, rfl⟩ := h8
      have B8 := Lib.hid (bt BL.out hb8)
      clear hb8
      go_wp2
      go_roundw
      case rel => exact ⟨0 + 1, by go_num, by omega, HX.out, B8.out⟩
      case measure => simp [intOf]; omega
    ·have h0i : (0 : Int) < (k : Int) := by omega
     have h0n : 0 < k := by omega
     obtain ⟨y, hpo, hy0⟩ := hprev.out h0n
     have mp0 := fun z : BelowOf wl => z.cell (show wl.cell? ⟨g, off + (k - 1) * 2, none⟩ = some (.int .i64 y) from (BXL.out.cell (p := ⟨g, off + (k - 1) * 2, none⟩) hgl).trans hy0)
     rw [hpo] at HS HR
     have hk0 : (0 : Int) ≤ (k : Int) - 1 := by omega
     have hkl : (k : Int) - 1 < (l.length : Int) := by omega
     have hkt : ((k : Int) - 1).toNat = k - 1 := by omega
     have HNX : Hid (Wi.aboveB (some y) x0 = decide (y < x0)) := rfl
     rw [HNX.out] at HS
     clear hpo hprev hy0 HNX
     by_cases h5 : y < x0
     ·have h5n : ¬ (x0 ≤ y) := by omega
      rw [decide_eq_true h5] at HS
      cases c3 with
      | false =>
       have HX : Hid (Wi.seensB none l = false) := by rw [Hid, HR.out, HS.out]; rfl
       clear HS HR HPO
       refine wp_region_below (by kernel_rfl) (by kernel_rfl) ?_
       repeat (go_big_quiet_step (fail))
       go_big_quiet_step ((exact M1.out _))
       repeat (go_big_quiet_step (fail))
       go_big_quiet_step ((exact M2.out _))
       repeat (go_big_quiet_step (fail))
       refine wpQuiet_nil ?_
       intro w8 h8
       obtain ⟨⟨w8, hb8⟩, rfl⟩ := h8
       have B8 := Lib.hid (bt BL.out hb8)
       clear hb8
       go_wp2
       go_ret
       exact ⟨by rw [Wi.tableB, HX.out]; rfl, B8.out⟩
      | true =>
       have HX : Hid (Wi.seensB none l = Wi.seensB (prevP l (k + 1)) (l.drop (k + 1))) := by
        rw [Hid, HR.out, HS.out, HPO.out]
        rfl
       clear HS HR HPO
       refine wp_region_below (by kernel_rfl) (by kernel_rfl) ?_
       repeat (go_big_quiet_step (fail))
       go_big_quiet_step ((exact M1.out _))
       repeat (go_big_quiet_step (fail))
       go_big_quiet_step ((exact M2.out _))
       repeat (go_big_quiet_step (fail))
       refine wpQuiet_nil ?_
       intro w8 h8
       obtain ⟨⟨w8, hb8⟩, rfl⟩ := h8
       have B8 := Lib.hid (bt BL.out hb8)
       clear hb8
       go_wp2
       go_roundw
       case rel => exact ⟨k + 1, by go_num, by omega, HX.out, B8.out⟩
       case measure => simp [intOf]; omega
     ·have HX : Hid (Wi.seensB none l = false) := by
       rw [Hid, HR.out, HS.out, decide_eq_false h5]
       rfl
      have h5n : x0 ≤ y := by omega
      clear HS HR HPO
      refine wp_region_below (by kernel_rfl) (by kernel_rfl) ?_
      repeat (go_big_quiet_step (fail))
      go_big_quiet_step ((exact M1.out _))
      repeat (go_big_quiet_step (fail))
      refine wpQuiet_nil ?_
      intro w8 h8
      obtain ⟨⟨w8, hb8⟩, rfl⟩ := h8
      have B8 := Lib.hid (bt BL.out hb8)
      clear hb8
      go_wp2
      go_ret
      exact ⟨by rw [Wi.tableB, HX.out]; rfl, B8.out⟩
  ·obtain rfl : k = l.length := by omega
   have HX : Hid (Wi.seensB none l = true) := by rw [Hid, HR.out, List.drop_length]; rfl
   by_cases h5 : l.length ≤ 64
   ·have HF : Hid (Wi.tableB l = true) := by rw [Hid, Wi.tableB, HX.out, decide_eq_true h5]; rfl
    go_wp2
    go_ret
    exact ⟨by rw [HF.out]; first | rfl | (simp; omega), BR.out⟩
   ·have HF : Hid (Wi.tableB l = false) := by rw [Hid, Wi.tableB, HX.out, decide_eq_false h5]; rfl
    go_wp2
    go_ret
    exact ⟨by rw [HF.out]; first | rfl | (simp; omega), BR.out⟩
end Go.Proofs.YtjfpbeccpcbpcaaGreatDoor
