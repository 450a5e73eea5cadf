/-
  Wj / Wk: texts of one proof, one behind the other.
  Conditions: none of its own.
-/
import Derived.Test.YtbljbdjmgogknaaGreatDoorZao
set_option linter.unusedVariables false
set_option linter.unusedSimpArgs false
set_option maxHeartbeats 12800000
set_option maxRecDepth 20000
namespace Go.Proofs.YtbljbdjmgogknaaGreatDoor
open Go.RowKit
theorem lnum_any (n : Int) (w : World) : Calls Tryz.prog 128 #[.int .i64 n] w fun e w' => e = .returned (.bool (Cr.isNum n)) ∧ w' = w := by
 by_cases h0 : 0 ≤ n
 ·by_cases h1 : n ≤ 1099511627776
  ·have HE : Hid (Cr.isNum n = true) := by simp [Hid,Cr.isNum,h0,h1]
   go_enter Tryz.func128,Tryz.ntmps128
   go_wp2
   go_ret
   exact ⟨by rw [HE.out]; first | rfl | (simp; omega),rfl⟩
  ·have HE : Hid (Cr.isNum n = false) := by simp [Hid,Cr.isNum,h1]
   go_enter Tryz.func128,Tryz.ntmps128
   go_wp2
   go_ret
   exact ⟨by rw [HE.out]; first | rfl | (simp; omega),rfl⟩
 ·have HE : Hid (Cr.isNum n = false) := by simp [Hid,Cr.isNum,h0]
  go_enter Tryz.func128,Tryz.ntmps128
  go_wp2
  go_ret
  exact ⟨by rw [HE.out]; first | rfl | (simp; omega),rfl⟩
theorem Rw.getS {w wr : World} {v : Value} {l : List Wi.Slot} (h : Rw 3 slotC w v l) (hb : Below w.heap.size w wr) {k : Nat} {x : Wi.Slot} (hx : l[k]? = some x) :
  ∃ g off cap,v = .slice (some ⟨g,off,none⟩) l.length cap ∧ g < w.heap.size ∧ wr.cell? ⟨g,off + k * 3,none⟩ = some (.int .i64 x.1) ∧ wr.cell? ⟨g,off + k * 3 + 1,none⟩ = some (.int .i64 x.2.1) ∧ wr.cell? ⟨g,off + k * 3 + 2,none⟩ = some (.int .i64 x.2.2) := by
 obtain ⟨a,cap,rfl,hc⟩ := h
 obtain ⟨g,off,rfl,hg,hr⟩ := hc k x hx
 exact ⟨g,off,cap,rfl,hg,(hb.cell (p := ⟨g,off + k * 3,none⟩) hg).trans (hr 0 _ rfl),(hb.cell (p := ⟨g,off + k * 3 + 1,none⟩) hg).trans (hr 1 _ rfl),(hb.cell (p := ⟨g,off + k * 3 + 2,none⟩) hg).trans (hr 2 _ rfl)⟩
theorem Tbl.getT {w wr : World} {v : Value} {l : List Wi.Seen} (h : Tbl w v l) (hb : Below w.heap.size w wr) {k : Nat} {x : Wi.Seen} (hx : l[k]? = some x) :
  ∃ g off cap sv,v = .slice (some ⟨g,off,none⟩) l.length cap ∧ g < w.heap.size ∧ wr.cell? ⟨g,off + k * 2,none⟩ = some (.int .i64 x.1) ∧ wr.cell? ⟨g,off + k * 2 + 1,none⟩ = some sv ∧ Rw 3 slotC wr sv x.2 := by
 obtain ⟨a,cap,rfl,hc⟩ := h.kept hb
 obtain ⟨g,off,sv,rfl,hg,h0,h1,h2⟩ := hc k x hx
 obtain ⟨a',cap',e,hc'⟩ := h
 obtain ⟨g',off',sv',e',hg',_⟩ := hc' k x hx
 injection e with e1
 rw [e'] at e1
 injection e1 with e1
 injection e1 with e1
 exact ⟨g,off,cap,sv,rfl,e1 ▸ hg',h0,h1,h2⟩
def prevS (l : List Wi.Slot) : Nat → Option Wi.Slot
 | 0 => none
 | k + 1 => l[k]?
theorem prevS_succ {l : List Wi.Slot} {k : Nat} {x : Wi.Slot} (h : l[k]? = some x) : prevS l (k + 1) = some x := h
theorem row_step {l : List Wi.Slot} {k : Nat} {x : Wi.Slot} (hx : l[k]? = some x) (p : Option Wi.Slot) : Wi.rowB p (l.drop k) = ((Cr.isNum x.1 && (Cr.isNum x.2.1 && (Cr.isNum x.2.2 && decide (x.2.1 < x.2.2)))) && (Wi.nextB p x && Wi.rowB (some x) (l.drop (k + 1)))) := by
 obtain ⟨hk,rfl⟩ := List.getElem?_eq_some_iff.1 hx
 rw [List.drop_eq_getElem_cons hk]
 rfl
def prevP (l : List Wi.Seen) : Nat → Option Int
 | 0 => none
 | k + 1 => (l[k]?).map (·.1)
theorem prevP_succ {l : List Wi.Seen} {k : Nat} {x : Wi.Seen} (h : l[k]? = some x) : prevP l (k + 1) = some x.1 := by simp [prevP,h]
theorem tab_step {l : List Wi.Seen} {k : Nat} {x : Wi.Seen} (hx : l[k]? = some x) (p : Option Int) : Wi.seensB p (l.drop k) = (Cr.isNum x.1 && (Wi.aboveB p x.1 && (Wi.slotsB x.2 && Wi.seensB (some x.1) (l.drop (k + 1))))) := by
 obtain ⟨hk,rfl⟩ := List.getElem?_eq_some_iff.1 hx
 rw [List.drop_eq_getElem_cons hk]
 rfl
theorem lrow_any (l : List Wi.Slot) (hl : l.length ≤ maxLen) (v : Value) (w : World) (h : Rw 3 slotC w v l) :
  Calls Tryz.prog 129 #[v] w fun e w' => e = .returned (.bool (Wi.slotsB l)) ∧ Below w.heap.size w w' := by
 have HZ := hq' h
 obtain ⟨ra,rc,hrv⟩ := h.form
 subst hrv
 unfold maxLen at hl
 clear h
 go_enter Tryz.func129,Tryz.ntmps129
 go_wp2
 go_loopw [7] (fun ti wr => ∃ k : Nat,ti = .int .i64 k ∧ k ≤ l.length ∧ Wi.rowB none l = Wi.rowB (prevS l k) (l.drop k) ∧ (∀ y,prevS l k = some y → 0 ≤ y.1 ∧ y.1 ≤ 1099511627776) ∧ Below w.heap.size w wr) (fun ti _ => l.length - (intOf ti).toNat)
 case atStart => exact ⟨0,rfl,by omega,rfl,(fun y hy => by cases hy),Below.refl _ _⟩
 case round =>
  obtain ⟨k,rfl,hk,hr,hpn,hb⟩ := hrel
  have HR := hq' hr
  have HPN := hq' hpn
  have BR := hq' hb
  clear hr hb hpn
  by_cases hlt : k < l.length
  ·obtain ⟨x,hx⟩ : ∃ x,l[k]? = some x := ⟨l[k],by simp [hlt]⟩
   have HS := hq' (row_step hx (prevS l k))
   have HPO : Hid (prevS l (k + 1) = some x) := prevS_succ hx
   obtain ⟨g,off,cap',he,hg,p0,p1,p2⟩ := HZ.out.getS BR.out hx
   injection he with he1 he2 he3
   subst he1 he3
   have hprev : Hid (0 < k → ∃ y,prevS l k = some y ∧ (0 ≤ y.1 ∧ y.1 ≤ 1099511627776) ∧ wr.cell? ⟨g,off + (k - 1) * 3,none⟩ = some (.int .i64 y.1) ∧ wr.cell? ⟨g,off + (k - 1) * 3 + 2,none⟩ = some (.int .i64 y.2.2)) := fun h0 => by
    obtain ⟨y,hy⟩ : ∃ y,l[k - 1]? = some y := ⟨l[k - 1]'(by omega),List.getElem?_eq_getElem _⟩
    obtain ⟨g',off',cap'',he',_,q0,_,q2⟩ := HZ.out.getS BR.out hy
    injection he' with he1
    injection he1 with he1
    injection he1 with he1 he4
    subst he1 he4
    have hpo : prevS l k = some y := by
     have := prevS_succ hy
     rwa [show k - 1 + 1 = k by omega] at this
    exact ⟨y,hpo,HPN.out y hpo,q0,q2⟩
   obtain ⟨x0,x1,x2⟩ := x
   dsimp only at *
   have W1 := hq' (fun W => lnum_any x0 W)
   have W2 := hq' (fun W => lnum_any x1 W)
   have W3 := hq' (fun W => lnum_any x2 W)
   have HPN2 : Hid (Cr.isNum x0 = true → ∀ y,prevS l (k + 1) = some y → 0 ≤ y.1 ∧ y.1 ≤ 1099511627776) := fun h y hy => by
    rw [HPO.out] at hy
    injection hy with hy
    subst hy
    exact Wi.isNum_iff.1 h
   generalize Cr.isNum x0 = c1 at *
   generalize Cr.isNum x1 = c2 at *
   generalize Cr.isNum x2 = c3 at *
   clear he2
   have CX : Hid (Cl (wr.alloc (.cells #[.int .i64 x0,.int .i64 x1,.int .i64 x2] 109)) wr.heap.size [.int .i64 x0,.int .i64 x1,.int .i64 x2] 109) := Cl.new wr _ _
   have BX : Hid (Below wr.heap.size wr (wr.alloc (.cells #[.int .i64 x0,.int .i64 x1,.int .i64 x2] 109))) := (Below.refl _ _).alloc (Nat.le_refl _) _
   go_upto_region 4 with (fail)
   generalize wr.alloc (.cells #[.int .i64 x0,.int .i64 x1,.int .i64 x2] 109) = wl at *
   have BL : Hid (Below w.heap.size w wl) := bt BR.out BX.out
   have hgl : g < wr.heap.size := Nat.lt_of_lt_of_le hg BR.out.size
   have mx0 := fun y : BelowOf wl => y.cell (show wl.cell? ⟨wr.heap.size,0,none⟩ = some (.int .i64 x0) from CX.out.cell 0)
   have mx1 := fun y : BelowOf wl => y.cell (show wl.cell? ⟨wr.heap.size,1,none⟩ = some (.int .i64 x1) from CX.out.cell 1)
   have mx2 := fun y : BelowOf wl => y.cell (show wl.cell? ⟨wr.heap.size,2,none⟩ = some (.int .i64 x2) from CX.out.cell 2)
   have M1 := hq' (fun y : BelowOf wl => (W1.out y.1).mono (fun e w' (h : _ ∧ _) => (⟨h.1,y,h.2⟩ : _ ∧ ∃ c : BelowOf wl,w' = c.1)))
   have M2 := hq' (fun y : BelowOf wl => (W2.out y.1).mono (fun e w' (h : _ ∧ _) => (⟨h.1,y,h.2⟩ : _ ∧ ∃ c : BelowOf wl,w' = c.1)))
   have M3 := hq' (fun y : BelowOf wl => (W3.out y.1).mono (fun e w' (h : _ ∧ _) => (⟨h.1,y,h.2⟩ : _ ∧ ∃ c : BelowOf wl,w' = c.1)))
   have BXL : Hid (Below wr.heap.size wr wl) := BX.out
   generalize wr.heap.size = px at CX mx0 mx1 mx2 ⊢
   clear CX BX p0 p1 p2 HPN
   cases c1 with
   | false =>
    have HX : Hid (Wi.rowB none l = false) := by rw [Hid,HR.out,HS.out]; rfl
    clear HS HR HPO
    refine wp_region_below (by kernel_rfl) (by kernel_rfl) ?_
    repeat (go_big_quiet_step (fail))
    go_big_quiet_step ((exact M1.out _))
    repeat (go_big_quiet_step (fail))
    refine wpQuiet_nil ?_
    intro w8 h8
    obtain ⟨⟨w8,hb8⟩,rfl⟩ := h8
    have B8 := hq' (bt BL.out hb8)
    clear hb8
    go_wp2
    go_ret
    exact ⟨by rw [Wi.slotsB,HX.out]; rfl,B8.out⟩
   | true =>
    have HPN := hq' (HPN2.out rfl)
    cases c2 with
    | false =>
     have HX : Hid (Wi.rowB none l = false) := by rw [Hid,HR.out,HS.out]; rfl
     clear HS HR HPO
     refine wp_region_below (by kernel_rfl) (by kernel_rfl) ?_
     repeat (go_big_quiet_step (fail))
     go_big_quiet_step ((exact M1.out _))
     repeat (go_big_quiet_step (fail))
     go_big_quiet_step ((exact M2.out _))
     repeat (go_big_quiet_step (fail))
     refine wpQuiet_nil ?_
     intro w8 h8
     obtain ⟨⟨w8,hb8⟩,rfl⟩ := h8
     have B8 := hq' (bt BL.out hb8)
     clear hb8
     go_wp2
     go_ret
     exact ⟨by rw [Wi.slotsB,HX.out]; rfl,B8.out⟩
    | true =>
     cases c3 with
     | false =>
      have HX : Hid (Wi.rowB none l = false) := by rw [Hid,HR.out,HS.out]; rfl
      clear HS HR HPO
      refine wp_region_below (by kernel_rfl) (by kernel_rfl) ?_
      repeat (go_big_quiet_step (fail))
      go_big_quiet_step ((exact M1.out _))
      repeat (go_big_quiet_step (fail))
      go_big_quiet_step ((exact M2.out _))
      repeat (go_big_quiet_step (fail))
      go_big_quiet_step ((exact M3.out _))
      repeat (go_big_quiet_step (fail))
      refine wpQuiet_nil ?_
      intro w8 h8
      obtain ⟨⟨w8,hb8⟩,rfl⟩ := h8
      have B8 := hq' (bt BL.out hb8)
      clear hb8
      go_wp2
      go_ret
      exact ⟨by rw [Wi.slotsB,HX.out]; rfl,B8.out⟩
     | true =>
      by_cases h4 : x1 < x2
      ·have h4n : ¬ (x2 ≤ x1) := by omega
       rw [decide_eq_true h4] at HS
       by_cases h0 : k = 0
       ·subst h0
        have HX : Hid (Wi.rowB none l = Wi.rowB (prevS l (0 + 1)) (l.drop (0 + 1))) := by
         rw [Hid,HR.out,HS.out,HPO.out,show prevS l 0 = none from rfl]
         rfl
        clear HS HR HPO
        refine wp_region_below (by kernel_rfl) (by kernel_rfl) ?_
        repeat (go_big_quiet_step (fail))
        go_big_quiet_step ((exact M1.out _))
        repeat (go_big_quiet_step (fail))
        go_big_quiet_step ((exact M2.out _))
        repeat (go_big_quiet_step (fail))
        go_big_quiet_step ((exact M3.out _))
        repeat (go_big_quiet_step (fail))
        refine wpQuiet_nil ?_
        intro w8 h8
        obtain ⟨⟨w8,hb8⟩,rfl⟩ := h8
        have B8 := hq' (bt BL.out hb8)
        clear hb8
        go_wp2
        go_roundw
        case rel => exact ⟨0 + 1,by go_num,by omega,HX.out,HPN.out,B8.out⟩
        case measure => simp [intOf]; omega
       ·have h0i : (0 : Int) < (k : Int) := by omega
        have h0n : 0 < k := by omega
        obtain ⟨y,hpo,hyn,hy0,hy2⟩ := hprev.out h0n
        have mp0 := fun z : BelowOf wl => z.cell (show wl.cell? ⟨g,off + (k - 1) * 3,none⟩ = some (.int .i64 y.1) from (BXL.out.cell (p := ⟨g,off + (k - 1) * 3,none⟩) hgl).trans hy0)
        have mp2 := fun z : BelowOf wl => z.cell (show wl.cell? ⟨g,off + (k - 1) * 3 + 2,none⟩ = some (.int .i64 y.2.2) from (BXL.out.cell (p := ⟨g,off + (k - 1) * 3 + 2,none⟩) hgl).trans hy2)
        rw [hpo] at HS HR
        have hk0 : (0 : Int) ≤ (k : Int) - 1 := by omega
        have hkl : (k : Int) - 1 < (l.length : Int) := by omega
        have hkt : ((k : Int) - 1).toNat = k - 1 := by omega
        have HNX : Hid (Wi.nextB (some y) (x0,x1,x2) = (decide (x0 = y.1 + 1) && decide (y.2.2 ≤ x1))) := rfl
        rw [HNX.out] at HS
        clear hpo hprev hy0 hy2 HNX
        obtain ⟨y0,y1,y2⟩ := y
        dsimp only at *
        have hwr : IntKind.i64.wrap (y0 + 1) = y0 + 1 := by rw [IntKind.wrap_i64]; omega
        by_cases h5 : x0 = y0 + 1
        ·subst h5
         by_cases h6 : y2 ≤ x1
         ·have HX : Hid (Wi.rowB none l = Wi.rowB (prevS l (k + 1)) (l.drop (k + 1))) := by
           rw [Hid,HR.out,HS.out,HPO.out,decide_eq_true rfl,decide_eq_true h6]
           rfl
          have h6n : ¬ (x1 < y2) := by omega
          clear HS HR HPO
          refine wp_region_below (by kernel_rfl) (by kernel_rfl) ?_
          repeat (go_big_quiet_step (fail))
          go_big_quiet_step ((exact M1.out _))
          repeat (go_big_quiet_step (fail))
          go_big_quiet_step ((exact M2.out _))
          repeat (go_big_quiet_step (fail))
          go_big_quiet_step ((exact M3.out _))
          repeat (go_big_quiet_step (fail))
          refine wpQuiet_nil ?_
          intro w8 h8
          obtain ⟨⟨w8,hb8⟩,rfl⟩ := h8
          have B8 := hq' (bt BL.out hb8)
          clear hb8
          go_wp2
          go_roundw
          case rel => exact ⟨k + 1,by go_num,by omega,HX.out,HPN.out,B8.out⟩
          case measure => simp [intOf]; omega
         ·have HX : Hid (Wi.rowB none l = false) := by
           rw [Hid,HR.out,HS.out,decide_eq_false h6]
           simp
          have h6n : x1 < y2 := by omega
          clear HS HR HPO
          refine wp_region_below (by kernel_rfl) (by kernel_rfl) ?_
          repeat (go_big_quiet_step (fail))
          go_big_quiet_step ((exact M1.out _))
          repeat (go_big_quiet_step (fail))
          go_big_quiet_step ((exact M2.out _))
          repeat (go_big_quiet_step (fail))
          go_big_quiet_step ((exact M3.out _))
          repeat (go_big_quiet_step (fail))
          refine wpQuiet_nil ?_
          intro w8 h8
          obtain ⟨⟨w8,hb8⟩,rfl⟩ := h8
          have B8 := hq' (bt BL.out hb8)
          clear hb8
          go_wp2
          go_ret
          exact ⟨by rw [Wi.slotsB,HX.out]; rfl,B8.out⟩
        ·have HX : Hid (Wi.rowB none l = false) := by
          rw [Hid,HR.out,HS.out,decide_eq_false h5]
          simp
         have h5n : (x0 == y0 + 1) = false := beq_eq_false_iff_ne.2 h5
         have h5b : (x0 != y0 + 1) = true := by simp [h5]
         have h5c : decide (x0 = y0 + 1) = false := decide_eq_false h5
         clear HS HR HPO
         refine wp_region_below (by kernel_rfl) (by kernel_rfl) ?_
         repeat (go_big_quiet_step (fail))
         go_big_quiet_step ((exact M1.out _))
         repeat (go_big_quiet_step (fail))
         go_big_quiet_step ((exact M2.out _))
         repeat (go_big_quiet_step (fail))
         go_big_quiet_step ((exact M3.out _))
         repeat (go_big_quiet_step (fail))
         refine wpQuiet_nil ?_
         intro w8 h8
         obtain ⟨⟨w8,hb8⟩,rfl⟩ := h8
         have B8 := hq' (bt BL.out hb8)
         clear hb8
         go_wp2
         go_ret
         exact ⟨by rw [Wi.slotsB,HX.out]; rfl,B8.out⟩
      ·have h4n : x2 ≤ x1 := by omega
       have HX : Hid (Wi.rowB none l = false) := by rw [Hid,HR.out,HS.out,decide_eq_false h4]; rfl
       clear HS HR HPO
       refine wp_region_below (by kernel_rfl) (by kernel_rfl) ?_
       repeat (go_big_quiet_step (fail))
       go_big_quiet_step ((exact M1.out _))
       repeat (go_big_quiet_step (fail))
       go_big_quiet_step ((exact M2.out _))
       repeat (go_big_quiet_step (fail))
       go_big_quiet_step ((exact M3.out _))
       repeat (go_big_quiet_step (fail))
       refine wpQuiet_nil ?_
       intro w8 h8
       obtain ⟨⟨w8,hb8⟩,rfl⟩ := h8
       have B8 := hq' (bt BL.out hb8)
       clear hb8
       go_wp2
       go_ret
       exact ⟨by rw [Wi.slotsB,HX.out]; rfl,B8.out⟩
  ·obtain rfl : k = l.length := by omega
   have HX : Hid (Wi.rowB none l = true) := by rw [Hid,HR.out,List.drop_length]; rfl
   by_cases h1 : 1 ≤ l.length
   ·by_cases h5 : l.length ≤ 5
    ·have HF : Hid (Wi.slotsB l = true) := by rw [Hid,Wi.slotsB,HX.out,decide_eq_true h1,decide_eq_true h5]; rfl
     go_wp2
     go_ret
     exact ⟨by rw [HF.out]; first | rfl | (simp; omega),BR.out⟩
    ·have HF : Hid (Wi.slotsB l = false) := by rw [Hid,Wi.slotsB,HX.out,decide_eq_true h1,decide_eq_false h5]; rfl
     go_wp2
     go_ret
     exact ⟨by rw [HF.out]; first | rfl | (simp; omega),BR.out⟩
   ·have HF : Hid (Wi.slotsB l = false) := by rw [Hid,Wi.slotsB,HX.out,decide_eq_false h1]; rfl
    go_wp2
    go_ret
    exact ⟨by rw [HF.out]; first | rfl | (simp; omega),BR.out⟩
theorem ltab_any (l : List Wi.Seen) (hl : l.length ≤ maxLen) (ho : ∀ x ∈ l,x.2.length ≤ maxLen ∧ True) (v : Value) (w : World) (h : Tbl w v l) :
  Calls Tryz.prog 108 #[v] w fun e w' => e = .returned (.bool (Wi.tableB l)) ∧ Below w.heap.size w w' := by
 have HZ := hq' h
 have HO := hq' ho
 obtain ⟨ra,rc,hrv⟩ := h.form
 subst hrv
 unfold maxLen at hl
 clear h ho
 go_enter Tryz.func108,Tryz.ntmps108
 go_wp2
 go_loopw [7] (fun ti wr => ∃ k : Nat,ti = .int .i64 k ∧ k ≤ l.length ∧ Wi.seensB none l = Wi.seensB (prevP l k) (l.drop k) ∧ Below w.heap.size w wr) (fun ti _ => l.length - (intOf ti).toNat)
 case atStart => exact ⟨0,rfl,by omega,rfl,Below.refl _ _⟩
 case round =>
  obtain ⟨k,rfl,hk,hr,hb⟩ := hrel
  have HR := hq' hr
  have BR := hq' hb
  clear hr hb
  by_cases hlt : k < l.length
  ·obtain ⟨x,hx⟩ : ∃ x,l[k]? = some x := ⟨l[k],by simp [hlt]⟩
   have HS := hq' (tab_step hx (prevP l k))
   have HPO : Hid (prevP l (k + 1) = some x.1) := prevP_succ hx
   obtain ⟨g,off,cap',sv,he,hg,p0,p1,hsv⟩ := HZ.out.getT BR.out hx
   injection he with he1 he2 he3
   subst he1 he3
   have hprev : Hid (0 < k → ∃ y,prevP l k = some y ∧ wr.cell? ⟨g,off + (k - 1) * 2,none⟩ = some (.int .i64 y)) := fun h0 => by
    obtain ⟨y,hy⟩ : ∃ y,l[k - 1]? = some y := ⟨l[k - 1]'(by omega),List.getElem?_eq_getElem _⟩
    obtain ⟨g',off',cap'',sv',he',_,q0,_⟩ := HZ.out.getT BR.out hy
    injection he' with he1
    injection he1 with he1
    injection he1 with he1 he4
    subst he1 he4
    have hpo : prevP l k = some y.1 := by
     have := prevP_succ hy
     rwa [show k - 1 + 1 = k by omega] at this
    exact ⟨y.1,hpo,q0⟩
   have hsl := (HO.out x (List.mem_of_getElem? hx)).1
   obtain ⟨x0,xs⟩ := x
   dsimp only at *
   have W1 := hq' (fun W => lnum_any x0 W)
   have W2 := hq' (fun (W : World) (hW : Below wr.heap.size wr W) => lrow_any xs hsl sv W (hsv.kept hW))
   obtain ⟨sa,sc,hsf⟩ := hsv.form
   subst hsf
   generalize Cr.isNum x0 = c1 at *
   generalize Wi.slotsB xs = c3 at *
   clear he2 hsv
   have CX : Hid (Cl (wr.alloc (.cells #[.int .i64 x0,.slice sa xs.length sc] 70)) wr.heap.size [.int .i64 x0,.slice sa xs.length sc] 70) := Cl.new wr _ _
   have BX : Hid (Below wr.heap.size wr (wr.alloc (.cells #[.int .i64 x0,.slice sa xs.length sc] 70))) := (Below.refl _ _).alloc (Nat.le_refl _) _
   go_upto_region 4 with (fail)
   generalize wr.alloc (.cells #[.int .i64 x0,.slice sa xs.length sc] 70) = wl at *
   have BL : Hid (Below w.heap.size w wl) := bt BR.out BX.out
   have hgl : g < wr.heap.size := Nat.lt_of_lt_of_le hg BR.out.size
   have mx0 := fun y : BelowOf wl => y.cell (show wl.cell? ⟨wr.heap.size,0,none⟩ = some (.int .i64 x0) from CX.out.cell 0)
   have mx1 := fun y : BelowOf wl => y.cell (show wl.cell? ⟨wr.heap.size,1,none⟩ = some (.slice sa xs.length sc) from CX.out.cell 1)
   have M1 := hq' (fun y : BelowOf wl => (W1.out y.1).mono (fun e w' (h : _ ∧ _) => (⟨h.1,y,h.2⟩ : _ ∧ ∃ c : BelowOf wl,w' = c.1)))
   have M2 := hq' (below_class (w := wl) (fun W hW => W2.out W (bt BX.out hW)))
   have BXL : Hid (Below wr.heap.size wr wl) := BX.out
   generalize wr.heap.size = px at CX mx0 mx1 ⊢
   clear CX BX p0 p1
   cases c1 with
   | false =>
    have HX : Hid (Wi.seensB none l = false) := by rw [Hid,HR.out,HS.out]; rfl
    clear HS HR HPO
    refine wp_region_below (by kernel_rfl) (by kernel_rfl) ?_
    repeat (go_big_quiet_step (fail))
    go_big_quiet_step ((exact M1.out _))
    repeat (go_big_quiet_step (fail))
    refine wpQuiet_nil ?_
    intro w8 h8
    obtain ⟨⟨w8,hb8⟩,rfl⟩ := h8
    have B8 := hq' (bt BL.out hb8)
    clear hb8
    go_wp2
    go_ret
    exact ⟨by rw [Wi.tableB,HX.out]; rfl,B8.out⟩
   | true =>
    by_cases h0 : k = 0
    ·subst h0
     rw [show prevP l 0 = none from rfl,show Wi.aboveB none x0 = true from rfl] at HS
     rw [show prevP l 0 = none from rfl] at HR
     cases c3 with
     | false =>
      have HX : Hid (Wi.seensB none l = false) := by rw [Hid,HR.out,HS.out]; rfl
      clear HS HR HPO
      refine wp_region_below (by kernel_rfl) (by kernel_rfl) ?_
      repeat (go_big_quiet_step (fail))
      go_big_quiet_step ((exact M1.out _))
      repeat (go_big_quiet_step (fail))
      go_big_quiet_step ((exact M2.out _))
      repeat (go_big_quiet_step (fail))
      refine wpQuiet_nil ?_
      intro w8 h8
      obtain ⟨⟨w8,hb8⟩,rfl⟩ := h8
      have B8 := hq' (bt BL.out hb8)
      clear hb8
      go_wp2
      go_ret
      exact ⟨by rw [Wi.tableB,HX.out]; rfl,B8.out⟩
     | true =>
      have HX : Hid (Wi.seensB none l = Wi.seensB (prevP l (0 + 1)) (l.drop (0 + 1))) := by
       rw [Hid,HR.out,HS.out,HPO.out]
       rfl
      clear HS HR HPO
      refine wp_region_below (by kernel_rfl) (by kernel_rfl) ?_
      repeat (go_big_quiet_step (fail))
      go_big_quiet_step ((exact M1.out _))
      repeat (go_big_quiet_step (fail))
      go_big_quiet_step ((exact M2.out _))
      repeat (go_big_quiet_step (fail))
      refine wpQuiet_nil ?_
      intro w8 h8
      obtain ⟨⟨w8,hb8⟩,rfl⟩ := h8
      have B8 := hq' (bt BL.out hb8)
      clear hb8
      go_wp2
      go_roundw
      case rel => exact ⟨0 + 1,by go_num,by omega,HX.out,B8.out⟩
      case measure => simp [intOf]; omega
    ·have h0i : (0 : Int) < (k : Int) := by omega
     have h0n : 0 < k := by omega
     obtain ⟨y,hpo,hy0⟩ := hprev.out h0n
     have mp0 := fun z : BelowOf wl => z.cell (show wl.cell? ⟨g,off + (k - 1) * 2,none⟩ = some (.int .i64 y) from (BXL.out.cell (p := ⟨g,off + (k - 1) * 2,none⟩) hgl).trans hy0)
     rw [hpo] at HS HR
     have hk0 : (0 : Int) ≤ (k : Int) - 1 := by omega
     have hkl : (k : Int) - 1 < (l.length : Int) := by omega
     have hkt : ((k : Int) - 1).toNat = k - 1 := by omega
     have HNX : Hid (Wi.aboveB (some y) x0 = decide (y < x0)) := rfl
     rw [HNX.out] at HS
     clear hpo hprev hy0 HNX
     by_cases h5 : y < x0
     ·have h5n : ¬ (x0 ≤ y) := by omega
      rw [decide_eq_true h5] at HS
      cases c3 with
      | false =>
       have HX : Hid (Wi.seensB none l = false) := by rw [Hid,HR.out,HS.out]; rfl
       clear HS HR HPO
       refine wp_region_below (by kernel_rfl) (by kernel_rfl) ?_
       repeat (go_big_quiet_step (fail))
       go_big_quiet_step ((exact M1.out _))
       repeat (go_big_quiet_step (fail))
       go_big_quiet_step ((exact M2.out _))
       repeat (go_big_quiet_step (fail))
       refine wpQuiet_nil ?_
       intro w8 h8
       obtain ⟨⟨w8,hb8⟩,rfl⟩ := h8
       have B8 := hq' (bt BL.out hb8)
       clear hb8
       go_wp2
       go_ret
       exact ⟨by rw [Wi.tableB,HX.out]; rfl,B8.out⟩
      | true =>
       have HX : Hid (Wi.seensB none l = Wi.seensB (prevP l (k + 1)) (l.drop (k + 1))) := by
        rw [Hid,HR.out,HS.out,HPO.out]
        rfl
       clear HS HR HPO
       refine wp_region_below (by kernel_rfl) (by kernel_rfl) ?_
       repeat (go_big_quiet_step (fail))
       go_big_quiet_step ((exact M1.out _))
       repeat (go_big_quiet_step (fail))
       go_big_quiet_step ((exact M2.out _))
       repeat (go_big_quiet_step (fail))
       refine wpQuiet_nil ?_
       intro w8 h8
       obtain ⟨⟨w8,hb8⟩,rfl⟩ := h8
       have B8 := hq' (bt BL.out hb8)
       clear hb8
       go_wp2
       go_roundw
       case rel => exact ⟨k + 1,by go_num,by omega,HX.out,B8.out⟩
       case measure => simp [intOf]; omega
     ·have HX : Hid (Wi.seensB none l = false) := by
       rw [Hid,HR.out,HS.out,decide_eq_false h5]
       rfl
      have h5n : x0 ≤ y := by omega
      clear HS HR HPO
      refine wp_region_below (by kernel_rfl) (by kernel_rfl) ?_
      repeat (go_big_quiet_step (fail))
      go_big_quiet_step ((exact M1.out _))
      repeat (go_big_quiet_step (fail))
      refine wpQuiet_nil ?_
      intro w8 h8
      obtain ⟨⟨w8,hb8⟩,rfl⟩ := h8
      have B8 := hq' (bt BL.out hb8)
      clear hb8
      go_wp2
      go_ret
      exact ⟨by rw [Wi.tableB,HX.out]; rfl,B8.out⟩
  ·obtain rfl : k = l.length := by omega
   have HX : Hid (Wi.seensB none l = true) := by rw [Hid,HR.out,List.drop_length]; rfl
   by_cases h5 : l.length ≤ 64
   ·have HF : Hid (Wi.tableB l = true) := by rw [Hid,Wi.tableB,HX.out,decide_eq_true h5]; rfl
    go_wp2
    go_ret
    exact ⟨by rw [HF.out]; first | rfl | (simp; omega),BR.out⟩
   ·have HF : Hid (Wi.tableB l = false) := by rw [Hid,Wi.tableB,HX.out,decide_eq_false h5]; rfl
    go_wp2
    go_ret
    exact ⟨by rw [HF.out]; first | rfl | (simp; omega),BR.out⟩
def TabOk (t : List Wi.Seen) : Prop := t.length ≤ maxLen ∧ ∀ x ∈ t,Bd.inR x.1 ∧ x.2.length ≤ maxLen ∧ ∀ y ∈ x.2,Bd.inR y.1 ∧ Bd.inR y.2.1 ∧ Bd.inR y.2.2
theorem lenc_no (t : List Wi.Seen) (ok : TabOk t) (v : Value) (w : World) (h : Tbl w v t) (hg : Wi.tableB t = false) :
  Calls Tryz.prog 76 #[v] w fun e w' => e = .returned (.tuple #[.string ⟨#[]⟩,.int .i64 1]) ∧ Below w.heap.size w w' := by
 have HT := hq' (ltab_any t ok.1 (fun x hx => ⟨(ok.2 x hx).2.1,trivial⟩) v w h)
 rw [hg] at HT
 obtain ⟨ra,rc,hrv⟩ := h.form
 subst hrv
 clear h ok hg
 go_enter Tryz.func76,Tryz.ntmps76
 go_wp2_with fail
 refine HT.out.mono ?_
 rintro e w1 ⟨rfl,hb⟩
 have HB := hq' hb
 clear hb
 go_wp2
 go_ret2
 exact ⟨rfl,HB.out⟩
def rowL (p : Int) (l : List Wi.Slot) : List (List UInt8) := Bd.bInt p::l.map Wi.encSlot
theorem rowL_succ {p : Int} {l : List Wi.Slot} {j : Nat} {y : Wi.Slot} (h : l[j]? = some y) : rowL p (l.take (j + 1)) = rowL p (l.take j) ++ [Wi.encSlot y] := by
 obtain ⟨hj,rfl⟩ := List.getElem?_eq_some_iff.1 h
 simp only [rowL,List.take_succ_eq_append_getElem hj,List.map_append,List.cons_append,List.map_cons,List.map_nil]
theorem takeL_succ {l : List Wi.Seen} {j : Nat} {y : Wi.Seen} (h : l[j]? = some y) : (l.take (j + 1)).map Wi.encSeen = (l.take j).map Wi.encSeen ++ [Wi.encSeen y] := by
 obtain ⟨hj,rfl⟩ := List.getElem?_eq_some_iff.1 h
 simp only [List.take_succ_eq_append_getElem hj,List.map_append,List.map_cons,List.map_nil]
theorem rowL_enc (x : Wi.Seen) : 108::((rowL x.1 x.2).flatten ++ [101]) = Wi.encSeen x := by simp [rowL,Wi.encSeen,Wi.listB]
theorem sv_snoc (l : List (List UInt8)) (x : List UInt8) : sv (l ++ [x]) = sv l ++ [.string ⟨x.toArray⟩] := by simp [sv]
theorem lenc_yes (t : List Wi.Seen) (ok : TabOk t) (v : Value) (w : World) (h : Tbl w v t) (hw : Lw w) (hg : Wi.tableB t = true) :
  Calls Tryz.prog 76 #[v] w fun e w' => e = .returned (.tuple #[.string ⟨(Wi.encTable t).toArray⟩,.int .i64 0]) ∧ Below w.heap.size w w' := by
 have HT := hq' (ltab_any t ok.1 (fun x hx => ⟨(ok.2 x hx).2.1,trivial⟩) v w h)
 rw [hg] at HT
 have HZ := hq' h
 have HL := hq' hw
 have HTL := hq' (Wi.encTable_le hg)
 obtain ⟨hl64,ha⟩ := Wi.tableB_all hg
 have HA := hq' ha
 obtain ⟨ra,rc,hrv⟩ := h.form
 subst hrv
 obtain ⟨i0,hi,hz0,hz1,hz2⟩ := info_parts cinfoStr
 clear h ok hg hw ha
 go_enter Tryz.func76,Tryz.ntmps76
 go_wp2_with fail
 refine HT.out.mono ?_
 rintro e w1 ⟨rfl,hb⟩
 have HB1 := hq' hb
 clear hb HT
 go_wp2
 go_loopw [15,4] (fun i sv' wr => ∃ (k : Nat) (v : Value),i = .int .i64 k ∧ v = sv' ∧ k ≤ t.length ∧ wr.ownsRow w.heap.size 9 1 v k (sv ((t.take k).map Wi.encSeen)) ∧ Below w.heap.size w wr) (fun i _ _ => t.length - (intOf i).toNat)
 case atStart => exact ⟨0,_,rfl,rfl,by omega,⟨rfl,.inl ⟨rfl,rfl⟩⟩,HB1.out⟩
 case round =>
  obtain ⟨k,v,rfl,rfl,hk,hown,hb⟩ := hrel
  have HO := hq' hown
  have BR := hq' hb
  have hszr := hb.size
  clear hown hb HB1
  by_cases hlt : k < t.length
  ·obtain ⟨x,hx⟩ : ∃ x,t[k]? = some x := ⟨t[k],by simp [hlt]⟩
   have HTS := hq' (takeL_succ hx)
   obtain ⟨hx1,hx5,hxs⟩ := HA.out x (List.mem_of_getElem? hx)
   have HXS := hq' hxs
   have HRE := hq' (rowL_enc x)
   have HXL : Hid ((Wi.encSeen x).length ≤ 252) := by
    have a := (Cr.bInt_len (n := x.1) (by omega) (by omega)).2
    have b := Wi.flat_le (e := Wi.encSlot) (k := 47) x.2 (fun y hy => Wi.encSlot_le (hxs y hy).1 (hxs y hy).2.1 (hxs y hy).2.2)
    simp only [Hid,Wi.encSeen,Wi.listB_len,List.length_append]
    omega
   obtain ⟨g,off,cap',sl,he,hg,p0,p1,hsv⟩ := HZ.out.getT BR.out hx
   injection he with he1 he2 he3
   subst he1 he3
   obtain ⟨sa,sc,hsf⟩ := hsv.form
   subst hsf
   have HSV := hq' hsv
   generalize Wi.encSeen x = ex at *
   obtain ⟨x0,xs⟩ := x
   dsimp only at *
   clear he2 hx hsv hxs
   have CX : Hid (Cl (wr.alloc (.cells #[.int .i64 x0,.slice sa xs.length sc] 70)) wr.heap.size [.int .i64 x0,.slice sa xs.length sc] 70) := Cl.new wr _ _
   have BX : Hid (Below wr.heap.size wr (wr.alloc (.cells #[.int .i64 x0,.slice sa xs.length sc] 70))) := (Below.refl _ _).alloc (Nat.le_refl _) _
   go_upto_region 7 with (fail)
   generalize wr.alloc (.cells #[.int .i64 x0,.slice sa xs.length sc] 70) = wl at *
   have hlx := CX.out.lt
   have HOL := hq' (ownsRow_below HO.out BX.out)
   have BL := hq' (bt BR.out BX.out)
   have HSL := hq' (HSV.out.kept BX.out)
   have c0 := CX.out.cell 0
   simp only [g0',gs'] at c0
   generalize wr.heap.size = px at CX c0 hlx ⊢
   clear HO p0 p1 HSV BX BR
   have HN := hq' (beadInt_any x0 (Wi.inR_num hx1) wl (HL.out.below BL.out))
   generalize hbx : Bd.bInt x0 = bx at HN
   go_wp2_with fail
   refine HN.out.mono ?_
   rintro e w2 ⟨rfl,hb2⟩
   have C2 := hq' (CX.out.below hb2)
   have HO2 := hq' (ownsRow_below HOL.out hb2)
   have B2 := hq' (bt BL.out hb2)
   have HS2 := hq' (HSL.out.kept hb2)
   have hs2 := hb2.size
   have hs2w := B2.out.size
   clear hb2 HN HOL BL HSL CX c0
   have R3 : Hid ((w2.alloc (.cells #[.string ⟨bx.toArray⟩] 9)).ownsRow w2.heap.size 9 1 (.slice (some ⟨w2.heap.size,0,none⟩) 1 1) (1 + 0) (sv (rowL x0 (xs.take 0)))) := by
    refine ⟨by simp [sv,rowL],.inr ⟨w2.heap.size,1,#[.string ⟨bx.toArray⟩],rfl,Nat.le_refl _,heap_alloc_new w2 _,by omega,by unfold maxLen; omega,by simp,?_⟩⟩
    simp [sv,rowL,hbx]
   have B3 : Hid (Below w2.heap.size w2 (w2.alloc (.cells #[.string ⟨bx.toArray⟩] 9))) := (Below.refl _ _).alloc (Nat.le_refl _) _
   have C3 := hq' (C2.out.below B3.out)
   have c1 := C3.out.cell 1
   simp only [g0',gs'] at c1
   go_upto_region 8 with (fail)
   generalize hrv0 : (Value.slice (some ⟨w2.heap.size,0,none⟩) 1 1) = rv0 at *
   clear hrv0
   generalize hw3 : w2.alloc (.cells #[.string ⟨bx.toArray⟩] 9) = w3 at *
   clear hw3 C2 C3
   go_wp2
   go_loopw [26,7] (fun i sv' wq => ∃ (j : Nat) (v2 : Value),i = .int .i64 j ∧ v2 = sv' ∧ j ≤ xs.length ∧ wq.ownsRow w2.heap.size 9 1 v2 (1 + j) (sv (rowL x0 (xs.take j))) ∧ Below w2.heap.size w2 wq) (fun i _ _ => xs.length - (intOf i).toNat)
   case atStart => exact ⟨0,_,rfl,rfl,by omega,R3.out,B3.out⟩
   case round =>
    obtain ⟨j,v2,rfl,rfl,hj,hown2,hb2⟩ := hrel
    have HP := hq' hown2
    have BQ := hq' hb2
    have hszq := hb2.size
    clear hown2 hb2 R3 B3 c1
    by_cases hjl : j < xs.length
    ·obtain ⟨y,hy⟩ : ∃ y,xs[j]? = some y := ⟨xs[j],by simp [hjl]⟩
     have HRS := hq' (rowL_succ (p := x0) hy)
     obtain ⟨hy0,hy1,hy2⟩ := HXS.out y (List.mem_of_getElem? hy)
     obtain ⟨g,off,cap',he,hg,p0,p1,p2⟩ := HS2.out.getS BQ.out hy
     injection he with he1 he2 he3
     subst he1 he3
     have HEX : Hid (Wi.encSlot y = 108::([Bd.bInt y.1,Bd.bInt y.2.1,Bd.bInt y.2.2].flatten ++ [101])) := by simp [Hid,Wi.encSlot,Wi.listB]
     have HEL := hq' (Wi.encSlot_le hy0 hy1 hy2)
     obtain ⟨y0,y1,y2⟩ := y
     dsimp only at *
     generalize Wi.encSlot (y0,y1,y2) = es at *
     clear he2 hy
     have CY : Hid (Cl (wr.alloc (.cells #[.int .i64 y0,.int .i64 y1,.int .i64 y2] 109)) wr.heap.size [.int .i64 y0,.int .i64 y1,.int .i64 y2] 109) := Cl.new wr _ _
     have BA : Hid (Below wr.heap.size wr (wr.alloc (.cells #[.int .i64 y0,.int .i64 y1,.int .i64 y2] 109))) := (Below.refl _ _).alloc (Nat.le_refl _) _
     go_upto_region 11 with (fail)
     generalize wr.alloc (.cells #[.int .i64 y0,.int .i64 y1,.int .i64 y2] 109) = w8 at *
     have HLW : Hid (∀ W,Below w8.heap.size w8 W → Lw W) := fun W hW => HL.out.below (bt B2.out (bt BQ.out (bt BA.out hW)))
     have hne : some wr.heap.size ≠ v2.ownBlock := fun h => by have := (HP.out.lt _ h.symm).2; omega
     have HO8 : Hid (w8.ownsRow w2.heap.size 9 1 v2 (1 + j) (sv (rowL x0 (xs.take j)))) := ownsRow_below HP.out BA.out
     have hs8 := (bt BQ.out BA.out).size
     have BQ8 := hq' (bt BQ.out BA.out)
     generalize wr.heap.size = py at *
     have hm0 : Hid (∀ W,Below w8.heap.size w8 W → W.cell? ⟨py,0,none⟩ = some (.int .i64 y0) ∧ W.cell? ⟨py,1,none⟩ = some (.int .i64 y1) ∧ W.cell? ⟨py,2,none⟩ = some (.int .i64 y2)) := fun W hW => ⟨(Cl.cell (CY.out.below hW) 0),(Cl.cell (CY.out.below hW) 1),(Cl.cell (CY.out.below hW) 2)⟩
     have J1 := hq' (fun W (hW : Below w8.heap.size w8 W) => beadInt_any y0 (Wi.inR_num hy0) W (HLW.out W hW))
     have J2 := hq' (fun W (hW : Below w8.heap.size w8 W) => beadInt_any y1 (Wi.inR_num hy1) W (HLW.out W hW))
     have J3 := hq' (fun W (hW : Below w8.heap.size w8 W) => beadInt_any y2 (Wi.inR_num hy2) W (HLW.out W hW))
     have hlen3 : [Bd.bInt y0,Bd.bInt y1,Bd.bInt y2].flatten.length ≤ 130 := by
      have := HEL.out
      rw [HEX.out] at this
      simp only [List.length_cons,List.length_append] at this
      omega
     generalize Bd.bInt y0 = t1 at *
     generalize Bd.bInt y1 = t2 at *
     generalize Bd.bInt y2 = t3 at *
     have J6 := hq' (fun (W : World) => beadList_any _ _ _ (strs_row W [t1,t2,t3] _ (Below.refl _ _)) (by simp) (by omega))
     rw [← HEX.out] at J6
     have T0 : Hid (Below w8.heap.size w8 w8.drew) := (Below.refl _ _).drew
     obtain ⟨q0,q1,q2⟩ := hm0.out _ (Below.refl _ _)
     have hone : ∀ u ∈ [Value.string ⟨es.toArray⟩],u.oneCell' = true := by simp [Value.oneCell']
     have h63 : 1 + j + 1 ≤ maxLen := by unfold maxLen; omega
     have hby : (1 + j + 1) * 16 ≤ 140737488355328 := by omega
     clear p0 p1 p2 CY BA HP
     go_region_held3 (fun W => W.cell? ⟨py,0,none⟩ = some (.int .i64 y0) ∧ W.cell? ⟨py,1,none⟩ = some (.int .i64 y1) ∧ W.cell? ⟨py,2,none⟩ = some (.int .i64 y2)) (first | assumption | exact ⟨q0,q1,q2⟩ | exact S1.out | exact S2.out | exact S3.out | exact hm0.out _ U3.out | exact S6.out | exact hm0.out _ U6.out | exact S7.out) (first
      | (go_at_call 83; refine (J1.out _ T0.out).mono ?_; rintro e w91 ⟨rfl,hb91⟩; have T1 := hq' (bt T0.out hb91); have S1 := hq' (hm0.out _ T1.out); clear hb91)
      | (go_at_call 83; refine (J2.out _ T1.out).mono ?_; rintro e w92 ⟨rfl,hb92⟩; have T2 := hq' (bt T1.out hb92); have S2 := hq' (hm0.out _ T2.out); clear hb92)
      | (go_at_call 83; refine (J3.out _ T2.out).mono ?_; rintro e w93 ⟨rfl,hb93⟩; have T3 := hq' (bt T2.out hb93); have S3 := hq' (hm0.out _ T3.out); clear hb93; have U3 := hq' (T3.out.alloc T3.out.size (.cells #[.string ⟨t1.toArray⟩,.string ⟨t2.toArray⟩,.string ⟨t3.toArray⟩] 9)))
      | (go_at_call 46; refine (J6.out _).mono ?_; rintro e w96 ⟨rfl,hb96⟩; have T6 := hq' (bt U3.out hb96); have S6 := hq' (hm0.out _ T6.out); clear hb96; have U6 := hq' (T6.out.alloc T6.out.size (.cells #[.string ⟨es.toArray⟩] 9)); have HO6 := hq' (ownsRow_below HO8.out T6.out))
      | (refine step_append_lies _ (by rfl) _ _ _ (by rfl) w2.heap.size 9 i0 _ 1 16 Tryz.underlying93 hi hz0 hz1 hz2 rfl Nat.one_pos v2 (1 + j) (sv (rowL x0 (xs.take j))) (by rfl) (World.ownsRow.alloc HO6.out _) ⟨w96.heap.size,0,none⟩ 1 1 [.string ⟨es.toArray⟩] (by rfl) (by rfl) (cell_one_new _ _ _) hone Nat.one_pos h63 hby (Nat.le_trans hs8 U6.out.size) (w96.heap.size + 1) (World.size_alloc _ _) ?_; intro g11 cap11 w11 hown11 hg11 hat11 hlt11; have S7 := hq' (And.intro (hg11.cell (hm0.out _ U6.out).1 hne) (And.intro (hg11.cell (hm0.out _ U6.out).2.1 hne) (hg11.cell (hm0.out _ U6.out).2.2 hne)))))
     have H11 : Hid (w11.ownsRow w2.heap.size 9 1 (.slice (some ⟨g11,0,none⟩) (1 + j + 1) cap11) (1 + (j + 1)) (sv (rowL x0 (xs.take (j + 1))))) := by
      rw [Hid,HRS.out,sv_snoc]
      simpa [Nat.add_assoc] using hown11
     have BC : Hid (Below w2.heap.size w2 (w96.alloc (.cells #[.string ⟨es.toArray⟩] 9))) := bt BQ8.out U6.out
     have B11 : Hid (Below w2.heap.size w2 w11) := BC.out.grown hg11 BC.out.size (fun kk hkk => (HO6.out.lt kk hkk).1)
     clear hown11 hg11
     go_wp2
     go_roundw
     case rel => exact ⟨j + 1,_,by go_num,rfl,by omega,H11.out,B11.out⟩
     case measure => simp [intOf]; omega
    ·obtain rfl : j = xs.length := by omega
     have hpo := HP.out
     rw [List.take_length] at hpo
     have HSO := hq' (strs_own hpo)
     have hxl := HXL.out
     have hfl : (rowL x0 xs).flatten.length ≤ 252 := by
      have := congrArg List.length HRE.out
      simp only [List.length_cons,List.length_append,List.length_nil] at this
      omega
     have HLI := hq' (beadList_any _ _ _ HSO.out (by simp [rowL]; omega) (by omega))
     rw [HRE.out] at HLI
     have HOQ := hq' (ownsRow_below HO2.out BQ.out)
     clear hpo HSO hfl hxl HP HO2
     go_wp2_with fail
     refine HLI.out.mono ?_
     rintro e w10 ⟨rfl,hb10⟩
     have HO10 := hq' (ownsRow_below HOQ.out hb10)
     have B10 := hq' (bt B2.out (bt BQ.out hb10))
     have hs10 := B10.out.size
     clear hb10 HLI HOQ
     go_wp2_with (at_builtin; refine wpList_append_own _ rfl (.tmp 45) (.tmp 48) 93 rfl w.heap.size 9 i0 (.string ⟨#[]⟩) 1 16 Tryz.underlying93 hi hz0 hz1 hz2 rfl (by decide) _ _ _ rfl (World.ownsRow.alloc HO10.out _) ⟨w10.heap.size,0,none⟩ 1 1 [.string ⟨ex.toArray⟩] rfl rfl (cell_one_new _ _ _) ?_ ?_ ?_ ?_ ?_)
     ·simp [Value.oneCell']
     ·unfold maxLen; omega
     ·omega
     ·simp; omega
     intro v' w12 hown12 hg12 _
     have H12 : Hid (w12.ownsRow w.heap.size 9 1 v' (k + 1) (sv ((t.take (k + 1)).map Wi.encSeen))) := by
      rw [Hid,HTS.out,sv_snoc,List.map_take]
      exact hown12
     have B12 : Hid (Below w.heap.size w w12) := (B10.out.alloc B10.out.size _).grown hg12 (by simp; omega) (fun kk hkk => (HO10.out.lt kk hkk).1)
     clear hown12 hg12
     go_wp2
     go_roundw
     case rel => exact ⟨k + 1,_,by go_num,rfl,by omega,H12.out,B12.out⟩
     case measure => simp [intOf]; omega
  ·obtain rfl : k = t.length := by omega
   have ho := HO.out
   rw [List.take_length] at ho
   have HSO := hq' (strs_own ho)
   have htl := HTL.out
   have HEE : Hid (108::((t.map Wi.encSeen).flatten ++ [101]) = Wi.encTable t) := by simp [Hid,Wi.encTable,Wi.listB]
   have hfl : (t.map Wi.encSeen).flatten.length ≤ 16130 := by
    have := congrArg List.length HEE.out
    simp only [List.length_cons,List.length_append,List.length_nil] at this
    omega
   have HLI := hq' (beadList_any _ _ _ HSO.out (by simp; omega) (by omega))
   rw [HEE.out] at HLI
   clear ho HSO hfl htl HEE
   go_wp2_with fail
   refine HLI.out.mono ?_
   rintro e w10 ⟨rfl,hb10⟩
   have B10 := hq' (bt BR.out hb10)
   clear hb10
   go_wp2
   go_ret2
   exact ⟨rfl,B10.out⟩
end Go.Proofs.YtbljbdjmgogknaaGreatDoor
