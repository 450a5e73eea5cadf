/-
  Ya: texts of one proof, one behind the other.
  Conditions: none of its own.
-/
import Derived.Test.YtbljbdjmgogknaaGreatDoorZad
set_option linter.unusedVariables false
set_option linter.unusedSimpArgs false
set_option maxHeartbeats 6400000
set_option maxRecDepth 20000
namespace Go.Proofs.YtbljbdjmgogknaaGreatDoor
open Go.RowKit
theorem refInts_any (l r : List Int) (hl : l.length ≤ maxLen) (hr : r.length ≤ maxLen) (lv rv : Value) (w : World) (h1 : Ints w lv l) (h2 : Ints w rv r) :
  Calls Tryz.prog 62 #[lv,rv] w fun e w' => e = .returned (.bool (decide (l = r))) ∧ Below w.heap.size w w' := by
 have H1 := hq' h1
 have H2 := hq' h2
 obtain ⟨a1,cap1,rfl⟩ := h1.form
 obtain ⟨a2,cap2,rfl⟩ := h2.form
 unfold maxLen at hl hr
 clear h1 h2
 by_cases hlen : l.length = r.length
 rotate_left
 ·have HX := hq' (Wi.eq_len hlen)
  go_enter Tryz.func62,Tryz.ntmps62
  go_wp2
  go_ret
  exact ⟨by rw [HX.out]; rfl,Below.refl _ _⟩
 have HLEN := hq' hlen
 have hne : ((l.length : Int) != (r.length : Int)) = false := by simp [hlen]
 clear hlen
 go_enter Tryz.func62,Tryz.ntmps62
 go_wp2
 go_loopw [5] (fun i wr => ∃ k q : Nat,i = .int .i64 k ∧ k ≤ l.length ∧ decide (l = r) = decide (l.drop k = r.drop k) ∧ wr = w.drewN q) (fun i _ => l.length - (intOf i).toNat)
 case atStart => exact ⟨0,0,rfl,by omega,rfl,rfl⟩
 case round =>
  obtain ⟨k,q,rfl,hk,hq,rfl⟩ := hrel
  have HQ := hq' hq
  clear hq
  by_cases hlt : k < l.length
  ·have hlti : (k : Int) < (l.length : Int) := by omega
   have hk2 : k < r.length := by have := HLEN.out; omega
   have hk2i : (k : Int) < (r.length : Int) := by omega
   obtain ⟨x,hx⟩ : ∃ x,l[k]? = some x := ⟨l[k],by simp [hlt]⟩
   obtain ⟨y,hy⟩ : ∃ y,r[k]? = some y := ⟨r[k],by simp [hk2]⟩
   have HS := hq' (Wi.eq_step (α := Int) hx hy)
   obtain ⟨g,off,cap',he,hg,p0⟩ := H1.out.get (Below.refl _ w) hx
   injection he with he1 he2 he3
   subst he1 he3
   obtain ⟨g2,off2,cap2',he',hg2,s0⟩ := H2.out.get (Below.refl _ w) hy
   injection he' with he'1 he'2 he'3
   subst he'1 he'3
   clear he2 he'2 hx hy
   skip
   cases hb : decide (x = y) with
   | true =>
    have HX2 : Hid (decide (l = r) = decide (l.drop (k + 1) = r.drop (k + 1))) := by rw [Hid,HQ.out,HS.out,hb]; rfl
    have hn : (x != y) = false := by simpa using hb
    clear HS hb HQ
    go_wp2
    go_quiet (fail)
    go_wp2
    go_roundw
    case rel => exact ⟨k + 1,_,by go_num,by omega,HX2.out,rfl⟩
    case measure => simp [intOf]; omega
   | false =>
    have HX2 : Hid (decide (l = r) = false) := by rw [Hid,HQ.out,HS.out,hb]; rfl
    have hn : (x != y) = true := by simpa using hb
    clear HS hb HQ
    go_wp2
    go_quiet (fail)
    have BQ : Hid (Below w.heap.size w ((w.drewN q).drewN nq)) := below_drewN (below_drewN (Below.refl _ _) q) nq
    go_wp2
    go_ret
    exact ⟨by rw [HX2.out]; rfl,BQ.out⟩
  ·obtain rfl : k = l.length := by omega
   have HX2 : Hid (decide (l = r) = true) := by rw [Hid,HQ.out]; exact Wi.eq_end HLEN.out
   have BQ : Hid (Below w.heap.size w (w.drewN q)) := below_drewN (Below.refl _ _) q
   go_wp2
   go_ret
   exact ⟨by rw [HX2.out]; rfl,BQ.out⟩
theorem refLives_any (l r : List (Int × Int)) (hl : l.length ≤ maxLen) (hr : r.length ≤ maxLen) (lv rv : Value) (w : World) (h1 : Rw 2 lifeC w lv l) (h2 : Rw 2 lifeC w rv r) :
  Calls Tryz.prog 29 #[lv,rv] w fun e w' => e = .returned (.bool (decide (l = r))) ∧ Below w.heap.size w w' := by
 have H1 := hq' h1
 have H2 := hq' h2
 obtain ⟨a1,cap1,rfl⟩ := h1.form
 obtain ⟨a2,cap2,rfl⟩ := h2.form
 unfold maxLen at hl hr
 clear h1 h2
 by_cases hlen : l.length = r.length
 rotate_left
 ·have HX := hq' (Wi.eq_len hlen)
  go_enter Tryz.func29,Tryz.ntmps29
  go_wp2
  go_ret
  exact ⟨by rw [HX.out]; rfl,Below.refl _ _⟩
 have HLEN := hq' hlen
 have hne : ((l.length : Int) != (r.length : Int)) = false := by simp [hlen]
 clear hlen
 go_enter Tryz.func29,Tryz.ntmps29
 go_wp2
 go_loopw [5] (fun i wr => ∃ k q : Nat,i = .int .i64 k ∧ k ≤ l.length ∧ decide (l = r) = decide (l.drop k = r.drop k) ∧ wr = w.drewN q) (fun i _ => l.length - (intOf i).toNat)
 case atStart => exact ⟨0,0,rfl,by omega,rfl,rfl⟩
 case round =>
  obtain ⟨k,q,rfl,hk,hq,rfl⟩ := hrel
  have HQ := hq' hq
  clear hq
  by_cases hlt : k < l.length
  ·have hlti : (k : Int) < (l.length : Int) := by omega
   have hk2 : k < r.length := by have := HLEN.out; omega
   have hk2i : (k : Int) < (r.length : Int) := by omega
   obtain ⟨x,hx⟩ : ∃ x,l[k]? = some x := ⟨l[k],by simp [hlt]⟩
   obtain ⟨y,hy⟩ : ∃ y,r[k]? = some y := ⟨r[k],by simp [hk2]⟩
   have HS := hq' (Wi.eq_step (α := (Int × Int)) hx hy)
   obtain ⟨g,off,cap',he,hg,p0⟩ := H1.out.get (Below.refl _ w) hx
   injection he with he1 he2 he3
   subst he1 he3
   obtain ⟨g2,off2,cap2',he',hg2,s0⟩ := H2.out.get (Below.refl _ w) hy
   injection he' with he'1 he'2 he'3
   subst he'1 he'3
   clear he2 he'2 hx hy
   obtain ⟨x0,x1⟩ := x
   obtain ⟨y0,y1⟩ := y
   have a0 : w.cell? ⟨g,off + k * 2,none⟩ = some (.int .i64 x0) := p0 0 _ rfl
   have b0 : w.cell? ⟨g2,off2 + k * 2,none⟩ = some (.int .i64 y0) := s0 0 _ rfl
   have a1 : w.cell? ⟨g,off + k * 2 + 1,none⟩ = some (.int .i64 x1) := p0 1 _ rfl
   have b1 : w.cell? ⟨g2,off2 + k * 2 + 1,none⟩ = some (.int .i64 y1) := s0 1 _ rfl
   clear p0 s0
   have hn := fun w => life_neq x0 x1 y0 y1 w
   cases hb : decide ((x0,x1) = (y0,y1)) with
   | true =>
    have HX2 : Hid (decide (l = r) = decide (l.drop (k + 1) = r.drop (k + 1))) := by rw [Hid,HQ.out,HS.out,hb]; rfl
    simp only [hb,Bool.not_true] at hn
    clear HS hb HQ
    go_wp2
    go_quiet (fail)
    go_wp2
    go_roundw
    case rel => exact ⟨k + 1,_,by go_num,by omega,HX2.out,rfl⟩
    case measure => simp [intOf]; omega
   | false =>
    have HX2 : Hid (decide (l = r) = false) := by rw [Hid,HQ.out,HS.out,hb]; rfl
    simp only [hb,Bool.not_false] at hn
    clear HS hb HQ
    go_wp2
    go_quiet (fail)
    have BQ : Hid (Below w.heap.size w ((w.drewN q).drewN nq)) := below_drewN (below_drewN (Below.refl _ _) q) nq
    go_wp2
    go_ret
    exact ⟨by rw [HX2.out]; rfl,BQ.out⟩
  ·obtain rfl : k = l.length := by omega
   have HX2 : Hid (decide (l = r) = true) := by rw [Hid,HQ.out]; exact Wi.eq_end HLEN.out
   have BQ : Hid (Below w.heap.size w (w.drewN q)) := below_drewN (Below.refl _ _) q
   go_wp2
   go_ret
   exact ⟨by rw [HX2.out]; rfl,BQ.out⟩
theorem refTab_any (l r : List Wi.Seen) (hl : l.length ≤ maxLen ∧ ∀ x ∈ l,x.2.length ≤ maxLen) (hr : r.length ≤ maxLen ∧ ∀ x ∈ r,x.2.length ≤ maxLen) (lv rv : Value) (w : World) (h1 : Tbl w lv l) (h2 : Tbl w rv r) :
  Calls Tryz.prog 31 #[lv,rv] w fun e w' => e = .returned (.bool (decide (l = r))) ∧ Below w.heap.size w w' := by
 have H1 := hq' h1
 have H2 := hq' h2
 obtain ⟨a1,cap1,rfl⟩ := h1.form
 obtain ⟨a2,cap2,rfl⟩ := h2.form
 obtain ⟨hl,hl2⟩ := hl
 obtain ⟨hr,hr2⟩ := hr
 have LL := hq' hl2
 have LR := hq' hr2
 unfold maxLen at hl hr
 clear h1 h2 hl2 hr2
 by_cases hlen : l.length = r.length
 rotate_left
 ·have HX := hq' (Wi.eq_len hlen)
  go_enter Tryz.func31,Tryz.ntmps31
  go_wp2
  go_ret
  exact ⟨by rw [HX.out]; rfl,Below.refl _ _⟩
 have HLEN := hq' hlen
 have hne : ((l.length : Int) != (r.length : Int)) = false := by simp [hlen]
 clear hlen
 go_enter Tryz.func31,Tryz.ntmps31
 go_wp2
 go_loopw [5] (fun i wr => ∃ k q : Nat,i = .int .i64 k ∧ k ≤ l.length ∧ decide (l = r) = decide (l.drop k = r.drop k) ∧ wr = w.drewN q) (fun i _ => l.length - (intOf i).toNat)
 case atStart => exact ⟨0,0,rfl,by omega,rfl,rfl⟩
 case round =>
  obtain ⟨k,q,rfl,hk,hq,rfl⟩ := hrel
  have HQ := hq' hq
  clear hq
  by_cases hlt : k < l.length
  ·have hlti : (k : Int) < (l.length : Int) := by omega
   have hk2 : k < r.length := by have := HLEN.out; omega
   have hk2i : (k : Int) < (r.length : Int) := by omega
   obtain ⟨x,hx⟩ : ∃ x,l[k]? = some x := ⟨l[k],by simp [hlt]⟩
   obtain ⟨y,hy⟩ : ∃ y,r[k]? = some y := ⟨r[k],by simp [hk2]⟩
   have HS := hq' (Wi.eq_step (α := Wi.Seen) hx hy)
   have lx := LL.out x (List.mem_of_getElem? hx)
   have ly := LR.out y (List.mem_of_getElem? hy)
   obtain ⟨g,off,cap',sv,he,hg,p0,p1,ps⟩ := H1.out.get (Below.refl _ w) hx
   injection he with he1 he2 he3
   subst he1 he3
   obtain ⟨g2,off2,cap2',tv,he',hg2,s0,s1,ss⟩ := H2.out.get (Below.refl _ w) hy
   injection he' with he'1 he'2 he'3
   subst he'1 he'3
   obtain ⟨xp,xs⟩ := x
   obtain ⟨yp,ys⟩ := y
   have PS := hq' ps
   have SS := hq' ss
   obtain ⟨s1a,s1c,rfl⟩ := ps.form
   obtain ⟨s2a,s2c,rfl⟩ := ss.form
   dsimp only at *
   unfold maxLen at lx ly
   clear he2 he'2 ps ss hx hy
   by_cases hp : xp = yp
   rotate_left
   ·have HX2 : Hid (decide (l = r) = false) := by rw [Hid,HQ.out,HS.out,decide_eq_false (fun e => hp (congrArg Prod.fst e))]; rfl
    have hn : (xp != yp) = true := by simpa using hp
    clear HS HQ hp
    go_wp2
    go_quiet (fail)
    have BQ : Hid (Below w.heap.size w ((w.drewN q).drewN nq)) := below_drewN (below_drewN (Below.refl _ _) q) nq
    go_wp2
    go_ret
    exact ⟨by rw [HX2.out]; rfl,BQ.out⟩
   subst hp
   by_cases hsl : xs.length = ys.length
   rotate_left
   ·have HX2 : Hid (decide (l = r) = false) := by rw [Hid,HQ.out,HS.out,decide_eq_false (fun e => hsl (congrArg (fun z : Wi.Seen => z.2.length) e))]; rfl
    have hn : (xp != xp) = false := by simp
    have hn2 : ((xs.length : Int) != (ys.length : Int)) = true := by simp; omega
    clear HS HQ
    go_wp2
    go_quiet (fail)
    have BQ : Hid (Below w.heap.size w ((w.drewN q).drewN nq)) := below_drewN (below_drewN (Below.refl _ _) q) nq
    go_wp2
    go_ret
    exact ⟨by rw [HX2.out]; rfl,BQ.out⟩
   have HSL := hq' hsl
   have hn : (xp != xp) = false := by simp
   have hn2 : ((xs.length : Int) != (ys.length : Int)) = false := by simp; omega
   clear hsl
   have HX3 : Hid (decide (l = r) = (decide (xs = ys) && decide (l.drop (k + 1) = r.drop (k + 1)))) := by
    rw [Hid,HQ.out,HS.out]
    congr 1
    exact decide_eq_decide.2 ⟨fun e => congrArg Prod.snd e,fun e => by rw [e]⟩
   clear HS HQ
   go_wp2
   go_quiet (fail)
   go_wp2
   go_loopw [6] (fun i wr => ∃ j q : Nat,i = .int .i64 j ∧ j ≤ xs.length ∧ decide (xs = ys) = decide (xs.drop j = ys.drop j) ∧ wr = w.drewN q) (fun i _ => xs.length - (intOf i).toNat)
   case atStart => exact ⟨0,_,rfl,by omega,rfl,World.drewN_drewN _ _ _⟩
   case round =>
    obtain ⟨j,q3,rfl,hj,hq3,rfl⟩ := hrel
    have HQ := hq' hq3
    clear hq3
    by_cases hjl : j < xs.length
    ·have hjli : (j : Int) < (xs.length : Int) := by omega
     have hjy : j < ys.length := by have := HSL.out; omega
     have hjyi : (j : Int) < (ys.length : Int) := by omega
     obtain ⟨x,hx⟩ : ∃ x,xs[j]? = some x := ⟨xs[j],by simp [hjl]⟩
     obtain ⟨y,hy⟩ : ∃ y,ys[j]? = some y := ⟨ys[j],by simp [hjy]⟩
     have HS := hq' (Wi.eq_step (α := Wi.Slot) hx hy)
     obtain ⟨g3,off3,cap3',he,hg3,pc⟩ := PS.out.get (Below.refl _ w) hx
     injection he with he1 he2 he3
     subst he1 he3
     obtain ⟨g4,off4,cap4',he',hg4,sc⟩ := SS.out.get (Below.refl _ w) hy
     injection he' with he'1 he'2 he'3
     subst he'1 he'3
     obtain ⟨x0,x1,x2⟩ := x
     obtain ⟨y0,y1,y2⟩ := y
     have c0 : w.cell? ⟨g3,off3 + j * 3,none⟩ = some (.int .i64 x0) := pc 0 _ rfl
     have d0 : w.cell? ⟨g4,off4 + j * 3,none⟩ = some (.int .i64 y0) := sc 0 _ rfl
     have c1 : w.cell? ⟨g3,off3 + j * 3 + 1,none⟩ = some (.int .i64 x1) := pc 1 _ rfl
     have d1 : w.cell? ⟨g4,off4 + j * 3 + 1,none⟩ = some (.int .i64 y1) := sc 1 _ rfl
     have c2 : w.cell? ⟨g3,off3 + j * 3 + 2,none⟩ = some (.int .i64 x2) := pc 2 _ rfl
     have d2 : w.cell? ⟨g4,off4 + j * 3 + 2,none⟩ = some (.int .i64 y2) := sc 2 _ rfl
     have hm := fun w => slot_neq x0 x1 x2 y0 y1 y2 w
     clear pc sc he2 he'2 hx hy
     cases hb : decide ((x0,x1,x2) = (y0,y1,y2)) with
     | true =>
      have HX2 : Hid (decide (xs = ys) = decide (xs.drop (j + 1) = ys.drop (j + 1))) := by rw [Hid,HQ.out,HS.out,hb]; rfl
      simp only [hb,Bool.not_true] at hm
      clear HS hb HQ
      go_wp2
      go_quiet (fail)
      go_wp2
      go_roundw
      case rel => exact ⟨j + 1,_,by go_num,by omega,HX2.out,rfl⟩
      case measure => simp [intOf]; omega
     | false =>
      have HX2 : Hid (decide (l = r) = false) := by rw [Hid,HX3.out,HQ.out,HS.out,hb]; rfl
      simp only [hb,Bool.not_false] at hm
      clear HS hb HQ
      go_wp2
      go_quiet (fail)
      have BQ : Hid (Below w.heap.size w ((w.drewN q3).drewN nq)) := below_drewN (below_drewN (Below.refl _ _) q3) nq
      go_wp2
      go_ret
      exact ⟨by rw [HX2.out]; rfl,BQ.out⟩
    ·obtain rfl : j = xs.length := by omega
     have HX2 : Hid (decide (l = r) = decide (l.drop (k + 1) = r.drop (k + 1))) := by rw [Hid,HX3.out,HQ.out,Wi.eq_end HSL.out]; rfl
     go_wp2
     go_roundw
     case rel => exact ⟨k + 1,_,by go_num,by omega,HX2.out,rfl⟩
     case measure => simp [intOf]; omega
  ·obtain rfl : k = l.length := by omega
   have HX2 : Hid (decide (l = r) = true) := by rw [Hid,HQ.out]; exact Wi.eq_end HLEN.out
   have BQ : Hid (Below w.heap.size w (w.drewN q)) := below_drewN (Below.refl _ _) q
   go_wp2
   go_ret
   exact ⟨by rw [HX2.out]; rfl,BQ.out⟩
end Go.Proofs.YtbljbdjmgogknaaGreatDoor
