/-
  Crb: texts of one proof, one behind the other.
  Conditions: none of its own.
-/
import Derived.Test.YtbljbdjmgogknaaGreatDoorZab
set_option linter.unusedVariables false
set_option linter.unusedSimpArgs false
set_option maxHeartbeats 3200000
set_option maxRecDepth 20000
namespace Go.Proofs.YtbljbdjmgogknaaGreatDoor
open Go.RowKit
theorem refsame_any (a b : Cr.Batch) (ha : BatOk a) (hb : BatOk b) (av bv : Value) (w : World) (h1 : Recs w av a.recs) (h2 : Recs w bv b.recs) :
  Calls Tryz.prog 30 #[batV a av,batV b bv] w fun e w' => e = .returned (.bool (Cr.same a b)) ∧ Below w.heap.size w w' := by
 have H1 := hq' h1
 have H2 := hq' h2
 obtain ⟨aa,acap,rfl⟩ := h1.form
 obtain ⟨ba,bcap,rfl⟩ := h2.form
 have hla := ha.2.2.2.2.2.1
 have hlb := hb.2.2.2.2.2.1
 have hra := ha.2.2.2.2.2.2
 have hrb := hb.2.2.2.2.2.2
 obtain ⟨a0,a1,a2,a3,a4,al⟩ := a
 obtain ⟨b0,b1,b2,b3,b4,bl⟩ := b
 dsimp only at *
 have B1 : Hid (Below w.heap.size w (w.alloc (.cells #[.int .i64 a0,.int .i64 a1,.int .i64 a2,.int .i64 a3,.int .i64 a4,.slice aa al.length acap] 36))) := (Below.refl _ _).alloc (Nat.le_refl _) _
 have hsz : (w.alloc (.cells #[.int .i64 a0,.int .i64 a1,.int .i64 a2,.int .i64 a3,.int .i64 a4,.slice aa al.length acap] 36)).heap.size = w.heap.size + 1 := World.size_alloc _ _
 have C1 := hq' (bat_cells w ⟨a0,a1,a2,a3,a4,al⟩ (.slice aa al.length acap))
 have hw1 : w.alloc (.cells #[.int .i64 a0,.int .i64 a1,.int .i64 a2,.int .i64 a3,.int .i64 a4,.slice aa al.length acap] 36) = w.alloc (.cells (batCells ⟨a0,a1,a2,a3,a4,al⟩ (.slice aa al.length acap)) 36) := rfl
 have HW1 := hq' hw1
 have B2 : Hid (Below (w.alloc (.cells #[.int .i64 a0,.int .i64 a1,.int .i64 a2,.int .i64 a3,.int .i64 a4,.slice aa al.length acap] 36)).heap.size (w.alloc (.cells #[.int .i64 a0,.int .i64 a1,.int .i64 a2,.int .i64 a3,.int .i64 a4,.slice aa al.length acap] 36)) ((w.alloc (.cells #[.int .i64 a0,.int .i64 a1,.int .i64 a2,.int .i64 a3,.int .i64 a4,.slice aa al.length acap] 36)).alloc (.cells #[.int .i64 b0,.int .i64 b1,.int .i64 b2,.int .i64 b3,.int .i64 b4,.slice ba bl.length bcap] 36))) := (Below.refl _ _).alloc (Nat.le_refl _) _
 have C2 := hq' (bat_cells (w.alloc (.cells #[.int .i64 a0,.int .i64 a1,.int .i64 a2,.int .i64 a3,.int .i64 a4,.slice aa al.length acap] 36)) ⟨b0,b1,b2,b3,b4,bl⟩ (.slice ba bl.length bcap))
 have HE : Hid (Cr.same ⟨a0,a1,a2,a3,a4,al⟩ ⟨b0,b1,b2,b3,b4,bl⟩ = (a0 == b0 && a1 == b1 && a2 == b2 && a3 == b3 && a4 == b4 && Cr.recsEq al bl)) := rfl
 unfold maxLen at hla hlb
 rw [← hw1] at C1
 clear hw1 HW1 ha hb h1 h2
 unfold batV
 dsimp only
 unfold batCells at C2
 dsimp only at C1 C2
 have hsz2 : ((w.alloc (.cells #[.int .i64 a0,.int .i64 a1,.int .i64 a2,.int .i64 a3,.int .i64 a4,.slice aa al.length acap] 36)).alloc (.cells #[.int .i64 b0,.int .i64 b1,.int .i64 b2,.int .i64 b3,.int .i64 b4,.slice ba bl.length bcap] 36)).heap.size = w.heap.size + 2 := by rw [World.size_alloc,hsz]
 obtain ⟨d0,d1,d2,d3,d4,d5⟩ := C2.out _ (Below.refl _ _)
 obtain ⟨c0,c1,c2,c3,c4,c5⟩ := C1.out _ B2.out
 rw [hsz] at d0 d1 d2 d3 d4 d5
 by_cases e0 : a0 = b0
 rotate_left
 ·have HX : Hid (Cr.same ⟨a0,a1,a2,a3,a4,al⟩ ⟨b0,b1,b2,b3,b4,bl⟩ = false) := by
   rw [Hid,HE.out,show (a0 == b0) = false by simpa using e0]
   simp
  clear HE
  go_enter Tryz.func30,Tryz.ntmps30
  go_wp2
  go_ret
  exact ⟨by rw [HX.out]; rfl,bt B1.out B2.out⟩
 subst e0
 by_cases e1 : a1 = b1
 rotate_left
 ·have HX : Hid (Cr.same ⟨a0,a1,a2,a3,a4,al⟩ ⟨a0,b1,b2,b3,b4,bl⟩ = false) := by
   rw [Hid,HE.out,show (a1 == b1) = false by simpa using e1]
   simp
  clear HE
  go_enter Tryz.func30,Tryz.ntmps30
  go_wp2
  go_ret
  exact ⟨by rw [HX.out]; rfl,bt B1.out B2.out⟩
 subst e1
 by_cases e2 : a2 = b2
 rotate_left
 ·have HX : Hid (Cr.same ⟨a0,a1,a2,a3,a4,al⟩ ⟨a0,a1,b2,b3,b4,bl⟩ = false) := by
   rw [Hid,HE.out,show (a2 == b2) = false by simpa using e2]
   simp
  clear HE
  go_enter Tryz.func30,Tryz.ntmps30
  go_wp2
  go_ret
  exact ⟨by rw [HX.out]; rfl,bt B1.out B2.out⟩
 subst e2
 by_cases e3 : a3 = b3
 rotate_left
 ·have HX : Hid (Cr.same ⟨a0,a1,a2,a3,a4,al⟩ ⟨a0,a1,a2,b3,b4,bl⟩ = false) := by
   rw [Hid,HE.out,show (a3 == b3) = false by simpa using e3]
   simp
  clear HE
  go_enter Tryz.func30,Tryz.ntmps30
  go_wp2
  go_ret
  exact ⟨by rw [HX.out]; rfl,bt B1.out B2.out⟩
 subst e3
 by_cases e4 : a4 = b4
 rotate_left
 ·have HX : Hid (Cr.same ⟨a0,a1,a2,a3,a4,al⟩ ⟨a0,a1,a2,a3,b4,bl⟩ = false) := by
   rw [Hid,HE.out,show (a4 == b4) = false by simpa using e4]
   simp
  clear HE
  go_enter Tryz.func30,Tryz.ntmps30
  go_wp2
  go_ret
  exact ⟨by rw [HX.out]; rfl,bt B1.out B2.out⟩
 subst e4
 have BB : Hid (Below w.heap.size w ((w.alloc (.cells #[.int .i64 a0,.int .i64 a1,.int .i64 a2,.int .i64 a3,.int .i64 a4,.slice aa al.length acap] 36)).alloc (.cells #[.int .i64 a0,.int .i64 a1,.int .i64 a2,.int .i64 a3,.int .i64 a4,.slice ba bl.length bcap] 36))) := bt B1.out B2.out
 by_cases hlen : al.length = bl.length
 rotate_left
 ·have HX : Hid (Cr.same ⟨a0,a1,a2,a3,a4,al⟩ ⟨a0,a1,a2,a3,a4,bl⟩ = false) := by
   rw [Hid,HE.out,recsEq_len hlen]
   simp
  clear HE
  go_enter Tryz.func30,Tryz.ntmps30
  go_wp2
  go_ret
  exact ⟨by rw [HX.out]; rfl,BB.out⟩
 have HX : Hid (Cr.same ⟨a0,a1,a2,a3,a4,al⟩ ⟨a0,a1,a2,a3,a4,bl⟩ = Cr.recsEq al bl) := by
  rw [Hid,HE.out]
  simp
 clear HE
 have HLa := hq' (show al.length = al.length from rfl)
 generalize hna : al.length = n at *
 generalize hnb : bl.length = m at *
 subst hlen
 have HNA := hq' hna
 have HNB := hq' hnb
 clear hna hnb HLa hlb
 go_enter Tryz.func30,Tryz.ntmps30
 go_wp2
 generalize hw2 : ((w.alloc (.cells #[.int .i64 a0,.int .i64 a1,.int .i64 a2,.int .i64 a3,.int .i64 a4,.slice aa n acap] 36)).alloc (.cells #[.int .i64 a0,.int .i64 a1,.int .i64 a2,.int .i64 a3,.int .i64 a4,.slice ba n bcap] 36)) = w2 at *
 go_loopw [5] (fun i wr => ∃ k q : Nat,i = .int .i64 k ∧ k ≤ n ∧ Cr.recsEq al bl = Cr.recsEq (al.drop k) (bl.drop k) ∧ wr = w2.drewN q) (fun i _ => n - (intOf i).toNat)
 case atStart => exact ⟨0,0,rfl,by omega,rfl,rfl⟩
 case round =>
  obtain ⟨k,q,rfl,hk,hq,rfl⟩ := hrel
  have HQ := hq' hq
  clear hq
  by_cases hlt : k < n
  ·obtain ⟨x,hx⟩ : ∃ x,al[k]? = some x := ⟨al[k]'(by rw [HNA.out]; exact hlt),by simp⟩
   obtain ⟨y,hy⟩ : ∃ y,bl[k]? = some y := ⟨bl[k]'(by rw [HNB.out]; exact hlt),by simp⟩
   have HS := hq' (recsEq_step hx hy)
   obtain ⟨g,off,cap',he,hg,p0,p1,p2,p3⟩ := H1.out.get BB.out hx
   injection he with he1 he2 he3
   subst he1 he3
   obtain ⟨g2,off2,cap2',he',hg2,s0,s1,s2,s3⟩ := H2.out.get BB.out hy
   injection he' with he1' he2' he3'
   subst he1' he3'
   obtain ⟨x0,xk,xv,xg⟩ := x
   obtain ⟨y0,yk,yv,yg⟩ := y
   dsimp only at *
   clear he2 he2'
   have hn := fun w => rec_neq x0 y0 xk yk xv yv xg yg w
   cases hb : Cr.recEq ⟨x0,xk,xv,xg⟩ ⟨y0,yk,yv,yg⟩ with
   | true =>
    have HX2 : Hid (Cr.recsEq al bl = Cr.recsEq (al.drop (k + 1)) (bl.drop (k + 1))) := by rw [Hid,HQ.out,HS.out,hb]; rfl
    simp only [hb,Bool.not_true] at hn
    clear HS hb
    go_wp2
    go_quiet (fail)
    go_wp2
    go_roundw
    case rel => exact ⟨k + 1,_,by go_num,by omega,HX2.out,rfl⟩
    case measure => simp [intOf]; omega
   | false =>
    have HX2 : Hid (Cr.recsEq al bl = false) := by rw [Hid,HQ.out,HS.out,hb]; rfl
    simp only [hb,Bool.not_false] at hn
    clear HS hb
    go_wp2
    go_quiet (fail)
    have BQ : Hid (Below w.heap.size w ((w2.drewN q).drewN nq)) := below_drewN (below_drewN BB.out q) nq
    go_wp2
    go_ret
    exact ⟨by rw [HX.out,HX2.out]; rfl,BQ.out⟩
  ·obtain rfl : k = n := by omega
   have HX2 : Hid (Cr.recsEq al bl = true) := by rw [Hid,HQ.out,List.drop_of_length_le (by rw [HNA.out]; exact Nat.le_refl _),List.drop_of_length_le (by rw [HNB.out]; exact Nat.le_refl _)]; rfl
   have BQ : Hid (Below w.heap.size w (w2.drewN q)) := below_drewN BB.out q
   go_wp2
   go_ret
   exact ⟨by rw [HX.out,HX2.out]; rfl,BQ.out⟩
end Go.Proofs.YtbljbdjmgogknaaGreatDoor
