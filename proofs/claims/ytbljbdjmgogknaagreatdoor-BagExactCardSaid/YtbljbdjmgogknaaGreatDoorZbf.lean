/-
  Go: texts of one proof, one behind the other.
  Conditions: none of its own.
-/
import Derived.Test.YtbljbdjmgogknaaGreatDoorZao
set_option linter.unusedVariables false
set_option linter.unusedSimpArgs false
set_option maxHeartbeats 12800000
set_option maxRecDepth 20000
namespace Go.Proofs.YtbljbdjmgogknaaGreatDoor
open Go.RowKit
def SomeB (Q : World → Prop) (e : Ending) (w' : World) : Prop := ∃ b : Bool,e = .returned (.bool b) ∧ Q w'
theorem small_any (x : MX) (w : World) (h : MsgAt w x.m x.v) (ok : MsgOk x.m) (cs : List Value) (hcs : mxC x = cs) : Calls Tryz.prog 9 #[.agg cs.toArray] w (SomeB (fun w' => Below w.heap.size w w')) := by
 obtain ⟨m,v⟩ := x
 have HCS : Hid (cs = msgC m v) := hcs.symm
 clear hcs
 have HT := hq' h.table
 have HB := hq' h.brecs
 have HQ := hq' h.qrecs
 have HA := hq' h.arecs
 obtain ⟨s9,c9,h9⟩ := h.chain.form
 obtain ⟨s11,c11,h11⟩ := h.lives.form
 obtain ⟨s18,c18,h18⟩ := h.table.form
 obtain ⟨s36,c36,h36⟩ := h.parts.form
 obtain ⟨s17,c17,h17⟩ := h.brecs.form
 obtain ⟨s29,c29,h29⟩ := h.qrecs.form
 obtain ⟨s37,c37,h37⟩ := h.arecs.form
 have o9 := ok.c.1
 have o11 := ok.l.1
 have o18 := ok.t.1
 have o36 := ok.p.1
 have o27 := ok.q.1
 have o28 := ok.q.2.1
 have o17 := ok.b.2.2.2.2.2.1
 have o29 := ok.q.2.2.1
 have o37 := ok.a.1
 have OB := hq' ok.b.2.2.2.2.2.2
 have OQ := hq' ok.q.2.2.2
 have OA := hq' ok.a.2
 have OT := hq' ok.t.2
 obtain ⟨v0,v1,v2,v3,v4,v5,v6⟩ := v
 simp only at h9 h11 h18 h36 h17 h29 h37 HB HQ HA HT o9 o11 o18 o36 o27 o28 o17 o29 o37 OB OQ OA OT
 subst h9 h11 h18 h36 h17 h29 h37
 unfold maxLen at o9 o11 o18 o36 o27 o28 o17 o29 o37
 have C1 : Hid (Cl (w.alloc (.cells cs.toArray 44)) w.heap.size cs 44) := Cl.new w cs _
 have B1 : Hid (Below w.heap.size w (w.alloc (.cells cs.toArray 44))) := (Below.refl _ _).alloc (Nat.le_refl _) _
 have d9 := (C1.out.cell 9).trans (show cs[9]? = some (.slice s9 m.chain.length c9) by rw [HCS.out]; rfl)
 have d11 := (C1.out.cell 11).trans (show cs[11]? = some (.slice s11 m.lives.length c11) by rw [HCS.out]; rfl)
 have d18 := (C1.out.cell 18).trans (show cs[18]? = some (.slice s18 m.table.length c18) by rw [HCS.out]; rfl)
 have d36 := (C1.out.cell 36).trans (show cs[36]? = some (.slice s36 m.resp.parts.length c36) by rw [HCS.out]; rfl)
 have d17 := (C1.out.cell 17).trans (show cs[17]? = some (.slice s17 m.batch.recs.length c17) by rw [HCS.out]; rfl)
 have d29 := (C1.out.cell 29).trans (show cs[29]? = some (.slice s29 m.req.recs.length c29) by rw [HCS.out]; rfl)
 have d37 := (C1.out.cell 37).trans (show cs[37]? = some (.slice s37 m.resp.recs.length c37) by rw [HCS.out]; rfl)
 have d27 := (C1.out.cell 27).trans (show cs[27]? = some (.string ⟨m.req.group.toArray⟩) by rw [HCS.out]; rfl)
 have d28 := (C1.out.cell 28).trans (show cs[28]? = some (.string ⟨m.req.member.toArray⟩) by rw [HCS.out]; rfl)
 clear h ok HCS
 go_enter Tryz.func9,Tryz.ntmps9
 go_upto_region 1 with (fail)
 generalize w.alloc (.cells cs.toArray 44) = w1 at *
 generalize hb1 : w.heap.size = b1 at *
 have HB1 := hq' hb1
 clear hb1
 generalize m.chain.length = n9 at *
 generalize m.lives.length = n11 at *
 generalize hn18 : m.table.length = n18 at *
 generalize m.resp.parts.length = n36 at *
 generalize hn17 : m.batch.recs.length = n17 at *
 generalize hn29 : m.req.recs.length = n29 at *
 generalize hn37 : m.resp.recs.length = n37 at *
 generalize m.req.group = g27 at *
 generalize m.req.member = g28 at *
 generalize m.table = tb at *
 generalize m.batch.recs = rb at *
 generalize m.req.recs = rq at *
 generalize m.resp.recs = ra at *
 go_cut [52] (fun t wz => (∃ b : Bool,t = .bool b) ∧ wz = w1)
 case first =>
  clear HT OT HB HQ HA OB OQ OA
  by_cases en29 : 20 < n29
  ·have in29 : (20 : Int) < ((n29 : Nat) : Int) := by omega
   go_wp2
   go_meet
   case rel => exact ⟨⟨_,rfl⟩,rfl⟩
  have in29 : ¬ (20 : Int) < ((n29 : Nat) : Int) := by omega
  have jn29 : n29 ≤ 20 := by omega
  by_cases en37 : 20 < n37
  ·have in37 : (20 : Int) < ((n37 : Nat) : Int) := by omega
   go_wp2
   go_meet
   case rel => exact ⟨⟨_,rfl⟩,rfl⟩
  have in37 : ¬ (20 : Int) < ((n37 : Nat) : Int) := by omega
  have jn37 : n37 ≤ 20 := by omega
  by_cases en17 : 20 < n17
  ·have in17 : (20 : Int) < ((n17 : Nat) : Int) := by omega
   go_wp2
   go_meet
   case rel => exact ⟨⟨_,rfl⟩,rfl⟩
  have in17 : ¬ (20 : Int) < ((n17 : Nat) : Int) := by omega
  have jn17 : n17 ≤ 20 := by omega
  by_cases en18 : 10 < n18
  ·have in18 : (10 : Int) < ((n18 : Nat) : Int) := by omega
   go_wp2
   go_meet
   case rel => exact ⟨⟨_,rfl⟩,rfl⟩
  have in18 : ¬ (10 : Int) < ((n18 : Nat) : Int) := by omega
  have jn18 : n18 ≤ 10 := by omega
  by_cases en11 : 20 < n11
  ·have in11 : (20 : Int) < ((n11 : Nat) : Int) := by omega
   go_wp2
   go_meet
   case rel => exact ⟨⟨_,rfl⟩,rfl⟩
  have in11 : ¬ (20 : Int) < ((n11 : Nat) : Int) := by omega
  have jn11 : n11 ≤ 20 := by omega
  by_cases en9 : 20 < n9
  ·have in9 : (20 : Int) < ((n9 : Nat) : Int) := by omega
   go_wp2
   go_meet
   case rel => exact ⟨⟨_,rfl⟩,rfl⟩
  have in9 : ¬ (20 : Int) < ((n9 : Nat) : Int) := by omega
  have jn9 : n9 ≤ 20 := by omega
  by_cases en36 : 20 < n36
  ·have in36 : (20 : Int) < ((n36 : Nat) : Int) := by omega
   go_wp2
   go_meet
   case rel => exact ⟨⟨_,rfl⟩,rfl⟩
  have in36 : ¬ (20 : Int) < ((n36 : Nat) : Int) := by omega
  have jn36 : n36 ≤ 20 := by omega
  go_wp2
  go_meet
  case rel => exact ⟨⟨_,rfl⟩,rfl⟩
 case rest =>
  obtain ⟨⟨b,rfl⟩,hwc⟩ := hcut
  have hwc' := hwc.symm
  clear hwc
  subst hwc'
  cases b with
  | true =>
   go_wp2
   go_ret
   exact ⟨_,rfl,by rw [HB1.out]; exact B1.out⟩
  | false =>
   go_upto_region 4 with (fail)
   go_cut [77] (fun t wz => (∃ b : Bool,t = .bool b) ∧ wz = w1)
   case first =>
    clear HT OT HB HQ HA OB OQ OA
    by_cases eg27 : 200 < g27.length
    ·have ig27 : (200 : Int) < ((g27.length : Nat) : Int) := by omega
     go_wp2
     go_meet
     case rel => exact ⟨⟨_,rfl⟩,rfl⟩
    have ig27 : ¬ (200 : Int) < ((g27.length : Nat) : Int) := by omega
    have jg27 : g27.length ≤ 200 := by omega
    by_cases eg28 : 200 < g28.length
    ·have ig28 : (200 : Int) < ((g28.length : Nat) : Int) := by omega
     go_wp2
     go_meet
     case rel => exact ⟨⟨_,rfl⟩,rfl⟩
    have ig28 : ¬ (200 : Int) < ((g28.length : Nat) : Int) := by omega
    have jg28 : g28.length ≤ 200 := by omega
    have iw : ¬ (400 : Int) < (g27.length : Int) + (g28.length : Int) := by omega
    go_wp2
    go_meet
    case rel => exact ⟨⟨_,rfl⟩,rfl⟩
   case rest =>
    obtain ⟨⟨b,rfl⟩,hwc⟩ := hcut
    have hwc' := hwc.symm
    clear hwc
    subst hwc'
    cases b with
    | true =>
     go_wp2
     go_ret
     exact ⟨_,rfl,by rw [HB1.out]; exact B1.out⟩
    | false =>
     go_wp2
     go_loop [4] (fun i => ∃ k : Nat,i = .int .i64 k ∧ k ≤ n17) (fun i => n17 - (intOf i).toNat)
     case atStart => exact ⟨0,rfl,by omega⟩
     case round =>
      obtain ⟨k,rfl,hk⟩ := hrel
      by_cases hlt : k < n17
      ·have hlti : (k : Int) < (n17 : Int) := by omega
       obtain ⟨x,hx⟩ : ∃ x,rb[k]? = some x := ⟨rb[k]'(by omega),by simp [show k < rb.length by omega]⟩
       have hxo := OB.out x (List.mem_of_getElem? hx)
       obtain ⟨g,off,cap',he,hg,p0,p1,p2,p3⟩ := HB.out.get (by rw [HB1.out]; exact B1.out) hx
       injection he with he1 he2 he3
       subst he1 he3
       clear he2 hx
       obtain ⟨xo,xk,xv,xg⟩ := x
       obtain ⟨_,hk1,hv1⟩ := hxo
       simp only at p0 p1 p2 p3 hk1 hv1
       unfold maxLen at hk1 hv1
       clear HT OT HB HQ HA OB OQ OA
       by_cases hk5 : 200 < xk.length
       ·have hk5i : (200 : Int) < (xk.length : Int) := by omega
        go_wp2
        go_ret
        exact ⟨_,rfl,by rw [HB1.out]; exact B1.out⟩
       ·have hk5i : ¬ (200 : Int) < (xk.length : Int) := by omega
        have hk5n : xk.length ≤ 200 := by omega
        by_cases hv5 : 200 < xv.length
        ·have hv5i : (200 : Int) < (xv.length : Int) := by omega
         go_wp2
         go_ret
         exact ⟨_,rfl,by rw [HB1.out]; exact B1.out⟩
        ·have hv5i : ¬ (200 : Int) < (xv.length : Int) := by omega
         have hv5n : xv.length ≤ 200 := by omega
         go_wp2
         go_round
         case rel => exact ⟨k + 1,by go_num,by omega⟩
         case measure => simp [intOf]; omega
      ·obtain rfl : k = n17 := by omega
       go_wp2
       go_loop [5] (fun i => ∃ k : Nat,i = .int .i64 k ∧ k ≤ n29) (fun i => n29 - (intOf i).toNat)
       case atStart => exact ⟨0,rfl,by omega⟩
       case round =>
        obtain ⟨k,rfl,hk⟩ := hrel
        by_cases hlt : k < n29
        ·have hlti : (k : Int) < (n29 : Int) := by omega
         obtain ⟨x,hx⟩ : ∃ x,rq[k]? = some x := ⟨rq[k]'(by omega),by simp [show k < rq.length by omega]⟩
         have hxo := OQ.out x (List.mem_of_getElem? hx)
         obtain ⟨g,off,cap',he,hg,p0,p1,p2,p3⟩ := HQ.out.get (by rw [HB1.out]; exact B1.out) hx
         injection he with he1 he2 he3
         subst he1 he3
         clear he2 hx
         obtain ⟨xo,xk,xv,xg⟩ := x
         obtain ⟨_,hk1,hv1⟩ := hxo
         simp only at p0 p1 p2 p3 hk1 hv1
         unfold maxLen at hk1 hv1
         clear HT OT HB HQ HA OB OQ OA
         by_cases hk5 : 200 < xk.length
         ·have hk5i : (200 : Int) < (xk.length : Int) := by omega
          go_wp2
          go_ret
          exact ⟨_,rfl,by rw [HB1.out]; exact B1.out⟩
         ·have hk5i : ¬ (200 : Int) < (xk.length : Int) := by omega
          have hk5n : xk.length ≤ 200 := by omega
          by_cases hv5 : 200 < xv.length
          ·have hv5i : (200 : Int) < (xv.length : Int) := by omega
           go_wp2
           go_ret
           exact ⟨_,rfl,by rw [HB1.out]; exact B1.out⟩
          ·have hv5i : ¬ (200 : Int) < (xv.length : Int) := by omega
           have hv5n : xv.length ≤ 200 := by omega
           go_wp2
           go_round
           case rel => exact ⟨k + 1,by go_num,by omega⟩
           case measure => simp [intOf]; omega
        ·obtain rfl : k = n29 := by omega
         go_wp2
         go_loop [6] (fun i => ∃ k : Nat,i = .int .i64 k ∧ k ≤ n37) (fun i => n37 - (intOf i).toNat)
         case atStart => exact ⟨0,rfl,by omega⟩
         case round =>
          obtain ⟨k,rfl,hk⟩ := hrel
          by_cases hlt : k < n37
          ·have hlti : (k : Int) < (n37 : Int) := by omega
           obtain ⟨x,hx⟩ : ∃ x,ra[k]? = some x := ⟨ra[k]'(by omega),by simp [show k < ra.length by omega]⟩
           have hxo := OA.out x (List.mem_of_getElem? hx)
           obtain ⟨g,off,cap',he,hg,p0,p1,p2,p3⟩ := HA.out.get (by rw [HB1.out]; exact B1.out) hx
           injection he with he1 he2 he3
           subst he1 he3
           clear he2 hx
           obtain ⟨xo,xk,xv,xg⟩ := x
           obtain ⟨_,hk1,hv1⟩ := hxo
           simp only at p0 p1 p2 p3 hk1 hv1
           unfold maxLen at hk1 hv1
           clear HT OT HB HQ HA OB OQ OA
           by_cases hk5 : 200 < xk.length
           ·have hk5i : (200 : Int) < (xk.length : Int) := by omega
            go_wp2
            go_ret
            exact ⟨_,rfl,by rw [HB1.out]; exact B1.out⟩
           ·have hk5i : ¬ (200 : Int) < (xk.length : Int) := by omega
            have hk5n : xk.length ≤ 200 := by omega
            by_cases hv5 : 200 < xv.length
            ·have hv5i : (200 : Int) < (xv.length : Int) := by omega
             go_wp2
             go_ret
             exact ⟨_,rfl,by rw [HB1.out]; exact B1.out⟩
            ·have hv5i : ¬ (200 : Int) < (xv.length : Int) := by omega
             have hv5n : xv.length ≤ 200 := by omega
             go_wp2
             go_round
             case rel => exact ⟨k + 1,by go_num,by omega⟩
             case measure => simp [intOf]; omega
          ·obtain rfl : k = n37 := by omega
           go_wp2
           go_loop [7] (fun i => ∃ k : Nat,i = .int .i64 k ∧ k ≤ n18) (fun i => n18 - (intOf i).toNat)
           case atStart => exact ⟨0,rfl,by omega⟩
           case round =>
            obtain ⟨k,rfl,hk⟩ := hrel
            by_cases hlt : k < n18
            ·have hlti : (k : Int) < (n18 : Int) := by omega
             obtain ⟨x,hx⟩ : ∃ x,tb[k]? = some x := ⟨tb[k]'(by omega),by simp [show k < tb.length by omega]⟩
             have hxo := (OT.out x (List.mem_of_getElem? hx)).2.1
             obtain ⟨g,off,cap',sv,he,hg,p0,p1,p2⟩ := HT.out.get (by rw [HB1.out]; exact B1.out) hx
             obtain ⟨s2,c2,rfl⟩ := p2.form
             injection he with he1 he2 he3
             subst he1 he3
             clear he2 p2
             unfold maxLen at hxo
             generalize x.2.length = nx at *
             by_cases h10 : 10 < nx
             ·have h10i : (10 : Int) < (nx : Int) := by omega
              go_wp2
              go_ret
              exact ⟨_,rfl,by rw [HB1.out]; exact B1.out⟩
             ·have h10i : ¬ (10 : Int) < (nx : Int) := by omega
              have h10n : nx ≤ 10 := by omega
              go_wp2
              go_round
              case rel => exact ⟨k + 1,by go_num,by omega⟩
              case measure => simp [intOf]; omega
            ·obtain rfl : k = n18 := by omega
             go_wp2
             go_ret
             exact ⟨_,rfl,by rw [HB1.out]; exact B1.out⟩
end Go.Proofs.YtbljbdjmgogknaaGreatDoor
