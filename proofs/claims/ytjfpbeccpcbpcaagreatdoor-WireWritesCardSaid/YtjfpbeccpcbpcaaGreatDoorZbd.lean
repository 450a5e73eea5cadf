/-
  Wgr / Ya: texts of one proof, one behind the other.
  Conditions: none of its own.
-/
import Derived.Test.YtjfpbeccpcbpcaaGreatDoorZad
import Derived.Test.YtjfpbeccpcbpcaaGreatDoorZbc
import Derived.Deep.DeepCutAuto
import Derived.Deep.CutBlock
import Derived.BigQuiet
set_option linter.unusedVariables false
set_option linter.unusedSimpArgs false
namespace Go.Proofs.YtjfpbeccpcbpcaaGreatDoor
open Go.RowKit
def SomeB (Q : World → Prop) (e : Ending) (w' : World) : Prop := ∃ b : Bool, e = .returned (.bool b) ∧ Q w'
set_option maxRecDepth 20000 in
set_option maxHeartbeats 3200000 in
theorem lrecs_any (l : List Cr.Rec) (hl : l.length ≤ maxLen) (ho : ∀ x ∈ l, RecOk x) (v : Value) (w : World) (h : Recs w v l) :
  Calls Tryz.prog 21 #[v] w (SomeB (fun w' => w' = w)) := by
 have HZ := Lib.hid h
 have HO := Lib.hid ho
 obtain ⟨a, cap, rfl⟩ := h.form
 unfold maxLen at hl
 clear h ho
 by_cases h30 : 30 < l.length
 ·have h30i : (30 : Int) < (l.length : Int) := by omega
  go_enter Tryz.func21, Tryz.ntmps21
  go_wp2
  go_ret
  exact ⟨true, rfl, rfl⟩
 have h30i : ¬ (30 : Int) < (l.length : Int) := by omega
 have h30n : l.length ≤ 30 := by omega
 go_enter Tryz.func21, Tryz.ntmps21
 go_wp2
 go_loop [3] (fun i => ∃ k : Nat, i = .int .i64 k ∧ k ≤ l.length) (fun i => l.length - (intOf i).toNat)
 case atStart => exact ⟨0, rfl, by omega⟩
 case round =>
  obtain ⟨k, rfl, hk⟩ := hrel
  by_cases hlt : k < l.length
  ·have hlti : (k : Int) < (l.length : Int) := by omega
   obtain ⟨x, hx⟩ : ∃ x, l[k]? = some x := ⟨l[k], by simp [hlt]⟩
   have hxo := HO.out x (List.mem_of_getElem? hx)
   obtain ⟨g, off, cap', he, hg, p0, p1, p2, p3⟩ := HZ.out.get (Below.refl _ _) hx
   injection he with he1 he2 he3
   subst he1 he3
   clear he2 hx
   obtain ⟨xo, xk, xv, xg⟩ := x
   obtain ⟨_, hk1, hv1⟩ := hxo
   simp only at p0 p1 p2 p3 hk1 hv1
   unfold maxLen at hk1 hv1
   by_cases hk5 : 500 < xk.length
   ·have hk5i : (500 : Int) < (xk.length : Int) := by omega
    go_wp2
    go_ret
    exact ⟨true, rfl, rfl⟩
   ·have hk5i : ¬ (500 : Int) < (xk.length : Int) := by omega
    have hk5n : xk.length ≤ 500 := by omega
    by_cases hv5 : 500 < xv.length
    ·have hv5i : (500 : Int) < (xv.length : Int) := by omega
     go_wp2
     go_ret
     exact ⟨true, rfl, rfl⟩
    ·have hv5i : ¬ (500 : Int) < (xv.length : Int) := by omega
     have hv5n : xv.length ≤ 500 := by omega
     go_wp2
     go_round
     case rel => exact ⟨k + 1, by go_num, by omega⟩
     case measure => simp [intOf]; omega
  ·obtain rfl : k = l.length := by omega
   go_wp2
   go_ret
   exact ⟨false, rfl, rfl⟩
set_option maxRecDepth 20000 in
set_option maxHeartbeats 6400000 in
theorem great_any (m : Wi.Msg) (v : MsgV) (w : World) (h : MsgAt w m v) (ok : MsgOk m) : Calls Tryz.prog 10 #[msgV m v] w (SomeB (fun w' => Below w.heap.size w w')) := by
 obtain ⟨cs, hmv, HCS, HIL, HIA, HON, HSZ⟩ := msg_cells m v w h
 have HR1 := Lib.hid (fun W (hW : Below w.heap.size w W) => lrecs_any m.batch.recs ok.b.2.2.2.2.2.1 ok.b.2.2.2.2.2.2 v.brecs W (h.brecs.kept hW))
 have HR2 := Lib.hid (fun W (hW : Below w.heap.size w W) => lrecs_any m.req.recs ok.q.2.2.1 ok.q.2.2.2 v.qrecs W (h.qrecs.kept hW))
 have HR3 := Lib.hid (fun W (hW : Below w.heap.size w W) => lrecs_any m.resp.recs ok.a.1 ok.a.2 v.arecs W (h.arecs.kept hW))
 have HT := Lib.hid h.table
 obtain ⟨s9, c9, h9⟩ := h.chain.form
 obtain ⟨s11, c11, h11⟩ := h.lives.form
 obtain ⟨s18, c18, h18⟩ := h.table.form
 obtain ⟨s36, c36, h36⟩ := h.parts.form
 obtain ⟨s17, c17, h17⟩ := h.brecs.form
 obtain ⟨s29, c29, h29⟩ := h.qrecs.form
 obtain ⟨s37, c37, h37⟩ := h.arecs.form
 have o9 := ok.c.1
 have o11 := ok.l.1
 have o18 := ok.t.1
 have o36 := ok.p.1
 have o27 := ok.q.1
 have o28 := ok.q.2.1
 have OT := Lib.hid ok.t.2
 obtain ⟨v0, v1, v2, v3, v4, v5, v6⟩ := v
 simp only at h9 h11 h18 h36 h17 h29 h37 HR1 HR2 HR3 HT
 subst h9 h11 h18 h36 h17 h29 h37
 unfold maxLen at o9 o11 o18 o36 o27 o28
 rw [hmv]
 have C1 : Hid (Cl (w.alloc (.cells cs.toArray 36)) w.heap.size cs 36) := Cl.new w cs _
 have B1 : Hid (Below w.heap.size w (w.alloc (.cells cs.toArray 36))) := (Below.refl _ _).alloc (Nat.le_refl _) _
 have d9 := (C1.out.cell 9).trans (show cs[9]? = some (.slice s9 m.chain.length c9) by rw [HCS.out]; rfl)
 have d11 := (C1.out.cell 11).trans (show cs[11]? = some (.slice s11 m.lives.length c11) by rw [HCS.out]; rfl)
 have d18 := (C1.out.cell 18).trans (show cs[18]? = some (.slice s18 m.table.length c18) by rw [HCS.out]; rfl)
 have d36 := (C1.out.cell 36).trans (show cs[36]? = some (.slice s36 m.resp.parts.length c36) by rw [HCS.out]; rfl)
 have d17 := (C1.out.cell 17).trans (show cs[17]? = some (.slice s17 m.batch.recs.length c17) by rw [HCS.out]; rfl)
 have d29 := (C1.out.cell 29).trans (show cs[29]? = some (.slice s29 m.req.recs.length c29) by rw [HCS.out]; rfl)
 have d37 := (C1.out.cell 37).trans (show cs[37]? = some (.slice s37 m.resp.recs.length c37) by rw [HCS.out]; rfl)
 have d27 := (C1.out.cell 27).trans (show cs[27]? = some (.string ⟨m.req.group.toArray⟩) by rw [HCS.out]; rfl)
 have d28 := (C1.out.cell 28).trans (show cs[28]? = some (.string ⟨m.req.member.toArray⟩) by rw [HCS.out]; rfl)
 clear h ok hmv
 go_enter Tryz.func10, Tryz.ntmps10
 go_upto_region 1 with (fail)
 generalize w.alloc (.cells cs.toArray 36) = w1 at *
 generalize hb1 : w.heap.size = b1 at *
 have HB1 := Lib.hid hb1
 clear hb1
 generalize m.chain.length = n9 at *
 generalize m.lives.length = n11 at *
 generalize hn18 : m.table.length = n18 at *
 generalize m.resp.parts.length = n36 at *
 generalize m.batch.recs.length = n17 at *
 generalize m.req.recs.length = n29 at *
 generalize m.resp.recs.length = n37 at *
 generalize m.req.group = g27 at *
 generalize m.req.member = g28 at *
 generalize m.table = tb at *
 go_cut [59] (fun t wz => (∃ b : Bool, t = .bool b) ∧ wz = w1)
 case first =>
  clear HT OT
  go_wp2_with fail
  refine (HR1.out w1 B1.out).mono ?_
  rintro e w2 ⟨b, rfl, hw2⟩
  rw [hw2]
  clear hw2 w2
  cases b with
  | true =>
   go_wp2
   go_meet
   case rel => exact ⟨⟨_, rfl⟩, rfl⟩
  | false =>
   go_wp2_with fail
   refine (HR2.out w1 B1.out).mono ?_
   rintro e w2 ⟨b, rfl, hw2⟩
   rw [hw2]
   clear hw2 w2
   cases b with
   | true =>
    go_wp2
    go_meet
    case rel => exact ⟨⟨_, rfl⟩, rfl⟩
   | false =>
    go_wp2_with fail
    refine (HR3.out w1 B1.out).mono ?_
    rintro e w2 ⟨b, rfl, hw2⟩
    rw [hw2]
    clear hw2 w2
    cases b with
    | true =>
     go_wp2
     go_meet
     case rel => exact ⟨⟨_, rfl⟩, rfl⟩
    | false =>
     by_cases en9 : 30 < n9
     ·have in9 : (30 : Int) < ((n9 : Nat) : Int) := by omega
      go_wp2
      go_meet
      case rel => exact ⟨⟨_, rfl⟩, rfl⟩
     have in9 : ¬ (30 : Int) < ((n9 : Nat) : Int) := by omega
     have jn9 : n9 ≤ 30 := by omega
     by_cases en11 : 30 < n11
     ·have in11 : (30 : Int) < ((n11 : Nat) : Int) := by omega
      go_wp2
      go_meet
      case rel => exact ⟨⟨_, rfl⟩, rfl⟩
     have in11 : ¬ (30 : Int) < ((n11 : Nat) : Int) := by omega
     have jn11 : n11 ≤ 30 := by omega
     by_cases en18 : 70 < n18
     ·have in18 : (70 : Int) < ((n18 : Nat) : Int) := by omega
      go_wp2
      go_meet
      case rel => exact ⟨⟨_, rfl⟩, rfl⟩
     have in18 : ¬ (70 : Int) < ((n18 : Nat) : Int) := by omega
     have jn18 : n18 ≤ 70 := by omega
     by_cases en36 : 30 < n36
     ·have in36 : (30 : Int) < ((n36 : Nat) : Int) := by omega
      go_wp2
      go_meet
      case rel => exact ⟨⟨_, rfl⟩, rfl⟩
     have in36 : ¬ (30 : Int) < ((n36 : Nat) : Int) := by omega
     have jn36 : n36 ≤ 30 := by omega
     by_cases eg27 : 500 < g27.length
     ·have ig27 : (500 : Int) < ((g27.length : Nat) : Int) := by omega
      go_wp2
      go_meet
      case rel => exact ⟨⟨_, rfl⟩, rfl⟩
     have ig27 : ¬ (500 : Int) < ((g27.length : Nat) : Int) := by omega
     have jg27 : g27.length ≤ 500 := by omega
     by_cases eg28 : 500 < g28.length
     ·have ig28 : (500 : Int) < ((g28.length : Nat) : Int) := by omega
      go_wp2
      go_meet
      case rel => exact ⟨⟨_, rfl⟩, rfl⟩
     have ig28 : ¬ (500 : Int) < ((g28.length : Nat) : Int) := by omega
     have jg28 : g28.length ≤ 500 := by omega
     go_wp2
     go_meet
     case rel => exact ⟨⟨_, rfl⟩, rfl⟩
 case rest =>
  obtain ⟨⟨b, rfl⟩, rfl⟩ := hcut
  cases b with
  | true =>
   go_wp2
   go_ret
   exact ⟨_, rfl, by rw [HB1.out]; exact B1.out⟩
  | false =>
   go_wp2
   go_loop [3] (fun i => ∃ k : Nat, i = .int .i64 k ∧ k ≤ n18) (fun i => n18 - (intOf i).toNat)
   case atStart => exact ⟨0, rfl, by omega⟩
   case round =>
    obtain ⟨k, rfl, hk⟩ := hrel
    by_cases hlt : k < n18
    ·have hlti : (k : Int) < (n18 : Int) := by omega
     obtain ⟨x, hx⟩ : ∃ x, tb[k]? = some x := ⟨tb[k]'(by omega), by simp [show k < tb.length by omega]⟩
     have hxo := (OT.out x (List.mem_of_getElem? hx)).2.1
     obtain ⟨g, off, cap', sv, he, hg, p0, p1, p2⟩ := HT.out.get (by rw [HB1.out]; exact B1.out) hx
     obtain ⟨s2, c2, rfl⟩ := p2.form
     injection he with he1 he2 he3
     subst he1 he3
     clear he2 p2
     unfold maxLen at hxo
     generalize x.2.length = nx at *
     by_cases h10 : 10 < nx
     ·have h10i : (10 : Int) < (nx : Int) := by omega
      go_wp2
      go_ret
      exact ⟨_, rfl, by rw [HB1.out]; exact B1.out⟩
     ·have h10i : ¬ (10 : Int) < (nx : Int) := by omega
      have h10n : nx ≤ 10 := by omega
      go_wp2
      go_round
      case rel => exact ⟨k + 1, by go_num, by omega⟩
      case measure => simp [intOf]; omega
    ·obtain rfl : k = n18 := by omega
     go_wp2
     go_ret
     exact ⟨_, rfl, by rw [HB1.out]; exact B1.out⟩
end Go.Proofs.YtjfpbeccpcbpcaaGreatDoor
namespace Go.Proofs.YtjfpbeccpcbpcaaGreatDoor
open Go.RowKit
set_option maxRecDepth 20000 in
set_option maxHeartbeats 3200000 in
theorem refInts_any (l r : List Int) (hl : l.length ≤ maxLen) (hr : r.length ≤ maxLen) (lv rv : Value) (w : World) (h1 : Ints w lv l) (h2 : Ints w rv r) :
  Calls Tryz.prog 108 #[lv, rv] w fun e w' => e = .returned (.bool (decide (l = r))) ∧ Below w.heap.size w w' := by
 have H1 := Lib.hid h1
 have H2 := Lib.hid h2
 obtain ⟨a1, cap1, rfl⟩ := h1.form
 obtain ⟨a2, cap2, rfl⟩ := h2.form
 unfold maxLen at hl hr
 clear h1 h2
 by_cases hlen : l.length = r.length
 rotate_left
 ·have HX := Lib.hid (Wi.eq_len hlen)
  go_enter Tryz.func108, Tryz.ntmps108
  go_wp2
  go_ret
  exact ⟨by rw [HX.out]; rfl, Below.refl _ _⟩
 have HLEN := Lib.hid hlen
 have hne : ((l.length : Int) != (r.length : Int)) = false := by simp [hlen]
 clear hlen
 go_enter Tryz.func108, Tryz.ntmps108
 go_wp2
 go_loopw [5] (fun i wr => ∃ k q : Nat, i = .int .i64 k ∧ k ≤ l.length ∧ decide (l = r) = decide (l.drop k = r.drop k) ∧ wr = w.drewN q) (fun i _ => l.length - (intOf i).toNat)
 case atStart => exact ⟨0, 0, rfl, by omega, rfl, rfl⟩
 case round =>
  obtain ⟨k, q, rfl, hk, hq, rfl⟩ := hrel
  have HQ := Lib.hid hq
  clear hq
  by_cases hlt : k < l.length
  ·have hlti : (k : Int) < (l.length : Int) := by omega
   have hk2 : k < r.length := by have := HLEN.out; omega
   have hk2i : (k : Int) < (r.length : Int) := by omega
   obtain ⟨x, hx⟩ : ∃ x, l[k]? = some x := ⟨l[k], by simp [hlt]⟩
   obtain ⟨y, hy⟩ : ∃ y, r[k]? = some y := ⟨r[k], by simp [hk2]⟩
   have HS := Lib.hid (Wi.eq_step (α := Int) hx hy)
   obtain ⟨g, off, cap', he, hg, p0⟩ := H1.out.get (Below.refl _ w) hx
   injection he with he1 he2 he3
   subst he1 he3
   obtain ⟨g2, off2, cap2', he', hg2, s0⟩ := H2.out.get (Below.refl _ w) hy
   injection he' with he'1 he'2 he'3
   subst he'1 he'3
   clear he2 he'2 hx hy
   skip
   cases hb : decide (x = y) with
   | true =>
    have HX2 : Hid (decide (l = r) = decide (l.drop (k + 1) = r.drop (k + 1))) := by rw [Hid, HQ.out, HS.out, hb]; rfl
    have hn : (x != y) = false := by simpa using hb
    clear HS hb HQ
    go_wp2
    go_quiet (fail)
    go_wp2
    go_roundw
    case rel => exact ⟨k + 1, _, by go_num, by omega, HX2.out, rfl⟩
    case measure => simp [intOf]; omega
   | false =>
    have HX2 : Hid (decide (l = r) = false) := by rw [Hid, HQ.out, HS.out, hb]; rfl
    have hn : (x != y) = true := by simpa using hb
    clear HS hb HQ
    go_wp2
    go_quiet (fail)
    have BQ : Hid (Below w.heap.size w ((w.drewN q).drewN nq)) := below_drewN (below_drewN (Below.refl _ _) q) nq
    go_wp2
    go_ret
    exact ⟨by rw [HX2.out]; rfl, BQ.out⟩
  ·obtain rfl : k = l.length := by omega
   have HX2 : Hid (decide (l = r) = true) := by rw [Hid, HQ.out]; exact Wi.eq_end HLEN.out
   have BQ : Hid (Below w.heap.size w (w.drewN q)) := below_drewN (Below.refl _ _) q
   go_wp2
   go_ret
   exact ⟨by rw [HX2.out]; rfl, BQ.out⟩
set_option maxRecDepth 20000 in
set_option maxHeartbeats 3200000 in
theorem refLives_any (l r : List (Int × Int)) (hl : l.length ≤ maxLen) (hr : r.length ≤ maxLen) (lv rv : Value) (w : World) (h1 : Rw 2 lifeC w lv l) (h2 : Rw 2 lifeC w rv r) :
  Calls Tryz.prog 55 #[lv, rv] w fun e w' => e = .returned (.bool (decide (l = r))) ∧ Below w.heap.size w w' := by
 have H1 := Lib.hid h1
 have H2 := Lib.hid h2
 obtain ⟨a1, cap1, rfl⟩ := h1.form
 obtain ⟨a2, cap2, rfl⟩ := h2.form
 unfold maxLen at hl hr
 clear h1 h2
 by_cases hlen : l.length = r.length
 rotate_left
 ·have HX := Lib.hid (Wi.eq_len hlen)
  go_enter Tryz.func55, Tryz.ntmps55
  go_wp2
  go_ret
  exact ⟨by rw [HX.out]; rfl, Below.refl _ _⟩
 have HLEN := Lib.hid hlen
 have hne : ((l.length : Int) != (r.length : Int)) = false := by simp [hlen]
 clear hlen
 go_enter Tryz.func55, Tryz.ntmps55
 go_wp2
 go_loopw [5] (fun i wr => ∃ k q : Nat, i = .int .i64 k ∧ k ≤ l.length ∧ decide (l = r) = decide (l.drop k = r.drop k) ∧ wr = w.drewN q) (fun i _ => l.length - (intOf i).toNat)
 case atStart => exact ⟨0, 0, rfl, by omega, rfl, rfl⟩
 case round =>
  obtain ⟨k, q, rfl, hk, hq, rfl⟩ := hrel
  have HQ := Lib.hid hq
  clear hq
  by_cases hlt : k < l.length
  ·have hlti : (k : Int) < (l.length : Int) := by omega
   have hk2 : k < r.length := by have := HLEN.out; omega
   have hk2i : (k : Int) < (r.length : Int) := by omega
   obtain ⟨x, hx⟩ : ∃ x, l[k]? = some x := ⟨l[k], by simp [hlt]⟩
   obtain ⟨y, hy⟩ : ∃ y, r[k]? = some y := ⟨r[k], by simp [hk2]⟩
   have HS := Lib.hid (Wi.eq_step (α := (Int × Int)) hx hy)
   obtain ⟨g, off, cap', he, hg, p0⟩ := H1.out.get (Below.refl _ w) hx
   injection he with he1 he2 he3
   subst he1 he3
   obtain ⟨g2, off2, cap2', he', hg2, s0⟩ := H2.out.get (Below.refl _ w) hy
   injection he' with he'1 he'2 he'3
   subst he'1 he'3
   clear he2 he'2 hx hy
   obtain ⟨x0, x1⟩ := x
   obtain ⟨y0, y1⟩ := y
   have a0 : w.cell? ⟨g, off + k * 2, none⟩ = some (.int .i64 x0) := p0 0 _ rfl
   have b0 : w.cell? ⟨g2, off2 + k * 2, none⟩ = some (.int .i64 y0) := s0 0 _ rfl
   have a1 : w.cell? ⟨g, off + k * 2 + 1, none⟩ = some (.int .i64 x1) := p0 1 _ rfl
   have b1 : w.cell? ⟨g2, off2 + k * 2 + 1, none⟩ = some (.int .i64 y1) := s0 1 _ rfl
   clear p0 s0
   have hn := fun w => life_neq x0 x1 y0 y1 w
   cases hb : decide ((x0, x1) = (y0, y1)) with
   | true =>
    have HX2 : Hid (decide (l = r) = decide (l.drop (k + 1) = r.drop (k + 1))) := by rw [Hid, HQ.out, HS.out, hb]; rfl
    simp only [hb, Bool.not_true] at hn
    clear HS hb HQ
    go_wp2
    go_quiet (fail)
    go_wp2
    go_roundw
    case rel => exact ⟨k + 1, _, by go_num, by omega, HX2.out, rfl⟩
    case measure => simp [intOf]; omega
   | false =>
    have HX2 : Hid (decide (l = r) = false) := by rw [Hid, HQ.out, HS.out, hb]; rfl
    simp only [hb, Bool.not_false] at hn
    clear HS hb HQ
    go_wp2
    go_quiet (fail)
    have BQ : Hid (Below w.heap.size w ((w.drewN q).drewN nq)) := below_drewN (below_drewN (Below.refl _ _) q) nq
    go_wp2
    go_ret
    exact ⟨by rw [HX2.out]; rfl, BQ.out⟩
  ·obtain rfl : k = l.length := by omega
   have HX2 : Hid (decide (l = r) = true) := by rw [Hid, HQ.out]; exact Wi.eq_end HLEN.out
   have BQ : Hid (Below w.heap.size w (w.drewN q)) := below_drewN (Below.refl _ _) q
   go_wp2
   go_ret
   exact ⟨by rw [HX2.out]; rfl, BQ.out⟩
set_option maxRecDepth 20000 in
set_option maxHeartbeats 6400000 in
theorem refTab_any (l r : List Wi.Seen) (hl : l.length ≤ maxLen ∧ ∀ x ∈ l, x.2.length ≤ maxLen) (hr : r.length ≤ maxLen ∧ ∀ x ∈ r, x.2.length ≤ maxLen) (lv rv : Value) (w : World) (h1 : Tbl w lv l) (h2 : Tbl w rv r) :
  Calls Tryz.prog 57 #[lv, rv] w fun e w' => e = .returned (.bool (decide (l = r))) ∧ Below w.heap.size w w' := by
 have H1 := Lib.hid h1
 have H2 := Lib.hid h2
 obtain ⟨a1, cap1, rfl⟩ := h1.form
 obtain ⟨a2, cap2, rfl⟩ := h2.form
 obtain ⟨hl, hl2⟩ := hl
 obtain ⟨hr, hr2⟩ := hr
 have LL := Lib.hid hl2
 have LR := Lib.hid hr2
 unfold maxLen at hl hr
 clear h1 h2 hl2 hr2
 by_cases hlen : l.length = r.length
 rotate_left
 ·have HX := Lib.hid (Wi.eq_len hlen)
  go_enter Tryz.func57, Tryz.ntmps57
  go_wp2
  go_ret
  exact ⟨by rw [HX.out]; rfl, Below.refl _ _⟩
 have HLEN := Lib.hid hlen
 have hne : ((l.length : Int) != (r.length : Int)) = false := by simp [hlen]
 clear hlen
 go_enter Tryz.func57, Tryz.ntmps57
 go_wp2
 go_loopw [5] (fun i wr => ∃ k q : Nat, i = .int .i64 k ∧ k ≤ l.length ∧ decide (l = r) = decide (l.drop k = r.drop k) ∧ wr = w.drewN q) (fun i _ => l.length - (intOf i).toNat)
 case atStart => exact ⟨0, 0, rfl, by omega, rfl, rfl⟩
 case round =>
  obtain ⟨k, q, rfl, hk, hq, rfl⟩ := hrel
  have HQ := Lib.hid hq
  clear hq
  by_cases hlt : k < l.length
  ·have hlti : (k : Int) < (l.length : Int) := by omega
   have hk2 : k < r.length := by have := HLEN.out; omega
   have hk2i : (k : Int) < (r.length : Int) := by omega
   obtain ⟨x, hx⟩ : ∃ x, l[k]? = some x := ⟨l[k], by simp [hlt]⟩
   obtain ⟨y, hy⟩ : ∃ y, r[k]? = some y := ⟨r[k], by simp [hk2]⟩
   have HS := Lib.hid (Wi.eq_step (α := Wi.Seen) hx hy)
   have lx := LL.out x (List.mem_of_getElem? hx)
   have ly := LR.out y (List.mem_of_getElem? hy)
   obtain ⟨g, off, cap', sv, he, hg, p0, p1, ps⟩ := H1.out.get (Below.refl _ w) hx
   injection he with he1 he2 he3
   subst he1 he3
   obtain ⟨g2, off2, cap2', tv, he', hg2, s0, s1, ss⟩ := H2.out.get (Below.refl _ w) hy
   injection he' with he'1 he'2 he'3
   subst he'1 he'3
   obtain ⟨xp, xs⟩ := x
   obtain ⟨yp, ys⟩ := y
   have PS := Lib.hid ps
   have SS := Lib.hid ss
   obtain ⟨s1a, s1c, rfl⟩ := ps.form
   obtain ⟨s2a, s2c, rfl⟩ := ss.form
   dsimp only at *
   unfold maxLen at lx ly
   clear he2 he'2 ps ss hx hy
   by_cases hp : xp = yp
   rotate_left
   ·have HX2 : Hid (decide (l = r) = false) := by rw [Hid, HQ.out, HS.out, decide_eq_false (fun e => hp (congrArg Prod.fst e))]; rfl
    have hn : (xp != yp) = true := by simpa using hp
    clear HS HQ hp
    go_wp2
    go_quiet (fail)
    have BQ : Hid (Below w.heap.size w ((w.drewN q).drewN nq)) := below_drewN (below_drewN (Below.refl _ _) q) nq
    go_wp2
    go_ret
    exact ⟨by rw [HX2.out]; rfl, BQ.out⟩
   subst hp
   by_cases hsl : xs.length = ys.length
   rotate_left
   ·have HX2 : Hid (decide (l = r) = false) := by rw [Hid, HQ.out, HS.out, decide_eq_false (fun e => hsl (congrArg (fun z : Wi.Seen => z.2.length) e))]; rfl
    have hn : (xp != xp) = false := by simp
    have hn2 : ((xs.length : Int) != (ys.length : Int)) = true := by simp; omega
    clear HS HQ
    go_wp2
    go_quiet (fail)
    have BQ : Hid (Below w.heap.size w ((w.drewN q).drewN nq)) := below_drewN (below_drewN (Below.refl _ _) q) nq
    go_wp2
    go_ret
    exact ⟨by rw [HX2.out]; rfl, BQ.out⟩
   have HSL := Lib.hid hsl
   have hn : (xp != xp) = false := by simp
   have hn2 : ((xs.length : Int) != (ys.length : Int)) = false := by simp; omega
   clear hsl
   have HX3 : Hid (decide (l = r) = (decide (xs = ys) && decide (l.drop (k + 1) = r.drop (k + 1)))) := by
    rw [Hid, HQ.out, HS.out]
    congr 1
    exact decide_eq_decide.2 ⟨fun e => congrArg Prod.snd e, fun e => by rw [e]⟩
   clear HS HQ
   go_wp2
   go_quiet (fail)
   go_wp2
   go_loopw [6] (fun i wr => ∃ j q : Nat, i = .int .i64 j ∧ j ≤ xs.length ∧ decide (xs = ys) = decide (xs.drop j = ys.drop j) ∧ wr = w.drewN q) (fun i _ => xs.length - (intOf i).toNat)
   case atStart => exact ⟨0, _, rfl, by omega, rfl, World.drewN_drewN _ _ _⟩
   case round =>
    obtain ⟨j, q3, rfl, hj, hq3, rfl⟩ := hrel
    have HQ := Lib.hid hq3
    clear hq3
    by_cases hjl : j < xs.length
    ·have hjli : (j : Int) < (xs.length : Int) := by omega
     have hjy : j < ys.length := by have := HSL.out; omega
     have hjyi : (j : Int) < (ys.length : Int) := by omega
     obtain ⟨x, hx⟩ : ∃ x, xs[j]? = some x := ⟨xs[j], by simp [hjl]⟩
     obtain ⟨y, hy⟩ : ∃ y, ys[j]? = some y := ⟨ys[j], by simp [hjy]⟩
     have HS := Lib.hid (Wi.eq_step (α := Wi.Slot) hx hy)
     obtain ⟨g3, off3, cap3', he, hg3, pc⟩ := PS.out.get (Below.refl _ w) hx
     injection he with he1 he2 he3
     subst he1 he3
     obtain ⟨g4, off4, cap4', he', hg4, sc⟩ := SS.out.get (Below.refl _ w) hy
     injection he' with he'1 he'2 he'3
     subst he'1 he'3
     obtain ⟨x0, x1, x2⟩ := x
     obtain ⟨y0, y1, y2⟩ := y
     have c0 : w.cell? ⟨g3, off3 + j * 3, none⟩ = some (.int .i64 x0) := pc 0 _ rfl
     have d0 : w.cell? ⟨g4, off4 + j * 3, none⟩ = some (.int .i64 y0) := sc 0 _ rfl
     have c1 : w.cell? ⟨g3, off3 + j * 3 + 1, none⟩ = some (.int .i64 x1) := pc 1 _ rfl
     have d1 : w.cell? ⟨g4, off4 + j * 3 + 1, none⟩ = some (.int .i64 y1) := sc 1 _ rfl
     have c2 : w.cell? ⟨g3, off3 + j * 3 + 2, none⟩ = some (.int .i64 x2) := pc 2 _ rfl
     have d2 : w.cell? ⟨g4, off4 + j * 3 + 2, none⟩ = some (.int .i64 y2) := sc 2 _ rfl
     have hm := fun w => slot_neq x0 x1 x2 y0 y1 y2 w
     clear pc sc he2 he'2 hx hy
     cases hb : decide ((x0, x1, x2) = (y0, y1, y2)) with
     | true =>
      have HX2 : Hid (decide (xs = ys) = decide (xs.drop (j + 1) = ys.drop (j + 1))) := by rw [Hid, HQ.out, HS.out, hb]; rfl
      simp only [hb, Bool.not_true] at hm
      clear HS hb HQ
      go_wp2
      go_quiet (fail)
      go_wp2
      go_roundw
      case rel => exact ⟨j + 1, _, by go_num, by omega, HX2.out, rfl⟩
      case measure => simp [intOf]; omega
     | false =>
      have HX2 : Hid (decide (l = r) = false) := by rw [Hid, HX3.out, HQ.out, HS.out, hb]; rfl
      simp only [hb, Bool.not_false] at hm
      clear HS hb HQ
      go_wp2
      go_quiet (fail)
      have BQ : Hid (Below w.heap.size w ((w.drewN q3).drewN nq)) := below_drewN (below_drewN (Below.refl _ _) q3) nq
      go_wp2
      go_ret
      exact ⟨by rw [HX2.out]; rfl, BQ.out⟩
    ·obtain rfl : j = xs.length := by omega
     have HX2 : Hid (decide (l = r) = decide (l.drop (k + 1) = r.drop (k + 1))) := by rw [Hid, HX3.out, HQ.out, Wi.eq_end HSL.out]; rfl
     go_wp2
     go_roundw
     case rel => exact ⟨k + 1, _, by go_num, by omega, HX2.out, rfl⟩
     case measure => simp [intOf]; omega
  ·obtain rfl : k = l.length := by omega
   have HX2 : Hid (decide (l = r) = true) := by rw [Hid, HQ.out]; exact Wi.eq_end HLEN.out
   have BQ : Hid (Below w.heap.size w (w.drewN q)) := below_drewN (Below.refl _ _) q
   go_wp2
   go_ret
   exact ⟨by rw [HX2.out]; rfl, BQ.out⟩
end Go.Proofs.YtjfpbeccpcbpcaaGreatDoor
