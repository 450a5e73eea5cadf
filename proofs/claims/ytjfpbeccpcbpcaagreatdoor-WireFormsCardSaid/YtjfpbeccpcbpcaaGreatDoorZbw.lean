/-
  Wvb / Wgr: texts of one proof, one behind the other.
  Conditions: none of its own.
-/
import Derived.Test.YtjfpbeccpcbpcaaGreatDoorZay
import Derived.Test.YtjfpbeccpcbpcaaGreatDoorZbv
import Derived.Deep.DeepCutAuto
import Derived.Deep.CutBlock
set_option linter.unusedVariables false
set_option linter.unusedSimpArgs false
namespace Go.Proofs.YtjfpbeccpcbpcaaGreatDoor
open Go.ChangeShapes Go.WideShapes Go.ChangeAt Go.RowKit
set_option maxRecDepth 100000 in
theorem open_respK {W : World} {b0 fuel : Nat} {H : Type} {enc : TypeId × Value → H} {spare : Nat → Bool} {held : Bool} {cs : List Value} {x : DataW H × List MemPlace}
    (h : DataW.trod enc Tryz.prog W b0 spare held fuel 34 cs = some x) : ∃ (a : Wi.Resp) (pv rv : Value), cs = wrespC a pv rv ∧ Ints W pv a.parts ∧ Recs W rv a.recs ∧ RespOk a ∧ CapOk rv := by
  obtain ⟨xs, n, _, _, hcl, hxl, hfd⟩ := DataW.trod_struct Tryz.underlying34 h
  rw [cResp] at hcl
  match xs, hxl, cs, hcl with
  | [x0, x1, x2, x3, x4, x5, x6, x7], _, [c0, c1, c2, c3, c4, c5, c6, c7], _ =>
    have g0 := hfd 0 _ rfl
    have g1 := hfd 1 _ rfl
    have g2 := hfd 2 _ rfl
    have g3 := hfd 3 _ rfl
    have g4 := hfd 4 _ rfl
    have g5 := hfd 5 _ rfl
    have g6 := hfd 6 _ rfl
    have g7 := hfd 7 _ rfl
    simp [cInt, cStr, cRecs, cErr, cInts, cLives, cSlots, cTab, cPart, cBat, cReq, cResp] at g0 g1 g2 g3 g4 g5 g6 g7
    obtain ⟨n0, e0, _, w0⟩ := DataW.trod_int Tryz.underlying3 g0
    obtain ⟨n1, e1, _, w1⟩ := DataW.trod_int Tryz.underlying3 g1
    obtain ⟨n2, e2, _, w2⟩ := DataW.trod_int Tryz.underlying32 g2
    obtain ⟨n3, e3, _, w3⟩ := DataW.trod_int Tryz.underlying3 g3
    obtain ⟨n4, e4, _, w4⟩ := DataW.trod_int Tryz.underlying3 g4
    obtain ⟨n5, e5, _, w5⟩ := DataW.trod_int Tryz.underlying3 g5
    obtain ⟨v6, l6, e6, R6, m6, o6⟩ := open_intsT g6
    obtain ⟨v7, l7, e7, R7, m7, o7, hcp⟩ := open_recsT g7
    simp [wreqC, wrespC] at e0 e1 e2 e3 e4 e5 e6 e7
    subst e0 e1 e2 e3 e4 e5 e6 e7
    exact ⟨⟨n0, n1, n2, n3, n4, n5, l6, l7⟩, _, _, rfl, R6, R7, ⟨⟨inR_wf w0, inR_wf w1, inR_wf w2, inR_wf w3, inR_wf w4, inR_wf w5⟩, ⟨m6, o6⟩, m7, o7⟩, fun a n cap e => by
      obtain ⟨a', c', e', hle, _⟩ := hcp
      rw [e'] at e
      injection e with f1 f2 f3
      omega⟩
set_option maxRecDepth 100000 in
set_option maxHeartbeats 4000000 in
theorem open_msgK {W : World} {b0 fuel : Nat} {H : Type} {enc : TypeId × Value → H} {spare : Nat → Bool} {held : Bool} {cs : List Value} {x : DataW H × List MemPlace}
    (h : DataW.trod enc Tryz.prog W b0 spare held fuel 36 cs = some x) : ∃ (m : Wi.Msg) (v : MsgV), cs = msgC m v ∧ MsgAt W m v ∧ MsgOk m ∧ CapOk v.arecs := by
  obtain ⟨xs, n, _, _, hcl, hxl, hfd⟩ := DataW.trod_struct Tryz.underlying36 h
  rw [cMsg] at hcl
  obtain ⟨c0, t0, rfl, k0⟩ := list_cons (hcl)
  obtain ⟨c1, t1, rfl, k1⟩ := list_cons (k0)
  obtain ⟨c2, t2, rfl, k2⟩ := list_cons (k1)
  obtain ⟨c3, t3, rfl, k3⟩ := list_cons (k2)
  obtain ⟨c4, t4, rfl, k4⟩ := list_cons (k3)
  obtain ⟨c5, t5, rfl, k5⟩ := list_cons (k4)
  obtain ⟨c6, t6, rfl, k6⟩ := list_cons (k5)
  obtain ⟨c7, t7, rfl, k7⟩ := list_cons (k6)
  obtain ⟨c8, t8, rfl, k8⟩ := list_cons (k7)
  obtain ⟨c9, t9, rfl, k9⟩ := list_cons (k8)
  obtain ⟨c10, t10, rfl, k10⟩ := list_cons (k9)
  obtain ⟨c11, t11, rfl, k11⟩ := list_cons (k10)
  obtain ⟨c12, t12, rfl, k12⟩ := list_cons (k11)
  obtain ⟨c13, t13, rfl, k13⟩ := list_cons (k12)
  obtain ⟨c14, t14, rfl, k14⟩ := list_cons (k13)
  obtain ⟨c15, t15, rfl, k15⟩ := list_cons (k14)
  obtain ⟨c16, t16, rfl, k16⟩ := list_cons (k15)
  obtain ⟨c17, t17, rfl, k17⟩ := list_cons (k16)
  obtain ⟨c18, t18, rfl, k18⟩ := list_cons (k17)
  obtain ⟨c19, t19, rfl, k19⟩ := list_cons (k18)
  obtain ⟨c20, t20, rfl, k20⟩ := list_cons (k19)
  obtain ⟨c21, t21, rfl, k21⟩ := list_cons (k20)
  obtain ⟨c22, t22, rfl, k22⟩ := list_cons (k21)
  obtain ⟨c23, t23, rfl, k23⟩ := list_cons (k22)
  obtain ⟨c24, t24, rfl, k24⟩ := list_cons (k23)
  obtain ⟨c25, t25, rfl, k25⟩ := list_cons (k24)
  obtain ⟨c26, t26, rfl, k26⟩ := list_cons (k25)
  obtain ⟨c27, t27, rfl, k27⟩ := list_cons (k26)
  obtain ⟨c28, t28, rfl, k28⟩ := list_cons (k27)
  obtain ⟨c29, t29, rfl, k29⟩ := list_cons (k28)
  obtain ⟨c30, t30, rfl, k30⟩ := list_cons (k29)
  obtain ⟨c31, t31, rfl, k31⟩ := list_cons (k30)
  obtain ⟨c32, t32, rfl, k32⟩ := list_cons (k31)
  obtain ⟨c33, t33, rfl, k33⟩ := list_cons (k32)
  obtain ⟨c34, t34, rfl, k34⟩ := list_cons (k33)
  obtain ⟨c35, t35, rfl, k35⟩ := list_cons (k34)
  obtain ⟨c36, t36, rfl, k36⟩ := list_cons (k35)
  obtain ⟨c37, t37, rfl, k37⟩ := list_cons (k36)
  obtain rfl := List.eq_nil_of_length_eq_zero k37
  match xs, hxl with
  | [x0, x1, x2, x3, x4, x5, x6, x7, x8, x9, x10, x11, x12, x13], _ =>
    have g0 := hfd 0 _ rfl
    have g1 := hfd 1 _ rfl
    have g2 := hfd 2 _ rfl
    have g3 := hfd 3 _ rfl
    have g4 := hfd 4 _ rfl
    have g5 := hfd 5 _ rfl
    have g6 := hfd 6 _ rfl
    have g7 := hfd 7 _ rfl
    have g8 := hfd 8 _ rfl
    have g9 := hfd 9 _ rfl
    have g10 := hfd 10 _ rfl
    have g11 := hfd 11 _ rfl
    have g12 := hfd 12 _ rfl
    have g13 := hfd 13 _ rfl
    simp [cInt, cStr, cRecs, cErr, cInts, cLives, cSlots, cTab, cPart, cBat, cReq, cResp] at g0 g1 g2 g3 g4 g5 g6 g7 g8 g9 g10 g11 g12 g13
    obtain ⟨n0, e0, _, w0⟩ := DataW.trod_int Tryz.underlying3 g0
    obtain ⟨n1, e1, _, w1⟩ := DataW.trod_int Tryz.underlying3 g1
    obtain ⟨n2, e2, _, w2⟩ := DataW.trod_int Tryz.underlying3 g2
    obtain ⟨n3, e3, _, w3⟩ := DataW.trod_int Tryz.underlying3 g3
    obtain ⟨n4, e4, _, w4⟩ := DataW.trod_int Tryz.underlying3 g4
    obtain ⟨n5, e5, _, w5⟩ := DataW.trod_int Tryz.underlying3 g5
    obtain ⟨n6, e6, _, w6⟩ := DataW.trod_int Tryz.underlying3 g6
    obtain ⟨n7, e7, _, w7⟩ := DataW.trod_int Tryz.underlying3 g7
    obtain ⟨pa8, pc8, pl8, pv8, e8, wa8, R8, m8, o8, wb8⟩ := open_partT g8
    obtain ⟨v9, l9, e9, R9, m9, o9⟩ := open_livesT g9
    obtain ⟨b10, v10, e10, R10, o10⟩ := open_batT g10
    obtain ⟨v11, l11, e11, R11, m11, o11⟩ := open_tableT g11
    obtain ⟨q12, v12, e12, R12, o12⟩ := open_reqT g12
    obtain ⟨q13, v13, u13, e13, P13, R13, o13, K13⟩ := open_respK g13
    simp [wreqC, wrespC] at e0 e1 e2 e3 e4 e5 e6 e7 e8 e9 e10 e11 e12 e13
    obtain ⟨f8_0, f8_1, f8_2⟩ := e8
    obtain ⟨f10_0, f10_1, f10_2, f10_3, f10_4, f10_5⟩ := e10
    obtain ⟨f12_0, f12_1, f12_2, f12_3, f12_4, f12_5, f12_6, f12_7, f12_8, f12_9, f12_10⟩ := e12
    obtain ⟨f13_0, f13_1, f13_2, f13_3, f13_4, f13_5, f13_6, f13_7⟩ := e13
    subst e0 e1 e2 e3 e4 e5 e6 e7 f8_0 f8_1 f8_2 e9 f10_0 f10_1 f10_2 f10_3 f10_4 f10_5 e11 f12_0 f12_1 f12_2 f12_3 f12_4 f12_5 f12_6 f12_7 f12_8 f12_9 f12_10 f13_0 f13_1 f13_2 f13_3 f13_4 f13_5 f13_6 f13_7
    refine ⟨⟨n0, n1, n2, n3, n4, n5, n6, n7, pa8, pc8, pl8, l9, b10, l11, q12, q13⟩, ⟨_, _, _, _, _, _, _⟩, rfl, ⟨R8, R9, R10, R11, R12, P13, R13⟩, ?_, K13⟩
    obtain ⟨⟨a0, a1, a2, a3, a4, a5, a6, a7⟩, a8, a9, a10, a11⟩ := o12
    obtain ⟨⟨d0, d1, d2, d3, d4, d5⟩, d6, d7, d8⟩ := o13
    refine ⟨?_, ⟨m8, o8⟩, ⟨m9, o9⟩, o10, ⟨m11, o11⟩, ⟨a8, a9, a10, a11⟩, d6, ⟨d7, d8⟩⟩
    simp only [List.mem_cons, List.not_mem_nil, or_false, forall_eq_or_imp, forall_eq]
    exact ⟨inR_wf w0, inR_wf w1, inR_wf w2, inR_wf w3, inR_wf w4, inR_wf w5, inR_wf w6, inR_wf w7, wa8, wb8, a0, a1, a2, a3, a4, a5, a6, a7, d0, d1, d2, d3, d4, d5⟩
end Go.Proofs.YtjfpbeccpcbpcaaGreatDoor
namespace Go.Proofs.YtjfpbeccpcbpcaaGreatDoor
open Go.RowKit
def SomeB (Q : World → Prop) (e : Ending) (w' : World) : Prop := ∃ b : Bool, e = .returned (.bool b) ∧ Q w'
set_option maxRecDepth 20000 in
set_option maxHeartbeats 3200000 in
theorem lrecs_any (l : List Cr.Rec) (hl : l.length ≤ maxLen) (ho : ∀ x ∈ l, RecOk x) (v : Value) (w : World) (h : Recs w v l) :
    Calls Tryz.prog 21 #[v] w (SomeB (fun w' => w' = w)) := by
  have HZ := Lib.hid h
  have HO := Lib.hid ho
  obtain ⟨a, cap, rfl⟩ := h.form
  unfold maxLen at hl
  clear h ho
  by_cases h30 : 30 < l.length
  · have h30i : (30 : Int) < (l.length : Int) := by omega
    go_enter Tryz.func21, Tryz.ntmps21
    go_wp2
    go_ret
    exact ⟨true, rfl, rfl⟩
  have h30i : ¬ (30 : Int) < (l.length : Int) := by omega
  have h30n : l.length ≤ 30 := by omega
  go_enter Tryz.func21, Tryz.ntmps21
  go_wp2
  go_loop [3] (fun i => ∃ k : Nat, i = .int .i64 k ∧ k ≤ l.length) (fun i => l.length - (intOf i).toNat)
  case atStart => exact ⟨0, rfl, by omega⟩
  case round =>
    obtain ⟨k, rfl, hk⟩ := hrel
    by_cases hlt : k < l.length
    · have hlti : (k : Int) < (l.length : Int) := by omega
      obtain ⟨x, hx⟩ : ∃ x, l[k]? = some x := ⟨l[k], by simp [hlt]⟩
      have hxo := HO.out x (List.mem_of_getElem? hx)
      obtain ⟨g, off, cap', he, hg, p0, p1, p2, p3⟩ := HZ.out.get (Below.refl _ _) hx
      injection he with he1 he2 he3
      subst he1 he3
      clear he2 hx
      obtain ⟨xo, xk, xv, xg⟩ := x
      obtain ⟨_, hk1, hv1⟩ := hxo
      simp only at p0 p1 p2 p3 hk1 hv1
      unfold maxLen at hk1 hv1
      by_cases hk5 : 500 < xk.length
      · have hk5i : (500 : Int) < (xk.length : Int) := by omega
        go_wp2
        go_ret
        exact ⟨true, rfl, rfl⟩
      · have hk5i : ¬ (500 : Int) < (xk.length : Int) := by omega
        have hk5n : xk.length ≤ 500 := by omega
        by_cases hv5 : 500 < xv.length
        · have hv5i : (500 : Int) < (xv.length : Int) := by omega
          go_wp2
          go_ret
          exact ⟨true, rfl, rfl⟩
        · have hv5i : ¬ (500 : Int) < (xv.length : Int) := by omega
          have hv5n : xv.length ≤ 500 := by omega
          go_wp2
          go_round
          case rel => exact ⟨k + 1, by go_num, by omega⟩
          case measure => simp [intOf]; omega
    · obtain rfl : k = l.length := by omega
      go_wp2
      go_ret
      exact ⟨false, rfl, rfl⟩
set_option maxRecDepth 20000 in
set_option maxHeartbeats 6400000 in
theorem great_any (m : Wi.Msg) (v : MsgV) (w : World) (h : MsgAt w m v) (ok : MsgOk m) : Calls Tryz.prog 10 #[msgV m v] w (SomeB (fun w' => Below w.heap.size w w')) := by
  obtain ⟨cs, hmv, HCS, HIL, HIA, HON, HSZ⟩ := msg_cells m v w h
  have HR1 := Lib.hid (fun W (hW : Below w.heap.size w W) => lrecs_any m.batch.recs ok.b.2.2.2.2.2.1 ok.b.2.2.2.2.2.2 v.brecs W (h.brecs.kept hW))
  have HR2 := Lib.hid (fun W (hW : Below w.heap.size w W) => lrecs_any m.req.recs ok.q.2.2.1 ok.q.2.2.2 v.qrecs W (h.qrecs.kept hW))
  have HR3 := Lib.hid (fun W (hW : Below w.heap.size w W) => lrecs_any m.resp.recs ok.a.1 ok.a.2 v.arecs W (h.arecs.kept hW))
  have HT := Lib.hid h.table
  obtain ⟨s9, c9, h9⟩ := h.chain.form
  obtain ⟨s11, c11, h11⟩ := h.lives.form
  obtain ⟨s18, c18, h18⟩ := h.table.form
  obtain ⟨s36, c36, h36⟩ := h.parts.form
  obtain ⟨s17, c17, h17⟩ := h.brecs.form
  obtain ⟨s29, c29, h29⟩ := h.qrecs.form
  obtain ⟨s37, c37, h37⟩ := h.arecs.form
  have o9 := ok.c.1
  have o11 := ok.l.1
  have o18 := ok.t.1
  have o36 := ok.p.1
  have o27 := ok.q.1
  have o28 := ok.q.2.1
  have OT := Lib.hid ok.t.2
  obtain ⟨v0, v1, v2, v3, v4, v5, v6⟩ := v
  simp only at h9 h11 h18 h36 h17 h29 h37 HR1 HR2 HR3 HT
  subst h9 h11 h18 h36 h17 h29 h37
  unfold maxLen at o9 o11 o18 o36 o27 o28
  rw [hmv]
  have C1 : Hid (Cl (w.alloc (.cells cs.toArray 36)) w.heap.size cs 36) := Cl.new w cs _
  have B1 : Hid (Below w.heap.size w (w.alloc (.cells cs.toArray 36))) := (Below.refl _ _).alloc (Nat.le_refl _) _
  have d9 := (C1.out.cell 9).trans (show cs[9]? = some (.slice s9 m.chain.length c9) by rw [HCS.out]; rfl)
  have d11 := (C1.out.cell 11).trans (show cs[11]? = some (.slice s11 m.lives.length c11) by rw [HCS.out]; rfl)
  have d18 := (C1.out.cell 18).trans (show cs[18]? = some (.slice s18 m.table.length c18) by rw [HCS.out]; rfl)
  have d36 := (C1.out.cell 36).trans (show cs[36]? = some (.slice s36 m.resp.parts.length c36) by rw [HCS.out]; rfl)
  have d17 := (C1.out.cell 17).trans (show cs[17]? = some (.slice s17 m.batch.recs.length c17) by rw [HCS.out]; rfl)
  have d29 := (C1.out.cell 29).trans (show cs[29]? = some (.slice s29 m.req.recs.length c29) by rw [HCS.out]; rfl)
  have d37 := (C1.out.cell 37).trans (show cs[37]? = some (.slice s37 m.resp.recs.length c37) by rw [HCS.out]; rfl)
  have d27 := (C1.out.cell 27).trans (show cs[27]? = some (.string ⟨m.req.group.toArray⟩) by rw [HCS.out]; rfl)
  have d28 := (C1.out.cell 28).trans (show cs[28]? = some (.string ⟨m.req.member.toArray⟩) by rw [HCS.out]; rfl)
  clear h ok hmv
  go_enter Tryz.func10, Tryz.ntmps10
  go_upto_region 1 with (fail)
  generalize w.alloc (.cells cs.toArray 36) = w1 at *
  generalize hb1 : w.heap.size = b1 at *
  have HB1 := Lib.hid hb1
  clear hb1
  generalize m.chain.length = n9 at *
  generalize m.lives.length = n11 at *
  generalize hn18 : m.table.length = n18 at *
  generalize m.resp.parts.length = n36 at *
  generalize m.batch.recs.length = n17 at *
  generalize m.req.recs.length = n29 at *
  generalize m.resp.recs.length = n37 at *
  generalize m.req.group = g27 at *
  generalize m.req.member = g28 at *
  generalize m.table = tb at *
  go_cut [59] (fun t wz => (∃ b : Bool, t = .bool b) ∧ wz = w1)
  case first =>
    clear HT OT
    go_wp2_with fail
    refine (HR1.out w1 B1.out).mono ?_
    rintro e w2 ⟨b, rfl, hw2⟩
    rw [hw2]
    clear hw2 w2
    cases b with
    | true =>
      go_wp2
      go_meet
      case rel => exact ⟨⟨_, rfl⟩, rfl⟩
    | false =>
      go_wp2_with fail
      refine (HR2.out w1 B1.out).mono ?_
      rintro e w2 ⟨b, rfl, hw2⟩
      rw [hw2]
      clear hw2 w2
      cases b with
      | true =>
        go_wp2
        go_meet
        case rel => exact ⟨⟨_, rfl⟩, rfl⟩
      | false =>
        go_wp2_with fail
        refine (HR3.out w1 B1.out).mono ?_
        rintro e w2 ⟨b, rfl, hw2⟩
        rw [hw2]
        clear hw2 w2
        cases b with
        | true =>
          go_wp2
          go_meet
          case rel => exact ⟨⟨_, rfl⟩, rfl⟩
        | false =>
          by_cases en9 : 30 < n9
          · have in9 : (30 : Int) < ((n9 : Nat) : Int) := by omega
            go_wp2
            go_meet
            case rel => exact ⟨⟨_, rfl⟩, rfl⟩
          have in9 : ¬ (30 : Int) < ((n9 : Nat) : Int) := by omega
          have jn9 : n9 ≤ 30 := by omega
          by_cases en11 : 30 < n11
          · have in11 : (30 : Int) < ((n11 : Nat) : Int) := by omega
            go_wp2
            go_meet
            case rel => exact ⟨⟨_, rfl⟩, rfl⟩
          have in11 : ¬ (30 : Int) < ((n11 : Nat) : Int) := by omega
          have jn11 : n11 ≤ 30 := by omega
          by_cases en18 : 70 < n18
          · have in18 : (70 : Int) < ((n18 : Nat) : Int) := by omega
            go_wp2
            go_meet
            case rel => exact ⟨⟨_, rfl⟩, rfl⟩
          have in18 : ¬ (70 : Int) < ((n18 : Nat) : Int) := by omega
          have jn18 : n18 ≤ 70 := by omega
          by_cases en36 : 30 < n36
          · have in36 : (30 : Int) < ((n36 : Nat) : Int) := by omega
            go_wp2
            go_meet
            case rel => exact ⟨⟨_, rfl⟩, rfl⟩
          have in36 : ¬ (30 : Int) < ((n36 : Nat) : Int) := by omega
          have jn36 : n36 ≤ 30 := by omega
          by_cases eg27 : 500 < g27.length
          · have ig27 : (500 : Int) < ((g27.length : Nat) : Int) := by omega
            go_wp2
            go_meet
            case rel => exact ⟨⟨_, rfl⟩, rfl⟩
          have ig27 : ¬ (500 : Int) < ((g27.length : Nat) : Int) := by omega
          have jg27 : g27.length ≤ 500 := by omega
          by_cases eg28 : 500 < g28.length
          · have ig28 : (500 : Int) < ((g28.length : Nat) : Int) := by omega
            go_wp2
            go_meet
            case rel => exact ⟨⟨_, rfl⟩, rfl⟩
          have ig28 : ¬ (500 : Int) < ((g28.length : Nat) : Int) := by omega
          have jg28 : g28.length ≤ 500 := by omega
          go_wp2
          go_meet
          case rel => exact ⟨⟨_, rfl⟩, rfl⟩
  case rest =>
    obtain ⟨⟨b, rfl⟩, rfl⟩ := hcut
    cases b with
    | true =>
      go_wp2
      go_ret
      exact ⟨_, rfl, by rw [HB1.out]; exact B1.out⟩
    | false =>
      go_wp2
      go_loop [3] (fun i => ∃ k : Nat, i = .int .i64 k ∧ k ≤ n18) (fun i => n18 - (intOf i).toNat)
      case atStart => exact ⟨0, rfl, by omega⟩
      case round =>
        obtain ⟨k, rfl, hk⟩ := hrel
        by_cases hlt : k < n18
        · have hlti : (k : Int) < (n18 : Int) := by omega
          obtain ⟨x, hx⟩ : ∃ x, tb[k]? = some x := ⟨tb[k]'(by omega), by simp [show k < tb.length by omega]⟩
          have hxo := (OT.out x (List.mem_of_getElem? hx)).2.1
          obtain ⟨g, off, cap', sv, he, hg, p0, p1, p2⟩ := HT.out.get (by rw [HB1.out]; exact B1.out) hx
          obtain ⟨s2, c2, rfl⟩ := p2.form
          injection he with he1 he2 he3
          subst he1 he3
          clear he2 p2
          unfold maxLen at hxo
          generalize x.2.length = nx at *
          by_cases h10 : 10 < nx
          · have h10i : (10 : Int) < (nx : Int) := by omega
            go_wp2
            go_ret
            exact ⟨_, rfl, by rw [HB1.out]; exact B1.out⟩
          · have h10i : ¬ (10 : Int) < (nx : Int) := by omega
            have h10n : nx ≤ 10 := by omega
            go_wp2
            go_round
            case rel => exact ⟨k + 1, by go_num, by omega⟩
            case measure => simp [intOf]; omega
        · obtain rfl : k = n18 := by omega
          go_wp2
          go_ret
          exact ⟨_, rfl, by rw [HB1.out]; exact B1.out⟩
end Go.Proofs.YtjfpbeccpcbpcaaGreatDoor
