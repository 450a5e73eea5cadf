/-
  Wvb / Gn / Wo1: texts of one proof, one behind the other.
  Conditions: none of its own.
-/
import Derived.Test.YtbljbdjmgogknaaGreatDoorZac
import Derived.Test.YtbljbdjmgogknaaGreatDoorZai
import Derived.Test.YtbljbdjmgogknaaGreatDoorZal
import Derived.Test.YtbljbdjmgogknaaGreatDoorZar
import Derived.Great.BuildSlice
import Derived.BigQuiet
import Derived.Deep.MidRow
set_option linter.unusedVariables false
set_option linter.unusedSimpArgs false
namespace Go.Proofs.YtbljbdjmgogknaaGreatDoor
open Go.ChangeShapes Go.WideShapes Go.ChangeAt Go.RowKit
set_option maxRecDepth 100000 in
theorem open_respK {W : World} {b0 fuel : Nat} {H : Type} {enc : TypeId × Value → H} {spare : Nat → Bool} {held : Bool} {cs : List Value} {x : DataW H × List MemPlace}
  (h : DataW.trod enc Tryz.prog W b0 spare held fuel 42 cs = some x) : ∃ (a : Wi.Resp) (pv rv : Value), cs = wrespC a pv rv ∧ Ints W pv a.parts ∧ Recs W rv a.recs ∧ RespOk a ∧ CapOk rv := by
 obtain ⟨xs, n, _, _, hcl, hxl, hfd⟩ := DataW.trod_struct Tryz.underlying42 h
 rw [cResp] at hcl
 match xs, hxl, cs, hcl with
 | [x0, x1, x2, x3, x4, x5, x6, x7], _, [c0, c1, c2, c3, c4, c5, c6, c7], _ =>
  have g0 := hfd 0 _ rfl
  have g1 := hfd 1 _ rfl
  have g2 := hfd 2 _ rfl
  have g3 := hfd 3 _ rfl
  have g4 := hfd 4 _ rfl
  have g5 := hfd 5 _ rfl
  have g6 := hfd 6 _ rfl
  have g7 := hfd 7 _ rfl
  simp [cInt, cStr, cRecs, cErr, cInts, cLives, cSlots, cTab, cPart, cBat, cReq, cResp] at g0 g1 g2 g3 g4 g5 g6 g7
  obtain ⟨n0, e0, _, w0⟩ := DataW.trod_int Tryz.underlying3 g0
  obtain ⟨n1, e1, _, w1⟩ := DataW.trod_int Tryz.underlying3 g1
  obtain ⟨n2, e2, _, w2⟩ := DataW.trod_int Tryz.underlying40 g2
  obtain ⟨n3, e3, _, w3⟩ := DataW.trod_int Tryz.underlying3 g3
  obtain ⟨n4, e4, _, w4⟩ := DataW.trod_int Tryz.underlying3 g4
  obtain ⟨n5, e5, _, w5⟩ := DataW.trod_int Tryz.underlying3 g5
  obtain ⟨v6, l6, e6, R6, m6, o6⟩ := open_intsT g6
  obtain ⟨v7, l7, e7, R7, m7, o7, hcp⟩ := open_recsT g7
  simp [wreqC, wrespC] at e0 e1 e2 e3 e4 e5 e6 e7
  subst e0 e1 e2 e3 e4 e5 e6 e7
  exact ⟨⟨n0, n1, n2, n3, n4, n5, l6, l7⟩, _, _, rfl, R6, R7, ⟨⟨inR_wf w0, inR_wf w1, inR_wf w2, inR_wf w3, inR_wf w4, inR_wf w5⟩, ⟨m6, o6⟩, m7, o7⟩, fun a n cap e => by
   obtain ⟨a', c', e', hle, _⟩ := hcp
   rw [e'] at e
   injection e with f1 f2 f3
   omega⟩
set_option maxRecDepth 100000 in
set_option maxHeartbeats 4000000 in
theorem open_msgK {W : World} {b0 fuel : Nat} {H : Type} {enc : TypeId × Value → H} {spare : Nat → Bool} {held : Bool} {cs : List Value} {x : DataW H × List MemPlace}
  (h : DataW.trod enc Tryz.prog W b0 spare held fuel 44 cs = some x) : ∃ (m : Wi.Msg) (v : MsgV), cs = msgC m v ∧ MsgAt W m v ∧ MsgOk m ∧ CapOk v.arecs := by
 obtain ⟨xs, n, _, _, hcl, hxl, hfd⟩ := DataW.trod_struct Tryz.underlying44 h
 rw [cMsg] at hcl
 obtain ⟨c0, t0, rfl, k0⟩ := list_cons (hcl)
 obtain ⟨c1, t1, rfl, k1⟩ := list_cons (k0)
 obtain ⟨c2, t2, rfl, k2⟩ := list_cons (k1)
 obtain ⟨c3, t3, rfl, k3⟩ := list_cons (k2)
 obtain ⟨c4, t4, rfl, k4⟩ := list_cons (k3)
 obtain ⟨c5, t5, rfl, k5⟩ := list_cons (k4)
 obtain ⟨c6, t6, rfl, k6⟩ := list_cons (k5)
 obtain ⟨c7, t7, rfl, k7⟩ := list_cons (k6)
 obtain ⟨c8, t8, rfl, k8⟩ := list_cons (k7)
 obtain ⟨c9, t9, rfl, k9⟩ := list_cons (k8)
 obtain ⟨c10, t10, rfl, k10⟩ := list_cons (k9)
 obtain ⟨c11, t11, rfl, k11⟩ := list_cons (k10)
 obtain ⟨c12, t12, rfl, k12⟩ := list_cons (k11)
 obtain ⟨c13, t13, rfl, k13⟩ := list_cons (k12)
 obtain ⟨c14, t14, rfl, k14⟩ := list_cons (k13)
 obtain ⟨c15, t15, rfl, k15⟩ := list_cons (k14)
 obtain ⟨c16, t16, rfl, k16⟩ := list_cons (k15)
 obtain ⟨c17, t17, rfl, k17⟩ := list_cons (k16)
 obtain ⟨c18, t18, rfl, k18⟩ := list_cons (k17)
 obtain ⟨c19, t19, rfl, k19⟩ := list_cons (k18)
 obtain ⟨c20, t20, rfl, k20⟩ := list_cons (k19)
 obtain ⟨c21, t21, rfl, k21⟩ := list_cons (k20)
 obtain ⟨c22, t22, rfl, k22⟩ := list_cons (k21)
 obtain ⟨c23, t23, rfl, k23⟩ := list_cons (k22)
 obtain ⟨c24, t24, rfl, k24⟩ := list_cons (k23)
 obtain ⟨c25, t25, rfl, k25⟩ := list_cons (k24)
 obtain ⟨c26, t26, rfl, k26⟩ := list_cons (k25)
 obtain ⟨c27, t27, rfl, k27⟩ := list_cons (k26)
 obtain ⟨c28, t28, rfl, k28⟩ := list_cons (k27)
 obtain ⟨c29, t29, rfl, k29⟩ := list_cons (k28)
 obtain ⟨c30, t30, rfl, k30⟩ := list_cons (k29)
 obtain ⟨c31, t31, rfl, k31⟩ := list_cons (k30)
 obtain ⟨c32, t32, rfl, k32⟩ := list_cons (k31)
 obtain ⟨c33, t33, rfl, k33⟩ := list_cons (k32)
 obtain ⟨c34, t34, rfl, k34⟩ := list_cons (k33)
 obtain ⟨c35, t35, rfl, k35⟩ := list_cons (k34)
 obtain ⟨c36, t36, rfl, k36⟩ := list_cons (k35)
 obtain ⟨c37, t37, rfl, k37⟩ := list_cons (k36)
 obtain rfl := List.eq_nil_of_length_eq_zero k37
 match xs, hxl with
 | [x0, x1, x2, x3, x4, x5, x6, x7, x8, x9, x10, x11, x12, x13], _ =>
  have g0 := hfd 0 _ rfl
  have g1 := hfd 1 _ rfl
  have g2 := hfd 2 _ rfl
  have g3 := hfd 3 _ rfl
  have g4 := hfd 4 _ rfl
  have g5 := hfd 5 _ rfl
  have g6 := hfd 6 _ rfl
  have g7 := hfd 7 _ rfl
  have g8 := hfd 8 _ rfl
  have g9 := hfd 9 _ rfl
  have g10 := hfd 10 _ rfl
  have g11 := hfd 11 _ rfl
  have g12 := hfd 12 _ rfl
  have g13 := hfd 13 _ rfl
  simp [cInt, cStr, cRecs, cErr, cInts, cLives, cSlots, cTab, cPart, cBat, cReq, cResp] at g0 g1 g2 g3 g4 g5 g6 g7 g8 g9 g10 g11 g12 g13
  obtain ⟨n0, e0, _, w0⟩ := DataW.trod_int Tryz.underlying3 g0
  obtain ⟨n1, e1, _, w1⟩ := DataW.trod_int Tryz.underlying3 g1
  obtain ⟨n2, e2, _, w2⟩ := DataW.trod_int Tryz.underlying3 g2
  obtain ⟨n3, e3, _, w3⟩ := DataW.trod_int Tryz.underlying3 g3
  obtain ⟨n4, e4, _, w4⟩ := DataW.trod_int Tryz.underlying3 g4
  obtain ⟨n5, e5, _, w5⟩ := DataW.trod_int Tryz.underlying3 g5
  obtain ⟨n6, e6, _, w6⟩ := DataW.trod_int Tryz.underlying3 g6
  obtain ⟨n7, e7, _, w7⟩ := DataW.trod_int Tryz.underlying3 g7
  obtain ⟨pa8, pc8, pl8, pv8, e8, wa8, R8, m8, o8, wb8⟩ := open_partT g8
  obtain ⟨v9, l9, e9, R9, m9, o9⟩ := open_livesT g9
  obtain ⟨b10, v10, e10, R10, o10⟩ := open_batT g10
  obtain ⟨v11, l11, e11, R11, m11, o11⟩ := open_tableT g11
  obtain ⟨q12, v12, e12, R12, o12⟩ := open_reqT g12
  obtain ⟨q13, v13, u13, e13, P13, R13, o13, K13⟩ := open_respK g13
  simp [wreqC, wrespC] at e0 e1 e2 e3 e4 e5 e6 e7 e8 e9 e10 e11 e12 e13
  obtain ⟨f8_0, f8_1, f8_2⟩ := e8
  obtain ⟨f10_0, f10_1, f10_2, f10_3, f10_4, f10_5⟩ := e10
  obtain ⟨f12_0, f12_1, f12_2, f12_3, f12_4, f12_5, f12_6, f12_7, f12_8, f12_9, f12_10⟩ := e12
  obtain ⟨f13_0, f13_1, f13_2, f13_3, f13_4, f13_5, f13_6, f13_7⟩ := e13
  subst e0 e1 e2 e3 e4 e5 e6 e7 f8_0 f8_1 f8_2 e9 f10_0 f10_1 f10_2 f10_3 f10_4 f10_5 e11 f12_0 f12_1 f12_2 f12_3 f12_4 f12_5 f12_6 f12_7 f12_8 f12_9 f12_10 f13_0 f13_1 f13_2 f13_3 f13_4 f13_5 f13_6 f13_7
  refine ⟨⟨n0, n1, n2, n3, n4, n5, n6, n7, pa8, pc8, pl8, l9, b10, l11, q12, q13⟩, ⟨_, _, _, _, _, _, _⟩, rfl, ⟨R8, R9, R10, R11, R12, P13, R13⟩, ?_, K13⟩
  obtain ⟨⟨a0, a1, a2, a3, a4, a5, a6, a7⟩, a8, a9, a10, a11⟩ := o12
  obtain ⟨⟨d0, d1, d2, d3, d4, d5⟩, d6, d7, d8⟩ := o13
  refine ⟨?_, ⟨m8, o8⟩, ⟨m9, o9⟩, o10, ⟨m11, o11⟩, ⟨a8, a9, a10, a11⟩, d6, ⟨d7, d8⟩⟩
  simp only [List.mem_cons, List.not_mem_nil, or_false, forall_eq_or_imp, forall_eq]
  exact ⟨inR_wf w0, inR_wf w1, inR_wf w2, inR_wf w3, inR_wf w4, inR_wf w5, inR_wf w6, inR_wf w7, wa8, wb8, a0, a1, a2, a3, a4, a5, a6, a7, d0, d1, d2, d3, d4, d5⟩
end Go.Proofs.YtbljbdjmgogknaaGreatDoor
namespace Go.Proofs.YtbljbdjmgogknaaGreatDoor
open Go.ChangeShapes Go.WideShapes Go.ChangeAt Go.RowKit
structure MX where
 m : Wi.Msg
 v : MsgV
def mxC (x : MX) : List Value := msgC x.m x.v
theorem mxC_len (x : MX) : (mxC x).length = 38 := rfl
def MxOk (x : MX) : Prop := MsgOk x.m ∧ CapOk x.v.arecs
def MsgsAt (w : World) (v : Value) (l : List MX) : Prop :=
 ∃ a cap, v = .slice a l.length cap ∧ ∀ i x, l[i]? = some x → ∃ g off, a = some ⟨g, off, none⟩ ∧ g < w.heap.size ∧ w.rangeAt g (off + i * 38) (mxC x) ∧ MsgAt w x.m x.v
def mxZ : MX := ⟨Wi.zMsg, zeroV⟩
set_option maxRecDepth 100000 in
theorem open_msgs {W : World} {r : Reach} {base b0 : Nat} {H : Type} {enc : TypeId × Value → H} {spare : Nat → Bool} {held : Bool} {v : Value} {d : DataW H} {p : List MemPlace}
  (h : DataW.Trod enc Tryz.prog W b0 spare held 27 v d p) (hv : Value.okWide Tryz.prog W r base 27 v) : ∃ l, MsgsAt W v l ∧ l.length ≤ maxLen ∧ ∀ x ∈ l, MxOk x := by
 obtain ⟨a, len, cap, rfl, hl, hm, h0, h1, hel⟩ := slice_open Tryz.underlying27 hv h
 rw [cMsg] at hel
 obtain ⟨zs, hz, hzs⟩ := list_of mxZ (fun i (x : MX) => (∃ g off, a = some ⟨g, off, none⟩ ∧ g < W.heap.size ∧ W.rangeAt g (off + i * 38) (mxC x) ∧ MsgAt W x.m x.v) ∧ MxOk x) (n := len) (fun i hi => by
   obtain ⟨b, off, cs, n, y, rfl, hlt, hcl, hc, ht⟩ := hel i hi
   obtain ⟨m, mv, rfl, hx, ho, hk⟩ := open_msgK ht
   exact ⟨⟨m, mv⟩, ⟨b, off, rfl, hlt, fun j u hu => (hc j (by have := (List.getElem?_eq_some_iff.1 hu).1; rwa [mxC_len] at this)).trans hu, hx⟩, ho, hk⟩)
 subst hz
 have hat : ∀ i x, zs[i]? = some x → i < zs.length ∧ zs.getD i mxZ = x := fun i x h => by
  obtain ⟨hi, rfl⟩ := List.getElem?_eq_some_iff.1 h
  exact ⟨hi, by simp [List.getD, hi]⟩
 refine ⟨zs, ⟨a, cap, rfl, fun i x hx => ?_⟩, Nat.le_trans hl hm, fun x hx => ?_⟩
 ·obtain ⟨hi, rfl⟩ := hat i x hx
  exact (hzs i hi).1
 ·obtain ⟨i, hi⟩ := List.getElem?_of_mem hx
  obtain ⟨hi2, rfl⟩ := hat i x hi
  exact (hzs i hi2).2
theorem msg_one {w : World} {m : Wi.Msg} {v : MsgV} (h : MsgAt w m v) : ∀ u ∈ msgC m v, u.oneCell' = true := by
 obtain ⟨a0, c0, h0⟩ := h.chain.form
 obtain ⟨a1, c1, h1⟩ := h.lives.form
 obtain ⟨a2, c2, h2⟩ := h.brecs.form
 obtain ⟨a3, c3, h3⟩ := h.table.form
 obtain ⟨a4, c4, h4⟩ := h.qrecs.form
 obtain ⟨a5, c5, h5⟩ := h.parts.form
 obtain ⟨a6, c6, h6⟩ := h.arecs.form
 obtain ⟨v0, v1, v2, v3, v4, v5, v6⟩ := v
 dsimp only at h0 h1 h2 h3 h4 h5 h6
 subst h0 h1 h2 h3 h4 h5 h6
 simp [msgC, wreqC, wrespC, Value.oneCell']
theorem mx_cells (x : MX) (w : World) (h : MsgAt w x.m x.v) : ∃ cs : List Value, mxC x = cs ∧ msgV x.m x.v = .agg cs.toArray ∧ cs[2]? = some (.int .i64 x.m.to) ∧ Hid (cs.length = 38) ∧
  Hid ((Tryz.prog.info? 44).map (·.size) = some cs.length) ∧ Hid ((Tryz.prog.info? 44).map (·.size) = some (cs.toArray : Array Value).size) ∧ Hid ((cs.toArray : Array Value).all (·.oneCell') = true) ∧ Hid (∀ u ∈ cs, u.oneCell' = true) :=
 ⟨msgC x.m x.v, rfl, rfl, rfl, rfl, by rw [Hid, show (msgC x.m x.v).length = 38 from rfl]; kernel_rfl, by rw [Hid, List.size_toArray, show (msgC x.m x.v).length = 38 from rfl]; kernel_rfl, by have := msg_one h; simpa [Hid] using this, msg_one h⟩
theorem fill_one (n : Nat) (hn : 0 < n) (base : Array Value) (cs : List Value) (hb : base.size = n) (hc : cs.length = n) : Instr.fill (fun i => some (i * n, n)) base [(0, .agg cs.toArray)] = some cs.toArray := by
 have hcl : (Value.agg cs.toArray).cells.size = n := by simp [Value.cells, hc]
 obtain ⟨r, hr, hs, hk⟩ := Great.fill_dense hn [.agg cs.toArray] 0 base (by simpa using hcl) (by simp [hb])
 have e : r = cs.toArray := by
  apply Array.ext_getElem?
  intro k
  rw [hk k]
  by_cases h : k < n
  ·rw [if_pos ⟨by omega, by simpa using h⟩, Nat.div_eq_of_lt h, Nat.mod_eq_of_lt h]
   simp [Value.cells]
  ·rw [if_neg (by simpa using h)]
   rw [Array.getElem?_eq_none (by omega), Array.getElem?_eq_none (by simp; omega)]
 rw [e] at hr
 simpa using hr
theorem wpList_build_wide {P : Program} {ops : Array Oper} {rest : List Oper} {o : Oper} {a : Act} {w : World} {Q : Exit → Act → World → Prop} (hg : o.guard = none) (t e : TypeId) (x : Operand) (ho : o.op = .buildSlice t 1 #[(0, x)])
  (cs : List Value) (hx : a.eval x = .agg cs.toArray) (ie : TypeInfo) (z : Value) (hu : P.underlying t = some (.slice e)) (hie : P.info? e = some ie) (hz : ie.zero = some z) (hsz : ie.size = cs.length) (h0 : 0 < cs.length) (h1 : cs.length ≤ 1000)
  (h : wpList P ops Q rest (a.put o.dst (.slice (some ⟨w.heap.size, 0, none⟩) 1 1)) (w.alloc (.cells cs.toArray e))) : wpList P ops Q (o :: rest) a w := by
 refine wpList_buildSlice hg t e 1 _ ho cs.toArray ie z hu hie hz (by rw [hsz]; omega) (by rw [hsz]; omega) ?_ h
 rw [hsz]
 simp only [List.map_toArray, List.map_cons, List.map_nil, hx]
 exact fill_one cs.length h0 _ cs (by simp) rfl
theorem quiet_load_mid {P : Program} {C : World → Prop} {a : Act} {o : Oper} {K : Act → Prop} (ty : TypeId) (x : Operand) (ho : o.op = .load ty x)
  (b off : Nat) (hx : a.eval x = .pointer (some ⟨b, off, none⟩)) (cs : List Value) (d : TypeDesc) (hS : ∀ w, C w → w.rangeAt b off cs)
  (hu : P.underlying ty = some d) (hd : d.isRow = true) (hi : (P.info? ty).map (·.size) = some cs.length) (hk : K (a.put o.dst (.agg cs.toArray))) : o.quiet P a C K :=
 ⟨.agg cs.toArray, fun w hw => by
  unfold Oper.quietAt execOp
  simp only [ho, hx, Instr.loadAt, Instr.sureAddr, Sem.run_bind, Sem.run_pure, Result.andThen_ok, run_loadVar_mid w b off ty cs d (hS w hw) hu hd hi]
  exact ⟨rfl, rfl⟩, hk⟩
end Go.Proofs.YtbljbdjmgogknaaGreatDoor
namespace Go.Proofs.YtbljbdjmgogknaaGreatDoor
open Go.RowKit
set_option maxRecDepth 20000 in
set_option maxHeartbeats 12800000 in
theorem only_k1 (m : Wi.Msg) (v : MsgV) (w : World) (h : MsgAt w m v) (hk : m.kind = 1) :
  Calls Tryz.prog 71 #[msgV m v] w fun e w' => e = .returned (msgV (Wi.only m) (onlyV m v)) ∧ Below w.heap.size w w' := by
 obtain ⟨s0, c0, hh0⟩ := h.chain.form
 obtain ⟨s1, c1, hh1⟩ := h.lives.form
 obtain ⟨s2, c2, hh2⟩ := h.brecs.form
 obtain ⟨s3, c3, hh3⟩ := h.table.form
 obtain ⟨s4, c4, hh4⟩ := h.qrecs.form
 obtain ⟨s5, c5, hh5⟩ := h.parts.form
 obtain ⟨s6, c6, hh6⟩ := h.arecs.form
 obtain ⟨v0, v1, v2, v3, v4, v5, v6⟩ := v
 dsimp only at hh0 hh1 hh2 hh3 hh4 hh5 hh6
 subst hh0 hh1 hh2 hh3 hh4 hh5 hh6
 obtain ⟨x_kind, x_frm, x_to, x_part, x_ep, x_off, x_high, x_life, x_pep, x_chain, x_learner, x_lives, x_batch, x_table, x_req, x_resp⟩ := m
 dsimp only at *
 clear h
 subst hk
 obtain ⟨L, hL⟩ : ∃ L, L = msgC (Wi.only ⟨1, x_frm, x_to, x_part, x_ep, x_off, x_high, x_life, x_pep, x_chain, x_learner, x_lives, x_batch, x_table, x_req, x_resp⟩) (onlyV ⟨1, x_frm, x_to, x_part, x_ep, x_off, x_high, x_life, x_pep, x_chain, x_learner, x_lives, x_batch, x_table, x_req, x_resp⟩ ⟨.slice s0 x_chain.length c0, .slice s1 x_lives.length c1, .slice s2 x_batch.recs.length c2, .slice s3 x_table.length c3, .slice s4 x_req.recs.length c4, .slice s5 x_resp.parts.length c5, .slice s6 x_resp.recs.length c6⟩) := ⟨_, rfl⟩
 have HLV : Hid (msgV (Wi.only ⟨1, x_frm, x_to, x_part, x_ep, x_off, x_high, x_life, x_pep, x_chain, x_learner, x_lives, x_batch, x_table, x_req, x_resp⟩) (onlyV ⟨1, x_frm, x_to, x_part, x_ep, x_off, x_high, x_life, x_pep, x_chain, x_learner, x_lives, x_batch, x_table, x_req, x_resp⟩ ⟨.slice s0 x_chain.length c0, .slice s1 x_lives.length c1, .slice s2 x_batch.recs.length c2, .slice s3 x_table.length c3, .slice s4 x_req.recs.length c4, .slice s5 x_resp.parts.length c5, .slice s6 x_resp.recs.length c6⟩) = .agg L.toArray) := by rw [Hid, hL, msgV]
 rw [HLV.out]
 have HL0 := Lib.hid hL
 have HL38 : Hid ((Tryz.prog.info? 44).map (·.size) = some L.length) := by rw [Hid, hL, show ∀ a b, (msgC a b).length = 38 from fun _ _ => rfl]; kernel_rfl
 have HL39 : Hid ((Tryz.prog.info? 44).map (·.size) = some (L.toArray : Array Value).size) := by rw [Hid, List.size_toArray, hL, show ∀ a b, (msgC a b).length = 38 from fun _ _ => rfl]; kernel_rfl
 have HLON : Hid ((L.toArray : Array Value).all (·.oneCell') = true) := by rw [Hid, hL]; simp [msgC, onlyV, Value.oneCell']
 have HLSZ : Hid (((.int .i64 0 :: .int .i64 0 :: .int .i64 0 :: .int .i64 0 :: .int .i64 0 :: .int .i64 0 :: .int .i64 0 :: .int .i64 0 :: .int .i64 0 :: .slice none 0 0 :: .int .i64 0 :: .slice none 0 0 :: .int .i64 0 :: .int .i64 0 :: .int .i64 0 :: .int .i64 0 :: .int .i64 0 :: .slice none 0 0 :: .slice none 0 0 :: .int .i64 0 :: .int .i64 0 :: .int .i64 0 :: .int .i64 0 :: .int .i64 0 :: .int .i64 0 :: .int .i64 0 :: .int .i64 0 :: .string ⟨#[]⟩ :: .string ⟨#[]⟩ :: .slice none 0 0 :: .int .i64 0 :: .int .i64 0 :: .int .i64 0 :: .int .i64 0 :: .int .i64 0 :: .int .i64 0 :: .slice none 0 0 :: .slice none 0 0 :: []).toArray : Array Value).size = (L.toArray : Array Value).size) := by rw [Hid, hL]; rfl
 clear hL HLV
 unfold msgV msgC
 dsimp only
 go_enter Tryz.func71, Tryz.ntmps71
 obtain ⟨w1, hw1, CA, CR, B1⟩ := twoBox (w := w) (.int .i64 1 :: .int .i64 x_frm :: .int .i64 x_to :: .int .i64 x_part :: .int .i64 x_ep :: .int .i64 x_off :: .int .i64 x_high :: .int .i64 x_life :: .int .i64 x_pep :: .slice s0 x_chain.length c0 :: .int .i64 x_learner :: .slice s1 x_lives.length c1 :: .int .i64 x_batch.base :: .int .i64 x_batch.count :: .int .i64 x_batch.prod :: .int .i64 x_batch.seq :: .int .i64 x_batch.time :: .slice s2 x_batch.recs.length c2 :: .slice s3 x_table.length c3 :: .int .i64 x_req.client :: .int .i64 x_req.n :: .int .i64 x_req.kind :: .int .i64 x_req.part :: .int .i64 x_req.seq :: .int .i64 x_req.off :: .int .i64 x_req.max :: .int .i64 x_req.gen :: .string ⟨x_req.group.toArray⟩ :: .string ⟨x_req.member.toArray⟩ :: .slice s4 x_req.recs.length c4 :: .int .i64 x_resp.client :: .int .i64 x_resp.n :: .int .i64 x_resp.code :: .int .i64 x_resp.off :: .int .i64 x_resp.high :: .int .i64 x_resp.gen :: .slice s5 x_resp.parts.length c5 :: .slice s6 x_resp.recs.length c6 :: []) (.int .i64 0 :: .int .i64 0 :: .int .i64 0 :: .int .i64 0 :: .int .i64 0 :: .int .i64 0 :: .int .i64 0 :: .int .i64 0 :: .int .i64 0 :: .slice none 0 0 :: .int .i64 0 :: .slice none 0 0 :: .int .i64 0 :: .int .i64 0 :: .int .i64 0 :: .int .i64 0 :: .int .i64 0 :: .slice none 0 0 :: .slice none 0 0 :: .int .i64 0 :: .int .i64 0 :: .int .i64 0 :: .int .i64 0 :: .int .i64 0 :: .int .i64 0 :: .int .i64 0 :: .int .i64 0 :: .string ⟨#[]⟩ :: .string ⟨#[]⟩ :: .slice none 0 0 :: .int .i64 0 :: .int .i64 0 :: .int .i64 0 :: .int .i64 0 :: .int .i64 0 :: .int .i64 0 :: .slice none 0 0 :: .slice none 0 0 :: []) 44
 go_upto_region 1 with (fail)
 first | rw [hw1] | skip
 clear hw1
 have hs1 : w.heap.size + 2 ≤ w1.heap.size := by have := CR.out.lt; omega
 have hsw : w.heap.size + 1 ≠ w1.heap.size := by omega
 have hsw2 : w.heap.size ≤ w1.heap.size := by omega
 obtain ⟨pr, hpr⟩ : ∃ pr, pr = w.heap.size + 1 := ⟨_, rfl⟩
 rw [← hpr] at CR hsw ⊢
 obtain ⟨pa, hpa⟩ : ∃ pa, pa = w.heap.size := ⟨_, rfl⟩
 rw [← hpa] at CA
 first | rw [← hpa] | skip
 have HPA := Lib.hid hpa
 have hprw : w.heap.size ≤ pr := by omega
 clear hpr hs1 hpa
 have a0 := CA.out.cell 0
 have a1 := CA.out.cell 1
 have a2 := CA.out.cell 2
 simp only [List.getElem?_cons_zero, List.getElem?_cons_succ] at a0 a1 a2
 have HZC : Hid ((w1.alloc (.cells (.int .i64 0 :: .int .i64 0 :: .int .i64 0 :: .int .i64 0 :: .int .i64 0 :: .int .i64 0 :: .int .i64 0 :: .int .i64 0 :: .int .i64 0 :: .slice none 0 0 :: .int .i64 0 :: .slice none 0 0 :: .int .i64 0 :: .int .i64 0 :: .int .i64 0 :: .int .i64 0 :: .int .i64 0 :: .slice none 0 0 :: .slice none 0 0 :: .int .i64 0 :: .int .i64 0 :: .int .i64 0 :: .int .i64 0 :: .int .i64 0 :: .int .i64 0 :: .int .i64 0 :: .int .i64 0 :: .string ⟨#[]⟩ :: .string ⟨#[]⟩ :: .slice none 0 0 :: .int .i64 0 :: .int .i64 0 :: .int .i64 0 :: .int .i64 0 :: .int .i64 0 :: .int .i64 0 :: .slice none 0 0 :: .slice none 0 0 :: []).toArray 44)).heap[w1.heap.size]? = some (.cells (.int .i64 0 :: .int .i64 0 :: .int .i64 0 :: .int .i64 0 :: .int .i64 0 :: .int .i64 0 :: .int .i64 0 :: .int .i64 0 :: .int .i64 0 :: .slice none 0 0 :: .int .i64 0 :: .slice none 0 0 :: .int .i64 0 :: .int .i64 0 :: .int .i64 0 :: .int .i64 0 :: .int .i64 0 :: .slice none 0 0 :: .slice none 0 0 :: .int .i64 0 :: .int .i64 0 :: .int .i64 0 :: .int .i64 0 :: .int .i64 0 :: .int .i64 0 :: .int .i64 0 :: .int .i64 0 :: .string ⟨#[]⟩ :: .string ⟨#[]⟩ :: .slice none 0 0 :: .int .i64 0 :: .int .i64 0 :: .int .i64 0 :: .int .i64 0 :: .int .i64 0 :: .int .i64 0 :: .slice none 0 0 :: .slice none 0 0 :: []).toArray 44 (0, 0))) := Cl.new w1 (.int .i64 0 :: .int .i64 0 :: .int .i64 0 :: .int .i64 0 :: .int .i64 0 :: .int .i64 0 :: .int .i64 0 :: .int .i64 0 :: .int .i64 0 :: .slice none 0 0 :: .int .i64 0 :: .slice none 0 0 :: .int .i64 0 :: .int .i64 0 :: .int .i64 0 :: .int .i64 0 :: .int .i64 0 :: .slice none 0 0 :: .slice none 0 0 :: .int .i64 0 :: .int .i64 0 :: .int .i64 0 :: .int .i64 0 :: .int .i64 0 :: .int .i64 0 :: .int .i64 0 :: .int .i64 0 :: .string ⟨#[]⟩ :: .string ⟨#[]⟩ :: .slice none 0 0 :: .int .i64 0 :: .int .i64 0 :: .int .i64 0 :: .int .i64 0 :: .int .i64 0 :: .int .i64 0 :: .slice none 0 0 :: .slice none 0 0 :: []) _
 have CO : Hid (Cl ((w1.alloc (.cells (.int .i64 0 :: .int .i64 0 :: .int .i64 0 :: .int .i64 0 :: .int .i64 0 :: .int .i64 0 :: .int .i64 0 :: .int .i64 0 :: .int .i64 0 :: .slice none 0 0 :: .int .i64 0 :: .slice none 0 0 :: .int .i64 0 :: .int .i64 0 :: .int .i64 0 :: .int .i64 0 :: .int .i64 0 :: .slice none 0 0 :: .slice none 0 0 :: .int .i64 0 :: .int .i64 0 :: .int .i64 0 :: .int .i64 0 :: .int .i64 0 :: .int .i64 0 :: .int .i64 0 :: .int .i64 0 :: .string ⟨#[]⟩ :: .string ⟨#[]⟩ :: .slice none 0 0 :: .int .i64 0 :: .int .i64 0 :: .int .i64 0 :: .int .i64 0 :: .int .i64 0 :: .int .i64 0 :: .slice none 0 0 :: .slice none 0 0 :: []).toArray 44)).setRow w1.heap.size (.int .i64 1 :: .int .i64 x_frm :: .int .i64 x_to :: .int .i64 0 :: .int .i64 0 :: .int .i64 0 :: .int .i64 0 :: .int .i64 0 :: .int .i64 0 :: .slice none 0 0 :: .int .i64 0 :: .slice none 0 0 :: .int .i64 0 :: .int .i64 0 :: .int .i64 0 :: .int .i64 0 :: .int .i64 0 :: .slice none 0 0 :: .slice none 0 0 :: .int .i64 0 :: .int .i64 0 :: .int .i64 0 :: .int .i64 0 :: .int .i64 0 :: .int .i64 0 :: .int .i64 0 :: .int .i64 0 :: .string ⟨#[]⟩ :: .string ⟨#[]⟩ :: .slice none 0 0 :: .int .i64 0 :: .int .i64 0 :: .int .i64 0 :: .int .i64 0 :: .int .i64 0 :: .int .i64 0 :: .slice none 0 0 :: .slice none 0 0 :: []).toArray) w1.heap.size (.int .i64 1 :: .int .i64 x_frm :: .int .i64 x_to :: .int .i64 0 :: .int .i64 0 :: .int .i64 0 :: .int .i64 0 :: .int .i64 0 :: .int .i64 0 :: .slice none 0 0 :: .int .i64 0 :: .slice none 0 0 :: .int .i64 0 :: .int .i64 0 :: .int .i64 0 :: .int .i64 0 :: .int .i64 0 :: .slice none 0 0 :: .slice none 0 0 :: .int .i64 0 :: .int .i64 0 :: .int .i64 0 :: .int .i64 0 :: .int .i64 0 :: .int .i64 0 :: .int .i64 0 :: .int .i64 0 :: .string ⟨#[]⟩ :: .string ⟨#[]⟩ :: .slice none 0 0 :: .int .i64 0 :: .int .i64 0 :: .int .i64 0 :: .int .i64 0 :: .int .i64 0 :: .int .i64 0 :: .slice none 0 0 :: .slice none 0 0 :: []) 44) := Cl.row (Cl.new w1 (.int .i64 0 :: .int .i64 0 :: .int .i64 0 :: .int .i64 0 :: .int .i64 0 :: .int .i64 0 :: .int .i64 0 :: .int .i64 0 :: .int .i64 0 :: .slice none 0 0 :: .int .i64 0 :: .slice none 0 0 :: .int .i64 0 :: .int .i64 0 :: .int .i64 0 :: .int .i64 0 :: .int .i64 0 :: .slice none 0 0 :: .slice none 0 0 :: .int .i64 0 :: .int .i64 0 :: .int .i64 0 :: .int .i64 0 :: .int .i64 0 :: .int .i64 0 :: .int .i64 0 :: .int .i64 0 :: .string ⟨#[]⟩ :: .string ⟨#[]⟩ :: .slice none 0 0 :: .int .i64 0 :: .int .i64 0 :: .int .i64 0 :: .int .i64 0 :: .int .i64 0 :: .int .i64 0 :: .slice none 0 0 :: .slice none 0 0 :: []) _) _
 have b2 : Hid (Below w1.heap.size w1 ((w1.alloc (.cells (.int .i64 0 :: .int .i64 0 :: .int .i64 0 :: .int .i64 0 :: .int .i64 0 :: .int .i64 0 :: .int .i64 0 :: .int .i64 0 :: .int .i64 0 :: .slice none 0 0 :: .int .i64 0 :: .slice none 0 0 :: .int .i64 0 :: .int .i64 0 :: .int .i64 0 :: .int .i64 0 :: .int .i64 0 :: .slice none 0 0 :: .slice none 0 0 :: .int .i64 0 :: .int .i64 0 :: .int .i64 0 :: .int .i64 0 :: .int .i64 0 :: .int .i64 0 :: .int .i64 0 :: .int .i64 0 :: .string ⟨#[]⟩ :: .string ⟨#[]⟩ :: .slice none 0 0 :: .int .i64 0 :: .int .i64 0 :: .int .i64 0 :: .int .i64 0 :: .int .i64 0 :: .int .i64 0 :: .slice none 0 0 :: .slice none 0 0 :: []).toArray 44)).setRow w1.heap.size (.int .i64 1 :: .int .i64 x_frm :: .int .i64 x_to :: .int .i64 0 :: .int .i64 0 :: .int .i64 0 :: .int .i64 0 :: .int .i64 0 :: .int .i64 0 :: .slice none 0 0 :: .int .i64 0 :: .slice none 0 0 :: .int .i64 0 :: .int .i64 0 :: .int .i64 0 :: .int .i64 0 :: .int .i64 0 :: .slice none 0 0 :: .slice none 0 0 :: .int .i64 0 :: .int .i64 0 :: .int .i64 0 :: .int .i64 0 :: .int .i64 0 :: .int .i64 0 :: .int .i64 0 :: .int .i64 0 :: .string ⟨#[]⟩ :: .string ⟨#[]⟩ :: .slice none 0 0 :: .int .i64 0 :: .int .i64 0 :: .int .i64 0 :: .int .i64 0 :: .int .i64 0 :: .int .i64 0 :: .slice none 0 0 :: .slice none 0 0 :: []).toArray)) := ((Below.refl _ _).alloc (Nat.le_refl _) _).trans ((Keeps.row (S := fun j => j = w1.heap.size) _ w1.heap.size _ rfl).toBelow (by simp) (fun k hk e => by omega))
 have HI38 := Lib.hid (show (Tryz.prog.info? 44).map (·.size) = some ((.int .i64 1 :: .int .i64 x_frm :: .int .i64 x_to :: .int .i64 0 :: .int .i64 0 :: .int .i64 0 :: .int .i64 0 :: .int .i64 0 :: .int .i64 0 :: .slice none 0 0 :: .int .i64 0 :: .slice none 0 0 :: .int .i64 0 :: .int .i64 0 :: .int .i64 0 :: .int .i64 0 :: .int .i64 0 :: .slice none 0 0 :: .slice none 0 0 :: .int .i64 0 :: .int .i64 0 :: .int .i64 0 :: .int .i64 0 :: .int .i64 0 :: .int .i64 0 :: .int .i64 0 :: .int .i64 0 :: .string ⟨#[]⟩ :: .string ⟨#[]⟩ :: .slice none 0 0 :: .int .i64 0 :: .int .i64 0 :: .int .i64 0 :: .int .i64 0 :: .int .i64 0 :: .int .i64 0 :: .slice none 0 0 :: .slice none 0 0 :: []).toArray : Array Value).size by kernel_rfl)
 have HONE : Hid (((.int .i64 1 :: .int .i64 x_frm :: .int .i64 x_to :: .int .i64 0 :: .int .i64 0 :: .int .i64 0 :: .int .i64 0 :: .int .i64 0 :: .int .i64 0 :: .slice none 0 0 :: .int .i64 0 :: .slice none 0 0 :: .int .i64 0 :: .int .i64 0 :: .int .i64 0 :: .int .i64 0 :: .int .i64 0 :: .slice none 0 0 :: .slice none 0 0 :: .int .i64 0 :: .int .i64 0 :: .int .i64 0 :: .int .i64 0 :: .int .i64 0 :: .int .i64 0 :: .int .i64 0 :: .int .i64 0 :: .string ⟨#[]⟩ :: .string ⟨#[]⟩ :: .slice none 0 0 :: .int .i64 0 :: .int .i64 0 :: .int .i64 0 :: .int .i64 0 :: .int .i64 0 :: .int .i64 0 :: .slice none 0 0 :: .slice none 0 0 :: []).toArray : Array Value).all (·.oneCell') = true) := by simp [Hid, Value.oneCell']
 have HSZ : Hid (((.int .i64 0 :: .int .i64 0 :: .int .i64 0 :: .int .i64 0 :: .int .i64 0 :: .int .i64 0 :: .int .i64 0 :: .int .i64 0 :: .int .i64 0 :: .slice none 0 0 :: .int .i64 0 :: .slice none 0 0 :: .int .i64 0 :: .int .i64 0 :: .int .i64 0 :: .int .i64 0 :: .int .i64 0 :: .slice none 0 0 :: .slice none 0 0 :: .int .i64 0 :: .int .i64 0 :: .int .i64 0 :: .int .i64 0 :: .int .i64 0 :: .int .i64 0 :: .int .i64 0 :: .int .i64 0 :: .string ⟨#[]⟩ :: .string ⟨#[]⟩ :: .slice none 0 0 :: .int .i64 0 :: .int .i64 0 :: .int .i64 0 :: .int .i64 0 :: .int .i64 0 :: .int .i64 0 :: .slice none 0 0 :: .slice none 0 0 :: []).toArray : Array Value).size = ((.int .i64 1 :: .int .i64 x_frm :: .int .i64 x_to :: .int .i64 0 :: .int .i64 0 :: .int .i64 0 :: .int .i64 0 :: .int .i64 0 :: .int .i64 0 :: .slice none 0 0 :: .int .i64 0 :: .slice none 0 0 :: .int .i64 0 :: .int .i64 0 :: .int .i64 0 :: .int .i64 0 :: .int .i64 0 :: .slice none 0 0 :: .slice none 0 0 :: .int .i64 0 :: .int .i64 0 :: .int .i64 0 :: .int .i64 0 :: .int .i64 0 :: .int .i64 0 :: .int .i64 0 :: .int .i64 0 :: .string ⟨#[]⟩ :: .string ⟨#[]⟩ :: .slice none 0 0 :: .int .i64 0 :: .int .i64 0 :: .int .i64 0 :: .int .i64 0 :: .int .i64 0 :: .int .i64 0 :: .slice none 0 0 :: .slice none 0 0 :: []).toArray : Array Value).size) := rfl
 go_upto_region 2 with (refine wpList_store_row (by rfl) _ _ _ (by rfl) w1.heap.size (.int .i64 1 :: .int .i64 x_frm :: .int .i64 x_to :: .int .i64 0 :: .int .i64 0 :: .int .i64 0 :: .int .i64 0 :: .int .i64 0 :: .int .i64 0 :: .slice none 0 0 :: .int .i64 0 :: .slice none 0 0 :: .int .i64 0 :: .int .i64 0 :: .int .i64 0 :: .int .i64 0 :: .int .i64 0 :: .slice none 0 0 :: .slice none 0 0 :: .int .i64 0 :: .int .i64 0 :: .int .i64 0 :: .int .i64 0 :: .int .i64 0 :: .int .i64 0 :: .int .i64 0 :: .int .i64 0 :: .string ⟨#[]⟩ :: .string ⟨#[]⟩ :: .slice none 0 0 :: .int .i64 0 :: .int .i64 0 :: .int .i64 0 :: .int .i64 0 :: .int .i64 0 :: .int .i64 0 :: .slice none 0 0 :: .slice none 0 0 :: []).toArray (by rfl) (by rfl) 44 _ HZC.out HI38.out HSZ.out HONE.out ?_)
 generalize (w1.alloc (.cells (.int .i64 0 :: .int .i64 0 :: .int .i64 0 :: .int .i64 0 :: .int .i64 0 :: .int .i64 0 :: .int .i64 0 :: .int .i64 0 :: .int .i64 0 :: .slice none 0 0 :: .int .i64 0 :: .slice none 0 0 :: .int .i64 0 :: .int .i64 0 :: .int .i64 0 :: .int .i64 0 :: .int .i64 0 :: .slice none 0 0 :: .slice none 0 0 :: .int .i64 0 :: .int .i64 0 :: .int .i64 0 :: .int .i64 0 :: .int .i64 0 :: .int .i64 0 :: .int .i64 0 :: .int .i64 0 :: .string ⟨#[]⟩ :: .string ⟨#[]⟩ :: .slice none 0 0 :: .int .i64 0 :: .int .i64 0 :: .int .i64 0 :: .int .i64 0 :: .int .i64 0 :: .int .i64 0 :: .slice none 0 0 :: .slice none 0 0 :: []).toArray 44)).setRow w1.heap.size (.int .i64 1 :: .int .i64 x_frm :: .int .i64 x_to :: .int .i64 0 :: .int .i64 0 :: .int .i64 0 :: .int .i64 0 :: .int .i64 0 :: .int .i64 0 :: .slice none 0 0 :: .int .i64 0 :: .slice none 0 0 :: .int .i64 0 :: .int .i64 0 :: .int .i64 0 :: .int .i64 0 :: .int .i64 0 :: .slice none 0 0 :: .slice none 0 0 :: .int .i64 0 :: .int .i64 0 :: .int .i64 0 :: .int .i64 0 :: .int .i64 0 :: .int .i64 0 :: .int .i64 0 :: .int .i64 0 :: .string ⟨#[]⟩ :: .string ⟨#[]⟩ :: .slice none 0 0 :: .int .i64 0 :: .int .i64 0 :: .int .i64 0 :: .int .i64 0 :: .int .i64 0 :: .int .i64 0 :: .slice none 0 0 :: .slice none 0 0 :: []).toArray = w2 at *
 clear HZC HI38 HONE HSZ a0 a1 a2
 have hpo : ¬ pr = w1.heap.size := hsw
 have hpo2 : ¬ pa = w1.heap.size := by have := CA.out.lt; omega
 have CA2 := Lib.hid (CA.out.below b2.out)
 have CR2 := Lib.hid (CR.out.below b2.out)
 have B2 := Lib.hid (bt B1.out b2.out)
 generalize w1.heap.size = po at *
 clear CA CR B1 b2 hsw
 have a0 := CA2.out.cell 0
 simp only [List.getElem?_cons_zero, List.getElem?_cons_succ] at a0
 go_upto_if 13 with (fail)
 go_cut [] (fun wz => Cl wz po (.int .i64 1 :: .int .i64 x_frm :: .int .i64 x_to :: .int .i64 0 :: .int .i64 0 :: .int .i64 0 :: .int .i64 0 :: .int .i64 0 :: .int .i64 0 :: .slice none 0 0 :: .int .i64 0 :: .slice none 0 0 :: .int .i64 0 :: .int .i64 0 :: .int .i64 0 :: .int .i64 0 :: .int .i64 0 :: .slice none 0 0 :: .slice none 0 0 :: .int .i64 0 :: .int .i64 0 :: .int .i64 0 :: .int .i64 0 :: .int .i64 0 :: .int .i64 0 :: .int .i64 0 :: .int .i64 0 :: .string ⟨#[]⟩ :: .string ⟨#[]⟩ :: .slice none 0 0 :: .int .i64 0 :: .int .i64 0 :: .int .i64 0 :: .int .i64 0 :: .int .i64 0 :: .int .i64 0 :: .slice none 0 0 :: .slice none 0 0 :: []) 44 ∧ Keeps (fun j => j = po) w2 wz)
 case first =>
  have K9 := Keeps.refl (fun j => j = po) w2
  go_wp2
  go_meet
  case rel => exact ⟨CO.out, K9⟩
 case rest =>
  obtain ⟨hC3, hK3⟩ := hcut
  generalize wc = w3 at *
  have CO3 := Lib.hid hC3
  have CA3 := Lib.hid (Cl.keep CA2.out hK3 hpo2)
  have CR3 := Lib.hid (Cl.keep CR2.out hK3 hpo)
  have B3 : Hid (Below w.heap.size w w3) := B2.out.trans (hK3.toBelow B2.out.size (fun k hk e => by omega))
  clear hC3 hK3 CA2 CR2 B2 CO a0
  have a0 := CA3.out.cell 0
  simp only [List.getElem?_cons_zero, List.getElem?_cons_succ] at a0
  go_upto_block 0 with (fail)
  go_cut [] (fun wz => Cl wz po L 44 ∧ Cl wz pr (.int .i64 0 :: .int .i64 0 :: .int .i64 0 :: .int .i64 0 :: .int .i64 0 :: .int .i64 0 :: .int .i64 0 :: .int .i64 0 :: .int .i64 0 :: .slice none 0 0 :: .int .i64 0 :: .slice none 0 0 :: .int .i64 0 :: .int .i64 0 :: .int .i64 0 :: .int .i64 0 :: .int .i64 0 :: .slice none 0 0 :: .slice none 0 0 :: .int .i64 0 :: .int .i64 0 :: .int .i64 0 :: .int .i64 0 :: .int .i64 0 :: .int .i64 0 :: .int .i64 0 :: .int .i64 0 :: .string ⟨#[]⟩ :: .string ⟨#[]⟩ :: .slice none 0 0 :: .int .i64 0 :: .int .i64 0 :: .int .i64 0 :: .int .i64 0 :: .int .i64 0 :: .int .i64 0 :: .slice none 0 0 :: .slice none 0 0 :: []) 44 ∧ Below w.heap.size w wz)
  case first =>
   clear a0 HL38 HL39 HLON HLSZ
   have HL : Hid (L = (.int .i64 1 :: .int .i64 x_frm :: .int .i64 x_to :: .int .i64 0 :: .int .i64 0 :: .int .i64 0 :: .int .i64 0 :: .int .i64 0 :: .int .i64 0 :: .slice none 0 0 :: .int .i64 0 :: .slice none 0 0 :: .int .i64 0 :: .int .i64 0 :: .int .i64 0 :: .int .i64 0 :: .int .i64 0 :: .slice none 0 0 :: .slice none 0 0 :: .int .i64 x_req.client :: .int .i64 x_req.n :: .int .i64 x_req.kind :: .int .i64 x_req.part :: .int .i64 x_req.seq :: .int .i64 x_req.off :: .int .i64 x_req.max :: .int .i64 x_req.gen :: .string ⟨x_req.group.toArray⟩ :: .string ⟨x_req.member.toArray⟩ :: .slice s4 x_req.recs.length c4 :: .int .i64 0 :: .int .i64 0 :: .int .i64 0 :: .int .i64 0 :: .int .i64 0 :: .int .i64 0 :: .slice none 0 0 :: .slice none 0 0 :: [])) := by
    rw [Hid, HL0.out]
    rfl
   clear HL0
   have CO := Lib.hid CO3.out
   have a19 := CA3.out.cell 19
   have o19 := CO.out.cell 19
   have f19 := CO.out.free 19
   have a20 := CA3.out.cell 20
   have o20 := CO.out.cell 20
   have f20 := CO.out.free 20
   have a21 := CA3.out.cell 21
   have o21 := CO.out.cell 21
   have f21 := CO.out.free 21
   have a22 := CA3.out.cell 22
   have o22 := CO.out.cell 22
   have f22 := CO.out.free 22
   have a23 := CA3.out.cell 23
   have o23 := CO.out.cell 23
   have f23 := CO.out.free 23
   have a24 := CA3.out.cell 24
   have o24 := CO.out.cell 24
   have f24 := CO.out.free 24
   have a25 := CA3.out.cell 25
   have o25 := CO.out.cell 25
   have f25 := CO.out.free 25
   have a26 := CA3.out.cell 26
   have o26 := CO.out.cell 26
   have f26 := CO.out.free 26
   have a27 := CA3.out.cell 27
   have o27 := CO.out.cell 27
   have f27 := CO.out.free 27
   have a28 := CA3.out.cell 28
   have o28 := CO.out.cell 28
   have f28 := CO.out.free 28
   have a29 := CA3.out.cell 29
   have o29 := CO.out.cell 29
   have f29 := CO.out.free 29
   simp only [List.getElem?_cons_zero, List.getElem?_cons_succ] at a19 o19 a20 o20 a21 o21 a22 o22 a23 o23 a24 o24 a25 o25 a26 o26 a27 o27 a28 o28 a29 o29
   obtain ⟨w9, hw9, C9, K9⟩ : ∃ w9, (((((((((((w3.setCell ⟨po, 19, none⟩ (.int .i64 x_req.client)).setCell ⟨po, 20, none⟩ (.int .i64 x_req.n)).setCell ⟨po, 21, none⟩ (.int .i64 x_req.kind)).setCell ⟨po, 22, none⟩ (.int .i64 x_req.part)).setCell ⟨po, 23, none⟩ (.int .i64 x_req.seq)).setCell ⟨po, 24, none⟩ (.int .i64 x_req.off)).setCell ⟨po, 25, none⟩ (.int .i64 x_req.max)).setCell ⟨po, 26, none⟩ (.int .i64 x_req.gen)).setCell ⟨po, 27, none⟩ (.string ⟨x_req.group.toArray⟩)).setCell ⟨po, 28, none⟩ (.string ⟨x_req.member.toArray⟩)).setCell ⟨po, 29, none⟩ (.slice s4 x_req.recs.length c4)) = w9 ∧ Hid (Cl w9 po (.int .i64 1 :: .int .i64 x_frm :: .int .i64 x_to :: .int .i64 0 :: .int .i64 0 :: .int .i64 0 :: .int .i64 0 :: .int .i64 0 :: .int .i64 0 :: .slice none 0 0 :: .int .i64 0 :: .slice none 0 0 :: .int .i64 0 :: .int .i64 0 :: .int .i64 0 :: .int .i64 0 :: .int .i64 0 :: .slice none 0 0 :: .slice none 0 0 :: .int .i64 x_req.client :: .int .i64 x_req.n :: .int .i64 x_req.kind :: .int .i64 x_req.part :: .int .i64 x_req.seq :: .int .i64 x_req.off :: .int .i64 x_req.max :: .int .i64 x_req.gen :: .string ⟨x_req.group.toArray⟩ :: .string ⟨x_req.member.toArray⟩ :: .slice s4 x_req.recs.length c4 :: .int .i64 0 :: .int .i64 0 :: .int .i64 0 :: .int .i64 0 :: .int .i64 0 :: .int .i64 0 :: .slice none 0 0 :: .slice none 0 0 :: []) 44) ∧ Hid (Keeps (fun j => j = po) w3 w9) :=
    ⟨_, rfl, (Cl.set (Cl.set (Cl.set (Cl.set (Cl.set (Cl.set (Cl.set (Cl.set (Cl.set (Cl.set (Cl.set CO.out 19 (.int .i64 x_req.client)) 20 (.int .i64 x_req.n)) 21 (.int .i64 x_req.kind)) 22 (.int .i64 x_req.part)) 23 (.int .i64 x_req.seq)) 24 (.int .i64 x_req.off)) 25 (.int .i64 x_req.max)) 26 (.int .i64 x_req.gen)) 27 (.string ⟨x_req.group.toArray⟩)) 28 (.string ⟨x_req.member.toArray⟩)) 29 (.slice s4 x_req.recs.length c4)), ((((((((((((Keeps.refl (fun j => j = po) w3).trans (Keeps.setCell (fun j => j = po) _ ⟨po, 19, none⟩ (.int .i64 x_req.client) rfl)).trans (Keeps.setCell (fun j => j = po) _ ⟨po, 20, none⟩ (.int .i64 x_req.n) rfl)).trans (Keeps.setCell (fun j => j = po) _ ⟨po, 21, none⟩ (.int .i64 x_req.kind) rfl)).trans (Keeps.setCell (fun j => j = po) _ ⟨po, 22, none⟩ (.int .i64 x_req.part) rfl)).trans (Keeps.setCell (fun j => j = po) _ ⟨po, 23, none⟩ (.int .i64 x_req.seq) rfl)).trans (Keeps.setCell (fun j => j = po) _ ⟨po, 24, none⟩ (.int .i64 x_req.off) rfl)).trans (Keeps.setCell (fun j => j = po) _ ⟨po, 25, none⟩ (.int .i64 x_req.max) rfl)).trans (Keeps.setCell (fun j => j = po) _ ⟨po, 26, none⟩ (.int .i64 x_req.gen) rfl)).trans (Keeps.setCell (fun j => j = po) _ ⟨po, 27, none⟩ (.string ⟨x_req.group.toArray⟩) rfl)).trans (Keeps.setCell (fun j => j = po) _ ⟨po, 28, none⟩ (.string ⟨x_req.member.toArray⟩) rfl)).trans (Keeps.setCell (fun j => j = po) _ ⟨po, 29, none⟩ (.slice s4 x_req.recs.length c4) rfl))⟩
   clear CO CO3
   have a0 := CA3.out.cell 0
   simp only [List.getElem?_cons_zero] at a0
   go_wp2
   first | rw [hw9] | skip
   go_meet
   case rel => exact ⟨by rw [HL.out]; exact C9.out, Cl.keep CR3.out K9.out hpo, B3.out.trans (K9.out.toBelow B3.out.size (fun k hk e => by omega))⟩
  case rest =>
   obtain ⟨hC4, hR4, hB4⟩ := hcut
   generalize wc = w4 at *
   have CP := Lib.hid hC4
   have CQ := Lib.hid hR4
   have B4 := Lib.hid hB4
   clear hC4 hR4 hB4 HL0 CO3 CA3 CR3 B3 a0
   have hpr : pr ≠ po := hpo
   have C9 : Hid (Cl (w4.setRow pr L.toArray) pr L 44) := by
    have := CQ.out.row L.toArray
    rwa [List.toList_toArray] at this
   have K9 : Hid (Keeps (fun j => j = pr) w4 (w4.setRow pr L.toArray)) := Keeps.row _ _ _ rfl
   have R4 := Lib.hid CP.out.range
   have HU := Lib.hid Tryz.underlying44
   go_wp2_with (first
    | (refine wpList_load_mid (by rfl) _ _ (by rfl) po 0 (by rfl) L _ R4.out HU.out (by rfl) HL38.out ?_)
    | (refine wpList_store_row (by rfl) _ _ _ (by rfl) pr L.toArray (by rfl) (by rfl) 44 _ CQ.out HL39.out HLSZ.out HLON.out ?_))
   have BF : Below w.heap.size w (w4.setRow pr L.toArray) := B4.out.trans (K9.out.toBelow B4.out.size (fun k hk e => by omega))
   refine bodyPost_ret (results_cl rfl _ _ _ _ _ _ rfl C9.out Tryz.underlying44 rfl HL38.out) rfl ?_
   exact ⟨rfl, BF⟩
end Go.Proofs.YtbljbdjmgogknaaGreatDoor
