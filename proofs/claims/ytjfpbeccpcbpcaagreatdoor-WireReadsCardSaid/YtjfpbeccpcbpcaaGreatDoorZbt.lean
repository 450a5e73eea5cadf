/-
  Ys0: texts of one proof, one behind the other.
  Conditions: none of its own.
-/
import Derived.Test.YtjfpbeccpcbpcaaGreatDoorZbj
import Derived.Test.YtjfpbeccpcbpcaaGreatDoorZbs
set_option linter.unusedVariables false
set_option linter.unusedSimpArgs false
namespace Go.Proofs.YtjfpbeccpcbpcaaGreatDoor
open Go.RowKit
def setAll : List Value → Nat → List Value → List Value
 | cs, _, [] => cs
 | cs, o, v :: r => setAll (cs.set o v) (o + 1) r
theorem Cl.mid : ∀ (vs : List Value) (o : Nat) {w : World} {g : Nat} {cs : List Value} {t : TypeId}, Cl w g cs t → Cl (w.setCells g o vs) g (setAll cs o vs) t
 | [], _, _, _, _, _, h => h
 | v :: r, o, _, _, _, _, h => Cl.mid r (o + 1) (h.set o v)
theorem keeps_mid (g : Nat) : ∀ (vs : List Value) (o : Nat) (w : World), Keeps (fun j => j = g) w (w.setCells g o vs)
 | [], _, w => Keeps.refl _ w
 | v :: r, o, w => (Keeps.setCell (fun j => j = g) w ⟨g, o, none⟩ v rfl).trans (keeps_mid g r (o + 1) _)
theorem Cl.there {w : World} {g : Nat} {cs : List Value} {t : TypeId} (h : Cl w g cs t) (o n : Nat) (hn : o + n ≤ cs.length) : w.there g o n := fun j hj =>
 ⟨by rw [h.cell, List.getElem?_eq_getElem (by omega)]; rfl, h.free _⟩
structure RM (w : World) (p : Nat) (l : List UInt8) (pr pn mb : Nat) (zc : List Value) (q : Bd.St) (cs : List Value) (W : World) : Prop where
 r : RU W p l q
 c : Cl W mb cs 36
 n : Cl W pn zc 36
 z : Cl W pr zc 36
 b : Below w.heap.size w W
 o : w.heap.size ≤ pr ∧ w.heap.size ≤ pn ∧ w.heap.size ≤ p ∧ pr < mb ∧ pn < mb ∧ p < mb ∧ p ≠ pr ∧ p ≠ pn ∧ pr ≠ pn
theorem RM.keep {S : Nat → Prop} {w W W' : World} {p pr pn mb : Nat} {l : List UInt8} {zc cs : List Value} {q q' : Bd.St} (h : RM w p l pr pn mb zc q cs W) (k : Keeps S W W') (hr : RU W' p l q') (hm : ¬ S mb) (hn : ¬ S pn) (hz : ¬ S pr) (hw : ∀ j, j < w.heap.size → ¬ S j) : RM w p l pr pn mb zc q' cs W' :=
 ⟨hr, h.c.keep k hm, h.n.keep k hn, h.z.keep k hz, h.b.trans (k.toBelow h.b.size hw), h.o⟩
theorem RM.call {w W W' : World} {p pr pn mb : Nat} {l : List UInt8} {zc cs : List Value} {q q' : Bd.St} (h : RM w p l pr pn mb zc q cs W) (k : RUs W p l q' W') : RM w p l pr pn mb zc q' cs W' := by
 have := h.o
 exact h.keep k.2 k.1 (by omega) (by omega) (by omega) (fun j hj e => by omega)
theorem RM.below {w W W' : World} {p pr pn mb : Nat} {l : List UInt8} {zc cs : List Value} {q : Bd.St} (h : RM w p l pr pn mb zc q cs W) (k : Below W.heap.size W W') : RM w p l pr pn mb zc q cs W' :=
 h.keep (Keeps.below (fun _ => False) k) (h.r.below k) id id id (fun _ _ => id)
theorem RM.own {w W W' : World} {p pr pn mb : Nat} {l : List UInt8} {zc cs : List Value} {q q' : Bd.St} (h : RM w p l pr pn mb zc q cs W) (hr : RU W' p l q') (k : Kp W p W') : RM w p l pr pn mb zc q' cs W' := by
 have := h.o
 have h1 := h.c.lt
 have h2 := h.n.lt
 have h3 := h.z.lt
 have h4 := h.b.size
 exact h.keep k hr (fun e => by rcases e with e | e <;> omega) (fun e => by rcases e with e | e <;> omega) (fun e => by rcases e with e | e <;> omega) (fun j hj e => by rcases e with e | e <;> omega)
theorem RM.mid {w W : World} {p pr pn mb : Nat} {l : List UInt8} {zc cs : List Value} {q : Bd.St} (h : RM w p l pr pn mb zc q cs W) (o : Nat) (vs : List Value) : RM w p l pr pn mb zc q (setAll cs o vs) (W.setCells mb o vs) := by
 have := h.o
 have k := keeps_mid mb vs o W
 exact ⟨h.r.keep k (by omega), h.c.mid vs o, h.n.keep k (by omega), h.z.keep k (by omega), h.b.trans (k.toBelow h.b.size (fun j hj e => by omega)), h.o⟩
theorem RM.set {w W : World} {p pr pn mb : Nat} {l : List UInt8} {zc cs : List Value} {q : Bd.St} (h : RM w p l pr pn mb zc q cs W) (i : Nat) (u : Value) : RM w p l pr pn mb zc q (cs.set i u) (W.setCell ⟨mb, i, none⟩ u) := h.mid i [u]
theorem RM.grown {B : Nat} {w W W' : World} {p pr pn mb : Nat} {l : List UInt8} {zc cs : List Value} {q : Bd.St} (h : RM w p l pr pn mb zc q cs W) (k : Keeps (fun j => B ≤ j) W W') (hB : mb < B) : RM w p l pr pn mb zc q cs W' := by
 have := h.o
 exact h.keep k (h.r.keep k (by omega)) (by omega) (by omega) (by omega) (fun j hj e => by omega)
def hdMsg (k f t pa ep : Int) : Wi.Msg := ⟨k, f, t, pa, ep, 0, 0, 0, 0, [], 0, [], Wi.zBatch, [], Wi.zReq, Wi.zResp⟩
theorem hdMsg_ok {k f t pa ep : Int} (h : ∀ x ∈ [k, f, t, pa, ep], Bd.inR x) : MsgOk (hdMsg k f t pa ep) := by
 simp only [List.mem_cons, List.not_mem_nil, or_false, forall_eq_or_imp, forall_eq] at h
 obtain ⟨h0, h1, h2, h3, h4⟩ := h
 exact msgOk_of (by simp only [hdMsg, List.mem_cons, List.not_mem_nil, or_false, forall_eq_or_imp, forall_eq]; exact ⟨h0, h1, h2, h3, h4, ⟨by decide, by decide⟩, ⟨by decide, by decide⟩, ⟨by decide, by decide⟩, ⟨by decide, by decide⟩, ⟨by decide, by decide⟩⟩) ⟨Nat.zero_le _, fun x hx => by cases hx⟩ ⟨Nat.zero_le _, fun x hx => by cases hx⟩ zBat_ok zTab_ok zReq_ok zResp_ok
theorem own0 (W : World) (B : Nat) (k f t pa ep : Int) : MsgO W B (hdMsg k f t pa ep) zeroV := ⟨own_nil _ _ _ _, own_nil _ _ _ _, own_nil _ _ _ _, tab_nil _ _, own_nil _ _ _ _, own_nil _ _ _ _, own_nil _ _ _ _⟩
theorem sHead_form (q : Bd.St) : ∃ k f t pa ep, (Wi.sHead q).1 = hdMsg k f t pa ep ∧ ∀ x ∈ [k, f, t, pa, ep], Bd.inR x := by
 by_cases h : 4 ≤ vN q 0
 ·refine ⟨vN q 0, vN q 1, vN q 2, vN q 3, vN q 4, by rw [sHead_hi q h]; rfl, ?_⟩
  simp only [List.mem_cons, List.not_mem_nil, or_false, forall_eq_or_imp, forall_eq]
  exact ⟨sInt_inR _, sInt_inR _, sInt_inR _, sInt_inR _, sInt_inR _⟩
 ·refine ⟨vN q 0, vN q 1, vN q 2, 0, 0, by rw [sHead_lo q h]; rfl, ?_⟩
  simp only [List.mem_cons, List.not_mem_nil, or_false, forall_eq_or_imp, forall_eq]
  exact ⟨sInt_inR _, sInt_inR _, sInt_inR _, ⟨by decide, by decide⟩, ⟨by decide, by decide⟩⟩
def TailOk (w : World) (p : Nat) (l : List UInt8) (pr pn mb : Nat) (zc : List Value) (m0 : Wi.Msg) (q0 : Bd.St) (W : World) : Prop :=
 ∃ (m : Wi.Msg) (v : MsgV) (qz : Bd.St), RM w p l pr pn mb zc qz (msgC m v) W ∧ MsgO W (mb + 1) m v ∧ MsgOk m ∧ Wi.tTail m0 q0 = ((m, true), qz)
theorem tReq_ok (q : Bd.St) : ReqOk (Wi.tReq q).1 := by
 have h1 : (Wi.tRecs (Bd.sText 8 (Bd.sText 8 (stN q 8)).2).2).1.length ≤ maxLen ∧ ∀ x ∈ (Wi.tRecs (Bd.sText 8 (Bd.sText 8 (stN q 8)).2).2).1, RecOk x := by
  generalize (Bd.sText 8 (Bd.sText 8 (stN q 8)).2).2 = z
  have h2 := Wi.sMany_count (f := Wi.tRec) 17 (Bd.sSign 108 z)
  refine ⟨?_, Wi.sMany_all (P := RecOk) (fun q => ⟨sInt_inR _, Nat.le_trans (sText_most 16 _) (by unfold maxLen; decide), Nat.le_trans (sText_most 64 _) (by unfold maxLen; decide)⟩) _ _⟩
  show (Wi.sMany Wi.tRec 17 (Bd.sSign 108 z)).1.length ≤ maxLen
  unfold maxLen
  omega
 exact ⟨⟨sInt_inR _, sInt_inR _, sInt_inR _, sInt_inR _, sInt_inR _, sInt_inR _, sInt_inR _, sInt_inR _⟩, Nat.le_trans (sText_most 8 (stN q 8)) (by unfold maxLen; decide), Nat.le_trans (sText_most 8 (Bd.sText 8 (stN q 8)).2) (by unfold maxLen; decide), h1.1, h1.2⟩
theorem tInts_ok (q : Bd.St) : (Wi.tInts q).1.length ≤ maxLen ∧ ∀ x ∈ (Wi.tInts q).1, Bd.inR x := by
 have h2 := Wi.sMany_count (f := Bd.sInt) 20 (Bd.sSign 108 q)
 refine ⟨?_, Wi.sMany_all (P := Bd.inR) (fun q => sInt_inR q) _ _⟩
 show (Wi.sMany Bd.sInt 20 (Bd.sSign 108 q)).1.length ≤ maxLen
 unfold maxLen
 omega
theorem tRecs_ok (q : Bd.St) : (Wi.tRecs q).1.length ≤ maxLen ∧ ∀ x ∈ (Wi.tRecs q).1, RecOk x := by
 have h2 := Wi.sMany_count (f := Wi.tRec) 17 (Bd.sSign 108 q)
 refine ⟨?_, Wi.sMany_all (P := RecOk) (fun q => ⟨sInt_inR _, Nat.le_trans (sText_most 16 _) (by unfold maxLen; decide), Nat.le_trans (sText_most 64 _) (by unfold maxLen; decide)⟩) _ _⟩
 show (Wi.sMany Wi.tRec 17 (Bd.sSign 108 q)).1.length ≤ maxLen
 unfold maxLen
 omega
theorem new_row (W : World) (cs : List Value) (t : TypeId) : ∃ W', (W.alloc (.cells cs.toArray t)).setRow W.heap.size cs.toArray = W' ∧ Hid (Cl W' W.heap.size cs t) ∧ Hid (Below W.heap.size W W') ∧ Hid ((W.alloc (.cells cs.toArray t)).heap[W.heap.size]? = some (.cells cs.toArray t (0, 0))) := by
 have c := Cl.new W cs t
 have r := c.row cs.toArray
 rw [List.toList_toArray] at r
 exact ⟨_, rfl, r, ((Below.refl _ W).alloc (Nat.le_refl _) _).trans ((Keeps.row (S := fun j => j = W.heap.size) (W.alloc (.cells cs.toArray t)) W.heap.size cs.toArray rfl).toBelow (by simp) (fun k hk e => by omega)), c⟩
theorem new_row2 (W : World) (zs cs : List Value) (t : TypeId) : ∃ W', (W.alloc (.cells zs.toArray t)).setRow W.heap.size cs.toArray = W' ∧ Hid (Cl W' W.heap.size cs t) ∧ Hid (Below W.heap.size W W') ∧ Hid ((W.alloc (.cells zs.toArray t)).heap[W.heap.size]? = some (.cells zs.toArray t (0, 0))) := by
 have c := Cl.new W zs t
 have r := c.row cs.toArray
 rw [List.toList_toArray] at r
 exact ⟨_, rfl, r, ((Below.refl _ W).alloc (Nat.le_refl _) _).trans ((Keeps.row (S := fun j => j = W.heap.size) (W.alloc (.cells zs.toArray t)) W.heap.size cs.toArray rfl).toBelow (by simp) (fun k hk e => by omega)), c⟩
structure RA (w : World) (p : Nat) (l : List UInt8) (pr pn mb : Nat) (zc : List Value) (q : Bd.St) (cs : List Value) (ab : Nat) (acs : List Value) (W : World) : Prop where
 m : RM w p l pr pn mb zc q cs W
 a : Cl W ab acs 34
 h : mb < ab
theorem RA.call {w W W' : World} {p pr pn mb ab : Nat} {l : List UInt8} {zc cs acs : List Value} {q q' : Bd.St} (h : RA w p l pr pn mb zc q cs ab acs W) (k : RUs W p l q' W') : RA w p l pr pn mb zc q' cs ab acs W' :=
 ⟨h.m.call k, h.a.keep k.2 (by have := h.m.o; have := h.h; omega), h.h⟩
theorem RA.own {w W W' : World} {p pr pn mb ab : Nat} {l : List UInt8} {zc cs acs : List Value} {q q' : Bd.St} (h : RA w p l pr pn mb zc q cs ab acs W) (hr : RU W' p l q') (k : Kp W p W') : RA w p l pr pn mb zc q' cs ab acs W' :=
 ⟨h.m.own hr k, h.a.keep k (fun e => by have := h.m.o; have := h.h; have := h.a.lt; rcases e with e | e <;> omega), h.h⟩
theorem RA.set {w W : World} {p pr pn mb ab : Nat} {l : List UInt8} {zc cs acs : List Value} {q : Bd.St} (h : RA w p l pr pn mb zc q cs ab acs W) (i : Nat) (u : Value) : RA w p l pr pn mb zc q cs ab (acs.set i u) (W.setCell ⟨ab, i, none⟩ u) := by
 have k : Keeps (fun j => j = ab) W (W.setCell ⟨ab, i, none⟩ u) := Keeps.setCell _ _ _ _ rfl
 have ho := h.m.o
 have hh := h.h
 have hb := h.m.b.size
 exact ⟨h.m.keep k (h.m.r.keep k (by omega)) (by omega) (by omega) (by omega) (fun j hj e => by omega), h.a.set i u, hh⟩
theorem ret_row {W w : World} {pr : Nat} {zc : List Value} {t : TypeId} (c : Cl W pr zc t) (b : Below w.heap.size w W) (hp : w.heap.size ≤ pr) (ds : List Value) : ∃ wf, W.setRow pr ds.toArray = wf ∧ Hid (Cl wf pr ds t) ∧ Hid (Below w.heap.size w wf) := by
 have r := c.row ds.toArray
 rw [List.toList_toArray] at r
 exact ⟨_, rfl, r, b.trans ((Keeps.row (S := fun j => j = pr) W pr ds.toArray rfl).toBelow b.size (fun k hk e => by omega))⟩
theorem new_reader (l : List UInt8) (W : World) : ∃ W', W.alloc (.cells #[.string ⟨l.toArray⟩, .int .i64 0, .bool false] 93) = W' ∧ Hid (RU W' W.heap.size l (l, false)) ∧ Hid (Below W.heap.size W W') :=
 ⟨_, rfl, RU.new l W, (Below.refl _ _).alloc (Nat.le_refl _) _⟩
theorem sHead_len (q : Bd.St) : (Wi.sHead q).2.1.length ≤ q.1.length := by
 by_cases h : 4 ≤ vN q 0
 ·rw [sHead_hi q h]; exact stN_len q 5
 ·rw [sHead_lo q h]; exact stN_len q 3
/-! ### A region that makes a pair, appends it and stores the row -/
def lwC (w1 w2 w3 w5 : World) (L : Array Bool) (W : World) : Prop := W = if L.getD 15 false then w5 else if L.getD 13 false then w3 else if L.getD 12 false then w2 else w1
theorem lwC.set {w1 w2 w3 w5 W : World} {L : Array Bool} {i : Nat} (h : lwC w1 w2 w3 w5 L W) (h1 : i ≠ 12) (h2 : i ≠ 13) (h3 : i ≠ 15) : lwC w1 w2 w3 w5 (L.setIfInBounds i true) W := by
 unfold lwC at *
 rw [getD_set_ne false h1, getD_set_ne false h2, getD_set_ne false h3]
 exact h
theorem lwC.any {w1 w2 w3 w5 W : World} {L : Array Bool} (h : lwC w1 w2 w3 w5 L W) : W = w1 ∨ W = w2 ∨ W = w3 ∨ W = w5 := by
 unfold lwC at h
 split at h
 ·exact .inr (.inr (.inr h))
 ·split at h
  ·exact .inr (.inr (.inl h))
  ·split at h
   ·exact .inr (.inl h)
   ·exact .inl h
theorem lwC.first {w1 w2 w3 w5 W : World} {L : Array Bool} (h : lwC w1 w2 w3 w5 L W) (h15 : L.getD 15 false = false) (h13 : L.getD 13 false = false) : W = w1 ∨ W = w2 := by
 unfold lwC at h
 rw [h15, h13] at h
 simp only [Bool.false_eq_true, if_false] at h
 split at h
 ·exact .inr h
 ·exact .inl h
theorem lwC.cell {w1 w2 w3 w5 : World} {p : Addr} {u : Value} (h1 : w1.cell? p = some u) (h2 : w2.cell? p = some u) (h3 : w3.cell? p = some u) (h5 : w5.cell? p = some u) (y : AnyOf (lwC w1 w2 w3 w5)) : y.1.cell? p = some u := by
 obtain ⟨W, L, h⟩ := y
 rcases h.any with e | e | e | e <;> (subst e; assumption)
theorem rQuiet_store {P : Program} {ops : Array Oper} {md : Region.Mode} {C : Array Bool → World → Prop} {Q : Act → Prop} {o : Oper} {r : List Oper} {k : Nat} {a : Act} (W : World → World) (hw : Region.wanted o (yielded ops a.tmps) = true)
  (hc : ∀ L w, DCl md ops L → k ∈ Region.ready md ops L → C L w → (execOp a.eval o).run P w = .ok .skip (W w) ∧ C (L.setIfInBounds k true) (W w)) (h : rQuiet P md ops C Q (k + 1) r (a.put o.dst undef)) : rQuiet P md ops C Q k (o :: r) a :=
 ⟨undef, .inl ⟨hw, fun L w hD hi hC => by rw [(hc L w hD hi hC).1]; exact ⟨(hc L w hD hi hC).2, rfl⟩⟩, h⟩
theorem exec_ldL (a : Act) (w : World) (o : Oper) (k : Nat) (p : Addr) (v : Value) (ho : o.op = .load 25 (.tmp k)) (h0 : a.eval (.tmp k) = .pointer (some p)) (hc : w.cell? p = some v) : (execOp a.eval o).run Tryz.prog w = .ok (.value v) w := by
 generalize a.eval = ev at *
 unfold execOp
 rw [ho]
 go_simp
theorem exec_b2L (a : Act) (w : World) (o : Oper) (k0 k1 : Nat) (x0 x1 : Int) (ho : o.op = .build 64 #[(0, .tmp k0), (1, .tmp k1)]) (h0 : a.eval (.tmp k0) = .int .i64 x0) (h1 : a.eval (.tmp k1) = .int .i64 x1) :
  (execOp a.eval o).run Tryz.prog w = .ok (.value (.agg #[.int .i64 x0, .int .i64 x1])) w := by
 generalize a.eval = ev at *
 unfold execOp
 rw [ho]
 go_simp
theorem exec_bsL (a : Act) (w : World) (o : Oper) (k : Nat) (x0 x1 : Int) (ho : o.op = .buildSlice 25 1 #[(0, .tmp k)]) (h0 : a.eval (.tmp k) = .agg #[.int .i64 x0, .int .i64 x1]) :
  (execOp a.eval o).run Tryz.prog w = .ok (.value (.slice (some ⟨w.heap.size, 0, none⟩) 1 1)) (w.alloc (.cells #[.int .i64 x0, .int .i64 x1] 64)) := by
 generalize a.eval = ev at *
 unfold execOp
 rw [ho]
 go_simp
theorem exec_appL {P : Program} (a : Act) (w w' : World) (o : Oper) (s x : Operand) (t : TypeId) (v' : Value) (hop : o.op = Op.call { callee := Callee.builtin Builtin.append, args := #[s, x], argTypes := #[t, t] }) (hrun : (Builtin.append_ #[t, t] o.type #[a.eval s, a.eval x]).run P w = .ok v' w') :
  (execOp a.eval o).run P w = .ok (.value v') w' := by
 simp [execOp, hop, resolve, invoke, builtin, hrun, Result.andThen]
theorem exec_stL (a : Act) (w : World) (o : Oper) (k0 k1 : Nat) (p : Addr) (u v : Value) (ho : o.op = .store 25 (.tmp k0) (.tmp k1)) (h0 : a.eval (.tmp k0) = .pointer (some p)) (h1 : a.eval (.tmp k1) = v) (hv : ∃ a n c, v = .slice a n c) (hc : w.cell? p = some u) (hf : w.frozen? p = false) :
  (execOp a.eval o).run Tryz.prog w = .ok .skip (w.setCell p v) := by
 obtain ⟨_, _, _, rfl⟩ := hv
 generalize a.eval = ev at *
 unfold execOp
 rw [ho]
 go_simp
theorem own_int {w : World} {b : Nat} {a : Option Addr} {c : Nat} {l : List Int} (h : w.ownsRow b 3 1 (.slice a l.length c) l.length (iv l)) {k : Nat} (hk : k < l.length) : ∃ g off, a = some ⟨g, off, none⟩ ∧ w.cell? ⟨g, off + k, none⟩ = some (.int .i64 (l.getD k 0)) := by
 obtain ⟨a', cap, e, hc⟩ := ints_own h
 injection e with e1 e2 e3
 subst e1
 obtain ⟨g, off, e4, _, h0⟩ := hc k hk
 exact ⟨g, off, e4, h0⟩
theorem own_int_at {w : World} {b g off c : Nat} {l : List Int} (h : w.ownsRow b 3 1 (.slice (some ⟨g, off, none⟩) l.length c) l.length (iv l)) {k : Nat} (hk : k < l.length) : w.cell? ⟨g, off + k, none⟩ = some (.int .i64 (l.getD k 0)) := by
 obtain ⟨g', off', e, h0⟩ := own_int h hk
 injection e with e
 injection e with e1 e2 e3
 subst e1
 subst e2
 exact h0
theorem lives_ok {l : List Int} (h : l.length ≤ maxLen ∧ ∀ x ∈ l, Bd.inR x) : ((List.range (l.length / 2)).map (pairAt l)).length ≤ maxLen ∧ ∀ x ∈ (List.range (l.length / 2)).map (pairAt l), Bd.inR x.1 ∧ Bd.inR x.2 := by
 refine ⟨by rw [List.length_map, List.length_range]; have := h.1; omega, fun x hx => ?_⟩
 obtain ⟨k, hk, rfl⟩ := List.mem_map.1 hx
 rw [List.mem_range] at hk
 refine ⟨?_, ?_⟩
 ·have e : l.getD (2 * k) 0 = l[2 * k] := by simp [List.getD, (by omega : 2 * k < l.length)]
  show Bd.inR (l.getD (2 * k) 0)
  rw [e]; exact h.2 _ (List.getElem_mem _)
 ·have e : l.getD (2 * k + 1) 0 = l[2 * k + 1] := by simp [List.getD, (by omega : 2 * k + 1 < l.length)]
  show Bd.inR (l.getD (2 * k + 1) 0)
  rw [e]; exact h.2 _ (List.getElem_mem _)
theorem tInts_20 (q : Bd.St) : (Wi.tInts q).1.length ≤ 20 := Wi.sMany_count (f := Bd.sInt) 20 (Bd.sSign 108 q)
theorem rem_two (n : Nat) : ((n : Int) % 2 != 0) = !decide (n % 2 = 0) := by
 by_cases h : n % 2 = 0
 ·have e : (n : Int) % 2 = 0 := by omega
  rw [e, decide_eq_true h]; rfl
 ·have e : (n : Int) % 2 = 1 := by omega
  rw [e, decide_eq_false h]; rfl
end Go.Proofs.YtjfpbeccpcbpcaaGreatDoor
