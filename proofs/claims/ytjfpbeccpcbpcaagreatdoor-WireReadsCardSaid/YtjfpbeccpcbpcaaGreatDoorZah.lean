/-
  Qw / Wg3 / Wo1: texts of one proof, one behind the other.
  Conditions: none of its own.
-/
import Derived.Test.YtjfpbeccpcbpcaaGreatDoorZag
import Derived.StillTail
set_option linter.unusedVariables false
set_option linter.unusedSimpArgs false
set_option maxHeartbeats 12800000
set_option maxRecDepth 20000
namespace Go.Proofs.YtjfpbeccpcbpcaaGreatDoor
open Go Go.RowKit
section
variable {P : Program} {ops : Array Oper} {md : Region.Mode} {C : Array Bool → World → Prop}
def DCl (md : Region.Mode) (ops : Array Oper) (L : Array Bool) : Prop := L.size = ops.size ∧ ∀ j oj, ops[j]? = some oj → L.getD j false = true → ∀ e ∈ oj.after, Region.binds md e = true → L.getD e.on false = true
theorem DCl.set {L : Array Bool} {i : Nat} (h : DCl md ops L) (hi : i ∈ Region.ready md ops L) : DCl md ops (L.setIfInBounds i true) := by
 obtain ⟨_, oi, hoi, hall⟩ := mem_ready.1 hi
 refine ⟨by simp [h.1], fun j oj hj hl e he hb => ?_⟩
 by_cases hij : i = j
 ·subst hij
  obtain rfl : oj = oi := Option.some.inj (hj.symm.trans hoi)
  exact getD_set_true (hall e he hb)
 ·rw [getD_set_ne false hij] at hl
  exact getD_set_true (h.2 j oj hj hl e he hb)
theorem DCl.wait {L : Array Bool} (h : DCl md ops L) {j i : Nat} (hw : Region.waitsFor md ops j i = true) (hj : L.getD j false = true) : L.getD i false = true := by
 obtain ⟨oj, ho, e, he, hb, rfl⟩ := Region.waitsFor_spec hw
 exact h.2 j oj ho hj e he hb
theorem ready_wait {L : Array Bool} {j i : Nat} (hj : j ∈ Region.ready md ops L) (hw : Region.waitsFor md ops j i = true) : L.getD i false = true := by
 obtain ⟨oj, ho, e, he, hb, rfl⟩ := Region.waitsFor_spec hw
 obtain ⟨_, o, ho2, hall⟩ := mem_ready.1 hj
 obtain rfl : o = oj := Option.some.inj (ho2.symm.trans ho)
 exact hall e he hb
theorem ready_not {L : Array Bool} {j : Nat} (hj : j ∈ Region.ready md ops L) : L.getD j false = false := getD_both (mem_ready.1 hj).1
def rYields (P : Program) (md : Region.Mode) (ops : Array Oper) (C : Array Bool → World → Prop) (i : Nat) (o : Oper) (v : Value) (a : Act) : Prop :=
 (Region.wanted o (yielded ops a.tmps) = true ∧ ∀ L w, DCl md ops L → i ∈ Region.ready md ops L → C L w → sUpon P (C (L.setIfInBounds i true)) v ((execOp a.eval o).run P w)) ∨
 (Region.wanted o (yielded ops a.tmps) = false ∧ v = undef ∧ ∀ L w, DCl md ops L → i ∈ Region.ready md ops L → C L w → C (L.setIfInBounds i true) w)
def rAny (P : Program) (md : Region.Mode) (ops : Array Oper) (C : Array Bool → World → Prop) (Q : Array Bool → Act → Prop) : Nat → Array Bool → Act → Prop
 | 0, L, a => Region.ready md ops L = [] ∧ Q L a
 | f + 1, L, a => Region.ready md ops L ≠ [] ∧ ∀ i ∈ Region.ready md ops L, ∀ o, ops[i]? = some o → ∃ v, rYields P md ops C i o v a ∧ rAny P md ops C Q f (L.setIfInBounds i true) (a.put o.dst v)
theorem wpOp_of_r {i : Nat} {o : Oper} {v : Value} {a : Act} {L : Array Bool} {K' : Act → World → Prop} {Q' : Exit → Act → World → Prop} {w : World} (ho : ops[i]? = some o) (hD : DCl md ops L) (hi : i ∈ Region.ready md ops L) (hC : C L w) (hy : rYields P md ops C i o v a)
  (h : ∀ w', C (L.setIfInBounds i true) w' → K' (a.put o.dst v) w') : wpOp P ops Q' i K' a w := by
 unfold wpOp
 simp only [ho]
 rcases hy with ⟨hw, hy⟩ | ⟨hw, rfl, hy⟩
 ·rw [if_pos hw]
  left
  have h3 := hy L w hD hi hC
  unfold Oper.wp
  generalize (execOp a.eval o).run P w = r at *
  cases r with
  | ok n w' =>
   cases n <;> simp only [sUpon] at h3 <;> simp only [Oper.upon]
   case value u => rw [h3.2]; exact h _ h3.1
   case skip => rw [← h3.2]; exact h _ h3.1
   case enter f args => exact h3.mono fun e w'' ⟨he, hw''⟩ => by subst he; exact h _ hw''
  | halt x w' => simp only [sUpon] at h3
 ·rw [if_neg (by rw [hw]; exact Bool.false_ne_true)]
  exact h _ (hy L w hD hi hC)
theorem wpAny_of_r {Q : Array Bool → Act → Prop} {Q' : Exit → Act → World → Prop} (hQ : ∀ L a w, C L w → Q L a → Q' .normal a w) : ∀ (f : Nat) (L : Array Bool) (a : Act) (w : World), DCl md ops L → C L w →
  rAny P md ops C Q f L a → wpAny P md ops Q' f L a w
 | 0, _, _, _, _, hw, h => ⟨h.1, hQ _ _ _ hw h.2⟩
 | f + 1, L, a, w, hD, hw, h => ⟨fun h0 => absurd h0 h.1, fun i hi => by
   obtain ⟨_, o, ho, _⟩ := mem_ready.1 hi
   obtain ⟨v, hy, hr⟩ := h.2 i hi o ho
   exact wpOp_of_r ho hD hi hw hy (fun w' hw' => wpAny_of_r hQ f _ _ w' (hD.set hi) hw' hr)⟩
theorem r_swap {i j : Nat} {oi oj : Oper} {v u : Value} (hap : oi.apart ops oj = true) (hsi : ∀ cs b, oi.op ≠ .select cs b) (hsj : ∀ cs b, oj.op ≠ .select cs b) {a : Act}
  (hy : rYields P md ops C i oi v a) (h : rYields P md ops C j oj u (a.put oi.dst v)) : rYields P md ops C j oj u a ∧ rYields P md ops C i oi v (a.put oj.dst u) ∧ (a.put oj.dst u).put oi.dst v = (a.put oi.dst v).put oj.dst u := by
 obtain ⟨h1, h2, h3⟩ := Oper.apart_spec hap
 refine ⟨?_, ?_, (Act.put_comm a v u h2).symm⟩
 ·unfold rYields at *
  rwa [execOp_put oj hsj a oi.dst v h1, wanted_put oj a oi.dst v h1] at h
 ·unfold rYields at *
  rw [execOp_put oi hsi a oj.dst u h3, wanted_put oi a oj.dst u h3]
  exact hy
theorem rAny_first {Q : Array Bool → Act → Prop} {i : Nat} {oi : Oper} {v : Value} (hi : ops[i]? = some oi) (hsel : ∀ (j : Nat) (o : Oper) cs b, ops[j]? = some o → o.op ≠ .select cs b) :
  ∀ (f : Nat) (L : Array Bool) (a : Act),
   (∀ j oj, ops[j]? = some oj → j ≠ i → L.getD j true = false → (∀ e ∈ oj.after, Region.binds md e = true → e.on ≠ i) → oi.apart ops oj = true) →
   i ∈ Region.ready md ops L → rYields P md ops C i oi v a → rAny P md ops C Q f (L.setIfInBounds i true) (a.put oi.dst v) → rAny P md ops C Q (f + 1) L a := by
 intro f
 induction f with
 | zero =>
  intro L a _ hr hy H
  refine ⟨fun h => (by rw [h] at hr; cases hr), fun j hj o ho => ?_⟩
  by_cases e : j = i
  ·subst e
   rw [hi] at ho
   injection ho with ho
   subst ho
   exact ⟨v, hy, H⟩
  ·have := ready_mono hj e
   rw [H.1] at this
   cases this
 | succ f ih =>
  intro L a hfree hr hy H
  refine ⟨fun h => (by rw [h] at hr; cases hr), fun j hj o ho => ?_⟩
  by_cases e : j = i
  ·subst e
   rw [hi] at ho
   injection ho with ho
   subst ho
   exact ⟨v, hy, H⟩
  ·obtain ⟨u, hu, hrest⟩ := H.2 j (ready_mono hj e) o ho
   obtain ⟨hjun, oj, hoj, hall⟩ := mem_ready.1 hj
   have hun := (mem_ready.1 hr).1
   rw [ho] at hoj
   injection hoj with hoj
   subst hoj
   have hnot : ∀ x ∈ o.after, Region.binds md x = true → x.on ≠ i := fun x hx hb heq => by
    have h1 := hall x hx hb
    rw [heq] at h1
    rcases Nat.lt_or_ge i L.size with h' | h'
    ·simp [h'] at hun h1; rw [hun] at h1; cases h1
    ·simp [Array.getElem?_eq_none h'] at h1
   obtain ⟨k1, k2, k3⟩ := r_swap (hfree j o ho e hjun hnot) (fun cs b => hsel i oi cs b hi) (fun cs b => hsel j o cs b ho) hy hu
   refine ⟨u, k1, ih _ _ (fun k ok hk hki hunk hno => hfree k ok hk hki ?_ hno) (ready_mono hr (Ne.symm e)) k2 ?_⟩
   ·by_cases hjk : j = k
    ·subst hjk; exact hjun
    ·rw [getD_set_ne true hjk] at hunk; exact hunk
   ·rw [Array.setIfInBounds_comm _ _ e, k3]
    exact hrest
def rQuiet (P : Program) (md : Region.Mode) (ops : Array Oper) (C : Array Bool → World → Prop) (Q : Act → Prop) : Nat → List Oper → Act → Prop
 | _, [], a => Q a
 | k, o :: r, a => ∃ v, rYields P md ops C k o v a ∧ rQuiet P md ops C Q (k + 1) r (a.put o.dst v)
theorem rAny_lex {Q : Act → Prop} (hs : Region.noSelect ops = true) (F : Array Bool) : ∀ (l : List Oper) (k : Nat) (L : Array Bool) (a : Act), (∀ j, l[j]? = ops[k + j]?) → listedAll l.length k L = F →
  Region.lexFrom md ops l.length k L = true → rQuiet P md ops C Q k l a → rAny P md ops C (fun L a => L = F ∧ Q a) l.length L a
 | [], _, _, _, _, hF, hB, h => ⟨by simpa [Region.lexFrom] using hB, hF, h⟩
 | o :: l, k, L, a, hl, hF, hB, h => by
  have h0 : ops[k]? = some o := by simpa using (hl 0).symm
  simp only [List.length_cons, Region.lexFrom, Bool.and_eq_true] at hB
  obtain ⟨⟨hr, hf⟩, hB'⟩ := hB
  obtain ⟨v, hy, hK⟩ := h
  exact rAny_first h0 (Region.noSelect_spec hs) l.length L a (Region.free_spec h0 hf) (by simpa using hr) hy
   (rAny_lex hs F l (k + 1) _ _ (fun j => by have := hl (j + 1); simpa [Nat.add_assoc, Nat.add_comm 1 j] using this) hF hB' hK)
theorem wp_region_ranks {id : Nat} {Q : Exit → Act → World → Prop} {a : Act} {w : World} {l : List Oper} (C : Array Bool → World → Prop) (F : Array Bool) (hm : P.follows .mixedOrders = true) (hB : Region.lexB .any l.toArray = true)
  (hF : listedAll l.length 0 (Array.replicate l.length false) = F) (hC : C (Array.replicate l.length false) w.drew) (h : rQuiet P .any l.toArray C (fun a' => ∀ w', C F w' → Q .normal a' w') 0 l a) : (Code.region id l.toArray true).wp P Q a w := by
 simp only [Region.lexB, Bool.and_eq_true] at hB
 have hsz : l.toArray.size = l.length := by simp
 refine wp_region_any hm (wpAny_of_r (C := C) (Q := fun L a' => L = F ∧ ∀ w', C F w' → Q .normal a' w') (fun L a' w' hw' h => h.2 w' (h.1 ▸ hw')) _ _ _ _ ⟨by simp, fun j oj _ hl => (by rw [getD_replicate_false] at hl; cases hl)⟩ (by rw [hsz]; exact hC) ?_)
 have := rAny_lex (P := P) (C := C) (md := .any) hB.1 F l 0 (Array.replicate l.toArray.size false) a (by simp) (by rw [hsz]; exact hF) (by simpa using hB.2) h
 simpa using this
def vB (o : Oper) : Bool :=
 match o.op with
 | .move _ | .assign _ | .load _ _ | .fieldAddr _ _ _ | .indexAddr _ _ _ | .unOp _ _ _ | .binOp _ _ _ _ _ | .pick _ _ _ | .extract _ _ => true
 | _ => false
theorem v_ne {o : Oper} (h : vB o = true) (f : FuncId) (args : Array Value) (w w' : World) (a : Act) : (execOp a.eval o).run P w ≠ .ok (.enter f args) w' := by
 unfold vB at h
 unfold execOp
 cases ho : o.op <;> rw [ho] at h <;> try (cases h; done)
 case move x => simp [Sem.run_pure]
 case assign x => simp [Sem.run_pure]
 case load t x => exact no_enter_v _ _ _ _ _
 case fieldAddr t x k => exact no_enter_v _ _ _ _ _
 case indexAddr t x k => exact no_enter_v _ _ _ _ _
 case unOp u t x => exact no_enter_v _ _ _ _ _
 case binOp u t x y s => exact no_enter_v _ _ _ _ _
 case extract t i => exact no_enter_v _ _ _ _ _
 case pick c x y =>
  simp only [Sem.run_bind, Sem.run_pure]
  cases (asBool (a.eval c)).run P w <;> simp [Result.andThen]
theorem rQuiet_run {Q : Act → Prop} : ∀ (l1 l2 : List Oper) (k : Nat) (a : Act), (∀ (i : Nat) L w, k ≤ i → i < k + l1.length → C L w → C (L.setIfInBounds i true) w) →
  (∀ o ∈ l1, ∀ f args w w' (a : Act), (execOp a.eval o).run P w ≠ .ok (.enter f args) w') →
  wpQuiet P ops (fun W => ∃ b : AnyOf C, W = b.1) (fun a' => rQuiet P md ops C Q (k + l1.length) l2 a') l1 a → rQuiet P md ops C Q k (l1 ++ l2) a
 | [], l2, k, a, _, _, h => by simpa [wpQuiet] using h
 | o :: l1, l2, k, a, hC, hne, h => by
  have hrec := fun a' => rQuiet_run (Q := Q) l1 l2 (k + 1) a' (fun i L w h1 h2 => hC i L w (by omega) (by simp only [List.length_cons]; omega)) (fun o ho => hne o (List.mem_cons_of_mem _ ho))
  have hlen : k + 1 + l1.length = k + (o :: l1).length := by simp only [List.length_cons]; omega
  rw [wpQuiet] at h
  rw [List.cons_append, rQuiet]
  by_cases hw : Region.wanted o (yielded ops a.tmps) = true
  ·rw [if_pos hw] at h
   obtain ⟨v, hv, hn⟩ := h
   refine ⟨v, .inl ⟨hw, fun L w _ _ hc => ?_⟩, hrec _ (by rw [hlen]; exact hn)⟩
   have h1 := hv w ⟨⟨w, L, hc⟩, rfl⟩
   have h2 := hne o (by simp)
   unfold Oper.quietAt at h1
   generalize hr : (execOp a.eval o).run P w = r at *
   cases r with
   | ok n w' =>
    cases n <;> simp only [Oper.quietUpon] at h1 <;> simp only [sUpon]
    case value u => rw [h1.1]; exact ⟨hC k L w (Nat.le_refl _) (by simp) hc, h1.2⟩
    case skip => rw [h1.1]; exact ⟨hC k L w (Nat.le_refl _) (by simp) hc, h1.2⟩
    case enter f args => exact absurd hr (h2 f args w w' a)
   | halt x w' => simp only [Oper.quietUpon] at h1
  ·rw [if_neg hw] at h
   exact ⟨undef, .inr ⟨by simpa using hw, rfl, fun L w _ _ hc => hC k L w (Nat.le_refl _) (by simp) hc⟩, hrec _ (by rw [hlen]; exact h)⟩
theorem rQuiet_head {Q : Act → Prop} {l : List Oper} {k : Nat} {a : Act} (n : Nat) (hn : n ≤ l.length) (hp : (l.take n).all vB = true) (hC : ∀ (i : Nat) L w, k ≤ i → i < k + n → C L w → C (L.setIfInBounds i true) w)
  (h : wpQuiet P ops (fun W => ∃ b : AnyOf C, W = b.1) (fun a' => rQuiet P md ops C Q (k + n) (l.drop n) a') (l.take n) a) : rQuiet P md ops C Q k l a := by
 have hlen : (l.take n).length = n := by rw [List.length_take]; omega
 have := rQuiet_run (P := P) (ops := ops) (C := C) (Q := Q) (md := md) (l.take n) (l.drop n) k a (fun i L w h1 h2 => hC i L w h1 (by rw [hlen] at h2; exact h2)) (fun o ho => v_ne (List.all_eq_true.1 hp o ho)) (by rw [hlen]; exact h)
 rwa [List.take_append_drop] at this
theorem rQuiet_call {Q : Act → Prop} {o : Oper} {r : List Oper} {k : Nat} {a : Act} {f : FuncId} {args : Array Value} (v : Value) (hw : Region.wanted o (yielded ops a.tmps) = true) (he : ∀ w, (execOp a.eval o).run P w = .ok (.enter f args) w)
  (hc : ∀ L w, DCl md ops L → k ∈ Region.ready md ops L → C L w → Calls P f args w fun e w' => e = .returned v ∧ C (L.setIfInBounds k true) w') (h : rQuiet P md ops C Q (k + 1) r (a.put o.dst v)) : rQuiet P md ops C Q k (o :: r) a :=
 ⟨v, .inl ⟨hw, fun L w hD hi hC => by rw [he w]; exact hc L w hD hi hC⟩, h⟩
theorem rQuiet_value {Q : Act → Prop} {o : Oper} {r : List Oper} {k : Nat} {a : Act} (v : Value) (W : World → World) (hw : Region.wanted o (yielded ops a.tmps) = true)
  (hc : ∀ L w, DCl md ops L → k ∈ Region.ready md ops L → C L w → (execOp a.eval o).run P w = .ok (.value v) (W w) ∧ C (L.setIfInBounds k true) (W w)) (h : rQuiet P md ops C Q (k + 1) r (a.put o.dst v)) : rQuiet P md ops C Q k (o :: r) a :=
 ⟨v, .inl ⟨hw, fun L w hD hi hC => by rw [(hc L w hD hi hC).1]; exact ⟨(hc L w hD hi hC).2, rfl⟩⟩, h⟩
theorem rQuiet_none {Q : Act → Prop} {o : Oper} {r : List Oper} {k : Nat} {a : Act} (hw : Region.wanted o (yielded ops a.tmps) = false)
  (hc : ∀ L w, DCl md ops L → k ∈ Region.ready md ops L → C L w → C (L.setIfInBounds k true) w) (h : rQuiet P md ops C Q (k + 1) r (a.put o.dst undef)) : rQuiet P md ops C Q k (o :: r) a :=
 ⟨undef, .inr ⟨hw, rfl, hc⟩, h⟩
end
open Go.RowKit
theorem ints2_cl {W : World} {g : Nat} {a b : Int} {t : TypeId} (C : Cl W g [.int .i64 a, .int .i64 b] t) : Ints W (.slice (some ⟨g, 0, none⟩) 2 2) [a, b] := by
 refine ⟨_, 2, rfl, fun i hi => ⟨g, 0, rfl, C.lt, ?_⟩⟩
 rw [Nat.zero_add, Cl.cell C i]
 rcases (show i = 0 ∨ i = 1 by simp at hi; omega) with rfl | rfl <;> rfl
theorem MsgOk.only {m : Wi.Msg} (h : MsgOk m) : MsgOk (Wi.only m) := by
 have hz : Bd.inR 0 := ⟨by decide, by decide⟩
 have hn := h.n
 simp only [List.mem_cons, List.not_mem_nil, or_false, forall_eq_or_imp, forall_eq] at hn
 obtain ⟨n0, n1, n2, n3, n4, n5, n6, n7, n8, n9, q0, q1, q2, q3, q4, q5, q6, q7, r0, r1, r2, r3, r4, r5⟩ := hn
 unfold Wi.only
 constructor <;> dsimp only
 ·simp only [List.mem_cons, List.not_mem_nil, or_false, forall_eq_or_imp, forall_eq]
  refine ⟨n0, n1, n2, ?_, ?_, ?_, ?_, ?_, ?_, ?_, ?_⟩
  ·split <;> assumption
  ·split <;> assumption
  ·split <;> assumption
  ·split <;> assumption
  ·split <;> assumption
  ·split <;> assumption
  ·split <;> assumption
  ·refine ⟨?_, ?_, ?_, ?_, ?_, ?_, ?_, ?_, ?_, ?_, ?_, ?_, ?_, ?_⟩ <;> (split <;> first | assumption | exact hz)
 ·split; exact h.c; exact ⟨by simp, by simp⟩
 ·split; exact h.l; exact ⟨by simp, by simp⟩
 ·split; exact h.b; exact ⟨hz, hz, hz, hz, hz, by simp [Wi.zBatch], by simp [Wi.zBatch]⟩
 ·split; exact h.t; exact ⟨by simp, by simp⟩
 ·split; exact h.q; exact ⟨by simp [Wi.zReq], by simp [Wi.zReq], by simp [Wi.zReq], by simp [Wi.zReq]⟩
 ·split; exact h.p; exact ⟨by simp [Wi.zResp], by simp [Wi.zResp]⟩
 ·split; exact h.a; exact ⟨by simp [Wi.zResp], by simp [Wi.zResp]⟩
theorem no_of {a b : Bool} (h : a = true → b = true) (hb : b = false) : a = false := by cases a <;> simp_all
theorem exec_load {P : Program} {o : Oper} {a : Act} {t : TypeId} {x : Operand} {p v : Value} {w : World} (ho : o.op = .load t x) (hx : a.eval x = p) (h : (Instr.loadAt t p).run P w = .ok v w) : (execOp a.eval o).run P w = .ok (.value v) w := by
 unfold execOp
 rw [ho]
 simp only [hx, Sem.run_bind, Sem.run_pure, h, Result.andThen_ok]
def gcnt (L : Array Bool) : Nat := (if L.getD 27 false then 1 else 0) + (if L.getD 28 false then 2 else 0) + (if L.getD 36 false then 1 else 0) + (if L.getD 37 false then 2 else 0)
structure gC (w1 : World) (e l o h : Int) (t : TypeId) (L : Array Bool) (W : World) : Prop where
 b : Below w1.heap.size w1 W
 s : L.getD 43 false = false → W.heap.size = w1.heap.size + gcnt L
 c1 : L.getD 27 false = true → Cl W w1.heap.size [.int .i64 e, .int .i64 l] t
 c2 : L.getD 36 false = true → Cl W (w1.heap.size + 3) [.int .i64 o, .int .i64 h] t
 z : L.size = 47
theorem set_same {L : Array Bool} {i : Nat} (h : i < L.size) : (L.setIfInBounds i true).getD i false = true := by simp [h]
theorem gC.set {w1 W : World} {e l o h : Int} {t : TypeId} {L : Array Bool} (c : gC w1 e l o h t L W) {i : Nat} (h1 : i ≠ 27) (h2 : i ≠ 28) (h3 : i ≠ 36) (h4 : i ≠ 37) (h5 : i ≠ 43) : gC w1 e l o h t (L.setIfInBounds i true) W := by
 refine ⟨c.b, ?_, ?_, ?_, by rw [Array.size_setIfInBounds]; exact c.z⟩
 ·unfold gcnt
  rw [getD_set_ne false h1, getD_set_ne false h2, getD_set_ne false h3, getD_set_ne false h4, getD_set_ne false h5]
  exact c.s
 ·rw [getD_set_ne false h1]; exact c.c1
 ·rw [getD_set_ne false h3]; exact c.c2
theorem gC.build1 {w1 W : World} {e l o h : Int} {t : TypeId} {L : Array Bool} (c : gC w1 e l o h t L W) (hs : W.heap.size = w1.heap.size) (h28 : L.getD 28 false = false) (h36 : L.getD 36 false = false) (h37 : L.getD 37 false = false) :
  gC w1 e l o h t (L.setIfInBounds 27 true) (W.alloc (.cells #[.int .i64 e, .int .i64 l] t)) := by
 refine ⟨c.b.alloc (by omega) _, fun _ => ?_, fun _ => ?_, fun h => ?_, by rw [Array.size_setIfInBounds]; exact c.z⟩
 ·unfold gcnt
  rw [getD_set_ne (i := 27) (j := 28) false (by decide), getD_set_ne (i := 27) (j := 36) false (by decide), getD_set_ne (i := 27) (j := 37) false (by decide), set_same (i := 27) (by rw [c.z]; decide), h28, h36, h37, World.size_alloc, hs]
  simp
 ·rw [← hs]; exact Cl.new W _ _
 ·rw [getD_set_ne false (by decide), h36] at h; cases h
theorem gC.build2 {w1 W : World} {e l o h : Int} {t : TypeId} {L : Array Bool} (c : gC w1 e l o h t L W) (hs : W.heap.size = w1.heap.size + 3) (h27 : L.getD 27 false = true) (h28 : L.getD 28 false = true) (h37 : L.getD 37 false = false) :
  gC w1 e l o h t (L.setIfInBounds 36 true) (W.alloc (.cells #[.int .i64 o, .int .i64 h] t)) := by
 refine ⟨c.b.alloc (by omega) _, fun _ => ?_, fun _ => Cl.alloc (c.c1 h27) _, fun h => ?_, by rw [Array.size_setIfInBounds]; exact c.z⟩
 ·unfold gcnt
  rw [getD_set_ne (i := 36) (j := 27) false (by decide), getD_set_ne (i := 36) (j := 28) false (by decide), getD_set_ne (i := 36) (j := 37) false (by decide), set_same (i := 36) (by rw [c.z]; decide), h27, h28, h37, World.size_alloc, hs]
  simp
 ·rw [← hs]; exact Cl.new W _ _
theorem gC.are1 {w1 W W' : World} {e l o h : Int} {t : TypeId} {L : Array Bool} (c : gC w1 e l o h t L W) (hb : Below W.heap.size W W') (hz : W'.heap.size = W.heap.size + 2) (h27 : L.getD 27 false = true) (h28 : L.getD 28 false = false) (h36 : L.getD 36 false = false) (h37 : L.getD 37 false = false) (h43 : L.getD 43 false = false) :
  gC w1 e l o h t (L.setIfInBounds 28 true) W' := by
 refine ⟨bt c.b hb, fun _ => ?_, fun _ => Cl.below (c.c1 h27) hb, fun h => ?_, by rw [Array.size_setIfInBounds]; exact c.z⟩
 ·have hs := c.s h43
  unfold gcnt at hs ⊢
  rw [h27, h28, h36, h37] at hs
  rw [getD_set_ne (i := 28) (j := 27) false (by decide), getD_set_ne (i := 28) (j := 36) false (by decide), getD_set_ne (i := 28) (j := 37) false (by decide), set_same (i := 28) (by rw [c.z]; decide), h27, h36, h37, hz, hs]
  simp
 ·rw [getD_set_ne false (by decide), h36] at h; cases h
theorem gC.are2 {w1 W W' : World} {e l o h : Int} {t : TypeId} {L : Array Bool} (c : gC w1 e l o h t L W) (hb : Below W.heap.size W W') (hz : W'.heap.size = W.heap.size + 2) (h27 : L.getD 27 false = true) (h28 : L.getD 28 false = true) (h36 : L.getD 36 false = true) (h37 : L.getD 37 false = false) (h43 : L.getD 43 false = false) :
  gC w1 e l o h t (L.setIfInBounds 37 true) W' := by
 refine ⟨bt c.b hb, fun _ => ?_, fun _ => Cl.below (c.c1 h27) hb, fun _ => Cl.below (c.c2 h36) hb, by rw [Array.size_setIfInBounds]; exact c.z⟩
 have hs := c.s h43
 unfold gcnt at hs ⊢
 rw [h27, h28, h36, h37] at hs
 rw [getD_set_ne (i := 37) (j := 27) false (by decide), getD_set_ne (i := 37) (j := 28) false (by decide), getD_set_ne (i := 37) (j := 36) false (by decide), set_same (i := 37) (by rw [c.z]; decide), h27, h28, h36, hz, hs]
 simp
theorem gC.only {w1 W W' : World} {e l o h : Int} {t : TypeId} {L : Array Bool} (c : gC w1 e l o h t L W) (hb : Below W.heap.size W W') : gC w1 e l o h t (L.setIfInBounds 43 true) W' := by
 refine ⟨bt c.b hb, fun h => ?_, fun h => ?_, fun h => ?_, by rw [Array.size_setIfInBounds]; exact c.z⟩
 ·rw [set_same (by rw [c.z]; decide)] at h; cases h
 ·rw [getD_set_ne false (by decide)] at h; exact Cl.below (c.c1 h) hb
 ·rw [getD_set_ne false (by decide)] at h; exact Cl.below (c.c2 h) hb
theorem gC.late {w1 W W' : World} {e l o h : Int} {t : TypeId} {L : Array Bool} (c : gC w1 e l o h t L W) (hb : Below W.heap.size W W') (h43 : L.getD 43 false = true) {i : Nat} (h1 : i ≠ 27) (h2 : i ≠ 36) (h3 : i ≠ 43) : gC w1 e l o h t (L.setIfInBounds i true) W' := by
 refine ⟨bt c.b hb, fun h => ?_, fun h => ?_, fun h => ?_, by rw [Array.size_setIfInBounds]; exact c.z⟩
 ·rw [getD_set_ne false h3, h43] at h; cases h
 ·rw [getD_set_ne false h1] at h; exact Cl.below (c.c1 h) hb
 ·rw [getD_set_ne false h2] at h; exact Cl.below (c.c2 h) hb
theorem gC.cell {w1 : World} {e l o h : Int} {t tm : TypeId} {pa : Nat} {cs : List Value} (CA : Cl w1 pa cs tm) (x : AnyOf (gC w1 e l o h t)) {k : Nat} {u : Value} (hu : cs[k]? = some u) : x.1.cell? ⟨pa, k, none⟩ = some u := by
 obtain ⟨W, L, hL⟩ := x
 exact ((Cl.below CA hL.b).cell k).trans hu
theorem only_k1 (m : Wi.Msg) (v : MsgV) (w : World) (h : MsgAt w m v) (hk : m.kind = 1) :
  Calls Tryz.prog 34 #[msgV m v] w fun e w' => e = .returned (msgV (Wi.only m) (onlyV m v)) ∧ Below w.heap.size w w' := by
 obtain ⟨s0, c0, s1, c1, s2, c2, s3, c3, s4, c4, s5, c5, s6, c6, rfl⟩ := h.slices
 obtain ⟨x_kind, x_frm, x_to, x_part, x_ep, x_off, x_high, x_life, x_pep, x_chain, x_learner, x_lives, x_batch, x_table, x_req, x_resp⟩ := m
 dsimp only at *
 clear h
 subst hk
 obtain ⟨L, hL⟩ : ∃ L, L = msgC (Wi.only ⟨1, x_frm, x_to, x_part, x_ep, x_off, x_high, x_life, x_pep, x_chain, x_learner, x_lives, x_batch, x_table, x_req, x_resp⟩) (onlyV ⟨1, x_frm, x_to, x_part, x_ep, x_off, x_high, x_life, x_pep, x_chain, x_learner, x_lives, x_batch, x_table, x_req, x_resp⟩ ⟨.slice s0 x_chain.length c0, .slice s1 x_lives.length c1, .slice s2 x_batch.recs.length c2, .slice s3 x_table.length c3, .slice s4 x_req.recs.length c4, .slice s5 x_resp.parts.length c5, .slice s6 x_resp.recs.length c6⟩) := ⟨_, rfl⟩
 have HLV : Hid (msgV (Wi.only ⟨1, x_frm, x_to, x_part, x_ep, x_off, x_high, x_life, x_pep, x_chain, x_learner, x_lives, x_batch, x_table, x_req, x_resp⟩) (onlyV ⟨1, x_frm, x_to, x_part, x_ep, x_off, x_high, x_life, x_pep, x_chain, x_learner, x_lives, x_batch, x_table, x_req, x_resp⟩ ⟨.slice s0 x_chain.length c0, .slice s1 x_lives.length c1, .slice s2 x_batch.recs.length c2, .slice s3 x_table.length c3, .slice s4 x_req.recs.length c4, .slice s5 x_resp.parts.length c5, .slice s6 x_resp.recs.length c6⟩) = .agg L.toArray) := by rw [Hid, hL, msgV]
 rw [HLV.out]
 have HL0 := hq' hL
 have HL38 := msg38 hL
 have HL39 := msg39 hL
 have HLON : Hid ((L.toArray : Array Value).all (·.oneCell') = true) := by rw [Hid, hL]; simp [msgC, onlyV, Value.oneCell']
 have HLSZ := msgSz hL
 clear hL HLV
 unfold msgV msgC
 dsimp only
 go_enter Tryz.func34, Tryz.ntmps34
 obtain ⟨w1, hw1, CA, CR, B1⟩ := twoBox (w := w) (.int .i64 1 :: .int .i64 x_frm :: .int .i64 x_to :: xt x_part x_ep x_off x_high x_life x_pep x_chain x_learner x_lives x_batch x_table x_req x_resp s0 c0 s1 c1 s2 c2 s3 c3 s4 c4 s5 c5 s6 c6) (zt0) 36
 go_upto_region 1 with (fail)
 first | rw [hw1] | skip
 clear hw1
 have hs1 : w.heap.size + 2 ≤ w1.heap.size := by have := CR.out.lt; omega
 have hsw : w.heap.size + 1 ≠ w1.heap.size := by omega
 have hsw2 : w.heap.size ≤ w1.heap.size := by omega
 obtain ⟨pr, hpr⟩ : ∃ pr, pr = w.heap.size + 1 := ⟨_, rfl⟩
 rw [← hpr] at CR hsw ⊢
 obtain ⟨pa, hpa⟩ : ∃ pa, pa = w.heap.size := ⟨_, rfl⟩
 rw [← hpa] at CA
 first | rw [← hpa] | skip
 have HPA := hq' hpa
 have hprw : w.heap.size ≤ pr := by omega
 clear hpr hs1 hpa
 have a0 := CA.out.cell 0
 have a1 := CA.out.cell 1
 have a2 := CA.out.cell 2
 simp only [g0', gs'] at a0 a1 a2
 have HZC : Hid ((w1.alloc (.cells (zt0).toArray 36)).heap[w1.heap.size]? = some (.cells (zt0).toArray 36 (0, 0))) := Cl.new w1 (zt0) _
 have CO : Hid (Cl ((w1.alloc (.cells (zt0).toArray 36)).setRow w1.heap.size (.int .i64 1 :: .int .i64 x_frm :: .int .i64 x_to :: zt3).toArray) w1.heap.size (.int .i64 1 :: .int .i64 x_frm :: .int .i64 x_to :: zt3) 36) := Cl.row (Cl.new w1 (zt0) _) _
 have b2 : Hid (Below w1.heap.size w1 ((w1.alloc (.cells (zt0).toArray 36)).setRow w1.heap.size (.int .i64 1 :: .int .i64 x_frm :: .int .i64 x_to :: zt3).toArray)) := ((Below.refl _ _).alloc (Nat.le_refl _) _).trans ((Keeps.row (S := fun j => j = w1.heap.size) _ w1.heap.size _ rfl).toBelow (by simp) (fun k hk e => by omega))
 have HI38 := hq' (show (Tryz.prog.info? 36).map (·.size) = some ((.int .i64 1 :: .int .i64 x_frm :: .int .i64 x_to :: zt3).toArray : Array Value).size by kernel_rfl)
 have HONE : Hid (((.int .i64 1 :: .int .i64 x_frm :: .int .i64 x_to :: zt3).toArray : Array Value).all (·.oneCell') = true) := by simp [Hid, Value.oneCell']
 have HSZ : Hid (((zt0).toArray : Array Value).size = ((.int .i64 1 :: .int .i64 x_frm :: .int .i64 x_to :: zt3).toArray : Array Value).size) := rfl
 go_upto_region 2 with (refine wpList_store_row (by rfl) _ _ _ (by rfl) w1.heap.size (.int .i64 1 :: .int .i64 x_frm :: .int .i64 x_to :: zt3).toArray (by rfl) (by rfl) 36 _ HZC.out HI38.out HSZ.out HONE.out ?_)
 generalize (w1.alloc (.cells (zt0).toArray 36)).setRow w1.heap.size (.int .i64 1 :: .int .i64 x_frm :: .int .i64 x_to :: zt3).toArray = w2 at *
 clear HZC HI38 HONE HSZ a0 a1 a2
 have hpo : ¬ pr = w1.heap.size := hsw
 have hpo2 : ¬ pa = w1.heap.size := by have := CA.out.lt; omega
 have CA2 := hq' (CA.out.below b2.out)
 have CR2 := hq' (CR.out.below b2.out)
 have B2 := hq' (bt B1.out b2.out)
 generalize w1.heap.size = po at *
 clear CA CR B1 b2 hsw
 have a0 := CA2.out.cell 0
 simp only [g0', gs'] at a0
 go_upto_if 13 with (fail)
 go_cut [] (fun wz => Cl wz po (.int .i64 1 :: .int .i64 x_frm :: .int .i64 x_to :: zt3) 36 ∧ Keeps (fun j => j = po) w2 wz)
 case first =>
  have K9 := Keeps.refl (fun j => j = po) w2
  go_wp2
  go_meet
  case rel => exact ⟨CO.out, K9⟩
 case rest =>
  obtain ⟨hC3, hK3⟩ := hcut
  generalize wc = w3 at *
  have CO3 := hq' hC3
  have CA3 := hq' (Cl.keep CA2.out hK3 hpo2)
  have CR3 := hq' (Cl.keep CR2.out hK3 hpo)
  have B3 : Hid (Below w.heap.size w w3) := B2.out.trans (hK3.toBelow B2.out.size (fun k hk e => by omega))
  clear hC3 hK3 CA2 CR2 B2 CO a0
  have a0 := CA3.out.cell 0
  simp only [g0', gs'] at a0
  go_upto_block 0 with (fail)
  go_cut [] (fun wz => Cl wz po L 36 ∧ Cl wz pr (zt0) 36 ∧ Below w.heap.size w wz)
  case first =>
   clear a0 HL38 HL39 HLON HLSZ
   have HL : Hid (L = (.int .i64 1 :: .int .i64 x_frm :: .int .i64 x_to :: .int .i64 0 :: .int .i64 0 :: .int .i64 0 :: .int .i64 0 :: .int .i64 0 :: .int .i64 0 :: .slice none 0 0 :: .int .i64 0 :: .slice none 0 0 :: .int .i64 0 :: .int .i64 0 :: .int .i64 0 :: .int .i64 0 :: .int .i64 0 :: .slice none 0 0 :: .slice none 0 0 :: .int .i64 x_req.client :: .int .i64 x_req.n :: .int .i64 x_req.kind :: .int .i64 x_req.part :: .int .i64 x_req.seq :: .int .i64 x_req.off :: .int .i64 x_req.max :: .int .i64 x_req.gen :: .string ⟨x_req.group.toArray⟩ :: .string ⟨x_req.member.toArray⟩ :: .slice s4 x_req.recs.length c4 :: zt30)) := by
    rw [Hid, HL0.out]
    rfl
   clear HL0
   have CO := hq' CO3.out
   have a19 := CA3.out.cell 19
   have o19 := CO.out.cell 19
   have f19 := CO.out.free 19
   have a20 := CA3.out.cell 20
   have o20 := CO.out.cell 20
   have f20 := CO.out.free 20
   have a21 := CA3.out.cell 21
   have o21 := CO.out.cell 21
   have f21 := CO.out.free 21
   have a22 := CA3.out.cell 22
   have o22 := CO.out.cell 22
   have f22 := CO.out.free 22
   have a23 := CA3.out.cell 23
   have o23 := CO.out.cell 23
   have f23 := CO.out.free 23
   have a24 := CA3.out.cell 24
   have o24 := CO.out.cell 24
   have f24 := CO.out.free 24
   have a25 := CA3.out.cell 25
   have o25 := CO.out.cell 25
   have f25 := CO.out.free 25
   have a26 := CA3.out.cell 26
   have o26 := CO.out.cell 26
   have f26 := CO.out.free 26
   have a27 := CA3.out.cell 27
   have o27 := CO.out.cell 27
   have f27 := CO.out.free 27
   have a28 := CA3.out.cell 28
   have o28 := CO.out.cell 28
   have f28 := CO.out.free 28
   have a29 := CA3.out.cell 29
   have o29 := CO.out.cell 29
   have f29 := CO.out.free 29
   simp only [g0', gs'] at a19 o19 a20 o20 a21 o21 a22 o22 a23 o23 a24 o24 a25 o25 a26 o26 a27 o27 a28 o28 a29 o29
   obtain ⟨w9, hw9, C9, K9⟩ : ∃ w9, (((((((((((w3.setCell ⟨po, 19, none⟩ (.int .i64 x_req.client)).setCell ⟨po, 20, none⟩ (.int .i64 x_req.n)).setCell ⟨po, 21, none⟩ (.int .i64 x_req.kind)).setCell ⟨po, 22, none⟩ (.int .i64 x_req.part)).setCell ⟨po, 23, none⟩ (.int .i64 x_req.seq)).setCell ⟨po, 24, none⟩ (.int .i64 x_req.off)).setCell ⟨po, 25, none⟩ (.int .i64 x_req.max)).setCell ⟨po, 26, none⟩ (.int .i64 x_req.gen)).setCell ⟨po, 27, none⟩ (.string ⟨x_req.group.toArray⟩)).setCell ⟨po, 28, none⟩ (.string ⟨x_req.member.toArray⟩)).setCell ⟨po, 29, none⟩ (.slice s4 x_req.recs.length c4)) = w9 ∧ Hid (Cl w9 po (.int .i64 1 :: .int .i64 x_frm :: .int .i64 x_to :: .int .i64 0 :: .int .i64 0 :: .int .i64 0 :: .int .i64 0 :: .int .i64 0 :: .int .i64 0 :: .slice none 0 0 :: .int .i64 0 :: .slice none 0 0 :: .int .i64 0 :: .int .i64 0 :: .int .i64 0 :: .int .i64 0 :: .int .i64 0 :: .slice none 0 0 :: .slice none 0 0 :: .int .i64 x_req.client :: .int .i64 x_req.n :: .int .i64 x_req.kind :: .int .i64 x_req.part :: .int .i64 x_req.seq :: .int .i64 x_req.off :: .int .i64 x_req.max :: .int .i64 x_req.gen :: .string ⟨x_req.group.toArray⟩ :: .string ⟨x_req.member.toArray⟩ :: .slice s4 x_req.recs.length c4 :: zt30) 36) ∧ Hid (Keeps (fun j => j = po) w3 w9) :=
    ⟨_, rfl, (Cl.set (Cl.set (Cl.set (Cl.set (Cl.set (Cl.set (Cl.set (Cl.set (Cl.set (Cl.set (Cl.set CO.out 19 (.int .i64 x_req.client)) 20 (.int .i64 x_req.n)) 21 (.int .i64 x_req.kind)) 22 (.int .i64 x_req.part)) 23 (.int .i64 x_req.seq)) 24 (.int .i64 x_req.off)) 25 (.int .i64 x_req.max)) 26 (.int .i64 x_req.gen)) 27 (.string ⟨x_req.group.toArray⟩)) 28 (.string ⟨x_req.member.toArray⟩)) 29 (.slice s4 x_req.recs.length c4)), ((((((((((((Keeps.refl (fun j => j = po) w3).trans (Keeps.setCell (fun j => j = po) _ ⟨po, 19, none⟩ (.int .i64 x_req.client) rfl)).trans (Keeps.setCell (fun j => j = po) _ ⟨po, 20, none⟩ (.int .i64 x_req.n) rfl)).trans (Keeps.setCell (fun j => j = po) _ ⟨po, 21, none⟩ (.int .i64 x_req.kind) rfl)).trans (Keeps.setCell (fun j => j = po) _ ⟨po, 22, none⟩ (.int .i64 x_req.part) rfl)).trans (Keeps.setCell (fun j => j = po) _ ⟨po, 23, none⟩ (.int .i64 x_req.seq) rfl)).trans (Keeps.setCell (fun j => j = po) _ ⟨po, 24, none⟩ (.int .i64 x_req.off) rfl)).trans (Keeps.setCell (fun j => j = po) _ ⟨po, 25, none⟩ (.int .i64 x_req.max) rfl)).trans (Keeps.setCell (fun j => j = po) _ ⟨po, 26, none⟩ (.int .i64 x_req.gen) rfl)).trans (Keeps.setCell (fun j => j = po) _ ⟨po, 27, none⟩ (.string ⟨x_req.group.toArray⟩) rfl)).trans (Keeps.setCell (fun j => j = po) _ ⟨po, 28, none⟩ (.string ⟨x_req.member.toArray⟩) rfl)).trans (Keeps.setCell (fun j => j = po) _ ⟨po, 29, none⟩ (.slice s4 x_req.recs.length c4) rfl))⟩
   clear CO CO3
   have a0 := CA3.out.cell 0
   simp only [List.getElem?_cons_zero] at a0
   go_wp2
   first | rw [hw9] | skip
   go_meet
   case rel => exact ⟨by rw [HL.out]; exact C9.out, Cl.keep CR3.out K9.out hpo, B3.out.trans (K9.out.toBelow B3.out.size (fun k hk e => by omega))⟩
  case rest =>
   obtain ⟨hC4, hR4, hB4⟩ := hcut
   generalize wc = w4 at *
   have CP := hq' hC4
   have CQ := hq' hR4
   have B4 := hq' hB4
   clear hC4 hR4 hB4 HL0 CO3 CA3 CR3 B3 a0
   have hpr : pr ≠ po := hpo
   have C9 : Hid (Cl (w4.setRow pr L.toArray) pr L 36) := by
    have := CQ.out.row L.toArray
    rwa [List.toList_toArray] at this
   have K9 : Hid (Keeps (fun j => j = pr) w4 (w4.setRow pr L.toArray)) := Keeps.row _ _ _ rfl
   have R4 := hq' CP.out.range
   have HU := hq' Tryz.underlying36
   go_wp2_with (first
    | (refine wpList_load_mid (by rfl) _ _ (by rfl) po 0 (by rfl) L _ R4.out HU.out (by rfl) HL38.out ?_)
    | (refine wpList_store_row (by rfl) _ _ _ (by rfl) pr L.toArray (by rfl) (by rfl) 36 _ CQ.out HL39.out HLSZ.out HLON.out ?_))
   have BF : Below w.heap.size w (w4.setRow pr L.toArray) := B4.out.trans (K9.out.toBelow B4.out.size (fun k hk e => by omega))
   refine bodyPost_ret (results_cl rfl _ _ _ _ _ _ rfl C9.out Tryz.underlying36 rfl HL38.out) rfl ?_
   exact ⟨rfl, BF⟩
end Go.Proofs.YtjfpbeccpcbpcaaGreatDoor
