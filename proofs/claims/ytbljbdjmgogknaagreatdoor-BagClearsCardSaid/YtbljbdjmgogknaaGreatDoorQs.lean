/-
  A region that draws its order, in which stores stand among operations that look at other cells: one walk. No program in sight.
  Conditions: none.
-/
import Derived.Test.YtbljbdjmgogknaaGreatDoorCl
import Derived.Deep.Quiet
set_option linter.unusedVariables false
set_option linter.unusedSimpArgs false
namespace Go.Proofs.YtbljbdjmgogknaaGreatDoor
open Go Go.RowKit

section
variable {P : Program} {ops : Array Oper} {md : Region.Mode} {C : Array Bool → World → Prop}

def sUpon (P : Program) (D : World → Prop) (v : Value) : Result Next → Prop
  | .ok (.value u) w' => D w' ∧ u = v
  | .ok .skip w' => D w' ∧ v = undef
  | .ok (.enter f args) w' => Calls P f args w' (fun e w'' => e = .returned v ∧ D w'')
  | _ => False
/-- The i-th operation yields v, whatever has come up. -/
def sYields (P : Program) (ops : Array Oper) (C : Array Bool → World → Prop) (i : Nat) (o : Oper) (v : Value) (a : Act) : Prop :=
  (Region.wanted o (yielded ops a.tmps) = true ∧ ∀ L w, C L w → sUpon P (C (L.setIfInBounds i true)) v ((execOp a.eval o).run P w)) ∨
  (Region.wanted o (yielded ops a.tmps) = false ∧ v = undef ∧ ∀ L w, C L w → C (L.setIfInBounds i true) w)
def sAny (P : Program) (md : Region.Mode) (ops : Array Oper) (C : Array Bool → World → Prop) (Q : Array Bool → Act → Prop) : Nat → Array Bool → Act → Prop
  | 0, L, a => Region.ready md ops L = [] ∧ Q L a
  | f + 1, L, a => Region.ready md ops L ≠ [] ∧ ∀ i ∈ Region.ready md ops L, ∀ o, ops[i]? = some o → ∃ v, sYields P ops C i o v a ∧ sAny P md ops C Q f (L.setIfInBounds i true) (a.put o.dst v)
theorem wpOp_of_s {i : Nat} {o : Oper} {v : Value} {a : Act} {L : Array Bool} {K' : Act → World → Prop} {Q' : Exit → Act → World → Prop} {w : World} (ho : ops[i]? = some o) (hC : C L w) (hy : sYields P ops C i o v a)
    (h : ∀ w', C (L.setIfInBounds i true) w' → K' (a.put o.dst v) w') : wpOp P ops Q' i K' a w := by
  unfold wpOp
  simp only [ho]
  rcases hy with ⟨hw, hy⟩ | ⟨hw, rfl, hy⟩
  · rw [if_pos hw]
    left
    have h3 := hy L w hC
    unfold Oper.wp
    generalize (execOp a.eval o).run P w = r at *
    cases r with
    | ok n w' =>
      cases n <;> simp only [sUpon] at h3 <;> simp only [Oper.upon]
      case value u => rw [h3.2]; exact h _ h3.1
      case skip => rw [← h3.2]; exact h _ h3.1
      case enter f args => exact h3.mono fun e w'' ⟨he, hw''⟩ => by subst he; exact h _ hw''
    | halt x w' => simp only [sUpon] at h3
  · rw [if_neg (by rw [hw]; exact Bool.false_ne_true)]
    exact h _ (hy L w hC)
theorem wpAny_of_s {Q : Array Bool → Act → Prop} {Q' : Exit → Act → World → Prop} (hQ : ∀ L a w, C L w → Q L a → Q' .normal a w) : ∀ (f : Nat) (L : Array Bool) (a : Act) (w : World), C L w →
    sAny P md ops C Q f L a → wpAny P md ops Q' f L a w
  | 0, _, _, _, hw, h => ⟨h.1, hQ _ _ _ hw h.2⟩
  | f + 1, L, a, w, hw, h => ⟨fun h0 => absurd h0 h.1, fun i hi => by
      obtain ⟨_, o, ho, _⟩ := mem_ready.1 hi
      obtain ⟨v, hy, hr⟩ := h.2 i hi o ho
      exact wpOp_of_s ho hw hy (fun w' hw' => wpAny_of_s hQ f _ _ w' hw' hr)⟩
theorem s_swap {i j : Nat} {oi oj : Oper} {v u : Value} (hap : oi.apart ops oj = true) (hsi : ∀ cs b, oi.op ≠ .select cs b) (hsj : ∀ cs b, oj.op ≠ .select cs b) {a : Act}
    (hy : sYields P ops C i oi v a) (h : sYields P ops C j oj u (a.put oi.dst v)) : sYields P ops C j oj u a ∧ sYields P ops C i oi v (a.put oj.dst u) ∧ (a.put oj.dst u).put oi.dst v = (a.put oi.dst v).put oj.dst u := by
  obtain ⟨h1, h2, h3⟩ := Oper.apart_spec hap
  refine ⟨?_, ?_, (Act.put_comm a v u h2).symm⟩
  · unfold sYields at *
    rwa [execOp_put oj hsj a oi.dst v h1, wanted_put oj a oi.dst v h1] at h
  · unfold sYields at *
    rw [execOp_put oi hsi a oj.dst u h3, wanted_put oi a oj.dst u h3]
    exact hy
theorem sAny_first {Q : Array Bool → Act → Prop} {i : Nat} {oi : Oper} {v : Value} (hi : ops[i]? = some oi) (hsel : ∀ (j : Nat) (o : Oper) cs b, ops[j]? = some o → o.op ≠ .select cs b) :
    ∀ (f : Nat) (L : Array Bool) (a : Act),
      (∀ j oj, ops[j]? = some oj → j ≠ i → L.getD j true = false → (∀ e ∈ oj.after, Region.binds md e = true → e.on ≠ i) → oi.apart ops oj = true) →
      i ∈ Region.ready md ops L → sYields P ops C i oi v a → sAny P md ops C Q f (L.setIfInBounds i true) (a.put oi.dst v) → sAny P md ops C Q (f + 1) L a := by
  intro f
  induction f with
  | zero =>
    intro L a _ hr hy H
    refine ⟨fun h => (by rw [h] at hr; cases hr), fun j hj o ho => ?_⟩
    by_cases e : j = i
    · subst e
      rw [hi] at ho
      injection ho with ho
      subst ho
      exact ⟨v, hy, H⟩
    · have := ready_mono hj e
      rw [H.1] at this
      cases this
  | succ f ih =>
    intro L a hfree hr hy H
    refine ⟨fun h => (by rw [h] at hr; cases hr), fun j hj o ho => ?_⟩
    by_cases e : j = i
    · subst e
      rw [hi] at ho
      injection ho with ho
      subst ho
      exact ⟨v, hy, H⟩
    · obtain ⟨u, hu, hrest⟩ := H.2 j (ready_mono hj e) o ho
      obtain ⟨hjun, oj, hoj, hall⟩ := mem_ready.1 hj
      have hun := (mem_ready.1 hr).1
      rw [ho] at hoj
      injection hoj with hoj
      subst hoj
      have hnot : ∀ x ∈ o.after, Region.binds md x = true → x.on ≠ i := fun x hx hb heq => by
        have h1 := hall x hx hb
        rw [heq] at h1
        rcases Nat.lt_or_ge i L.size with h' | h'
        · simp [h'] at hun h1; rw [hun] at h1; cases h1
        · simp [Array.getElem?_eq_none h'] at h1
      obtain ⟨k1, k2, k3⟩ := s_swap (hfree j o ho e hjun hnot) (fun cs b => hsel i oi cs b hi) (fun cs b => hsel j o cs b ho) hy hu
      refine ⟨u, k1, ih _ _ (fun k ok hk hki hunk hno => hfree k ok hk hki ?_ hno) (ready_mono hr (Ne.symm e)) k2 ?_⟩
      · by_cases hjk : j = k
        · subst hjk; exact hjun
        · rw [getD_set_ne true hjk] at hunk; exact hunk
      · rw [Array.setIfInBounds_comm _ _ e, k3]
        exact hrest
/-- All that come up, in their order. -/
def listedAll : Nat → Nat → Array Bool → Array Bool
  | 0, _, L => L
  | n + 1, k, L => listedAll n (k + 1) (L.setIfInBounds k true)
def sQuiet (P : Program) (ops : Array Oper) (C : Array Bool → World → Prop) (Q : Act → Prop) : Nat → List Oper → Act → Prop
  | _, [], a => Q a
  | k, o :: r, a => ∃ v, sYields P ops C k o v a ∧ sQuiet P ops C Q (k + 1) r (a.put o.dst v)
theorem sAny_lex {Q : Act → Prop} (hs : Region.noSelect ops = true) (F : Array Bool) : ∀ (l : List Oper) (k : Nat) (L : Array Bool) (a : Act), (∀ j, l[j]? = ops[k + j]?) → listedAll l.length k L = F →
    Region.lexFrom md ops l.length k L = true → sQuiet P ops C Q k l a → sAny P md ops C (fun L a => L = F ∧ Q a) l.length L a
  | [], _, _, _, _, hF, hB, h => ⟨by simpa [Region.lexFrom] using hB, hF, h⟩
  | o :: l, k, L, a, hl, hF, hB, h => by
    have h0 : ops[k]? = some o := by simpa using (hl 0).symm
    simp only [List.length_cons, Region.lexFrom, Bool.and_eq_true] at hB
    obtain ⟨⟨hr, hf⟩, hB'⟩ := hB
    obtain ⟨v, hy, hK⟩ := h
    exact sAny_first h0 (Region.noSelect_spec hs) l.length L a (Region.free_spec h0 hf) (by simpa using hr) hy
      (sAny_lex hs F l (k + 1) _ _ (fun j => by have := hl (j + 1); simpa [Nat.add_assoc, Nat.add_comm 1 j] using this) hF hB' hK)
/-- One walk of the region's own order. -/
theorem wp_region_stores {id : Nat} {Q : Exit → Act → World → Prop} {a : Act} {w : World} {l : List Oper} (C : Array Bool → World → Prop) (F : Array Bool) (hm : P.follows .mixedOrders = true) (hB : Region.lexB .any l.toArray = true)
    (hF : listedAll l.length 0 (Array.replicate l.length false) = F) (hC : C (Array.replicate l.length false) w.drew) (h : sQuiet P l.toArray C (fun a' => ∀ w', C F w' → Q .normal a' w') 0 l a) : (Code.region id l.toArray true).wp P Q a w := by
  simp only [Region.lexB, Bool.and_eq_true] at hB
  have hsz : l.toArray.size = l.length := by simp
  refine wp_region_any hm (wpAny_of_s (C := C) (Q := fun L a' => L = F ∧ ∀ w', C F w' → Q .normal a' w') (fun L a' w' hw' h => h.2 w' (h.1 ▸ hw')) _ _ _ _ (by rw [hsz]; exact hC) ?_)
  have := sAny_lex (P := P) (C := C) (md := .any) hB.1 F l 0 (Array.replicate l.toArray.size false) a (by simp) (by rw [hsz]; exact hF) (by simpa using hB.2) h
  simpa using this
/-- Operations that call nothing. -/
def plainB (o : Oper) : Bool :=
  match o.op with
  | .move _ | .assign _ | .load _ _ | .fieldAddr _ _ _ | .indexAddr _ _ _ | .lookup _ _ _ _ | .nilCheck _ => true
  | _ => false
theorem no_enter_v (s : Sem Value) (f : FuncId) (args : Array Value) (w w' : World) : (do pure (Next.value (← s)) : Sem Next).run P w ≠ .ok (.enter f args) w' := by
  simp only [Sem.run_bind, Sem.run_pure]
  cases s.run P w <;> simp [Result.andThen]
theorem plain_ne {o : Oper} (h : plainB o = true) (f : FuncId) (args : Array Value) (w w' : World) (a : Act) : (execOp a.eval o).run P w ≠ .ok (.enter f args) w' := by
  unfold plainB at h
  unfold execOp
  cases ho : o.op <;> rw [ho] at h <;> try (cases h; done)
  case move x => simp [Sem.run_pure]
  case assign x => simp [Sem.run_pure]
  case load t x => exact no_enter_v _ _ _ _ _
  case fieldAddr t x k => exact no_enter_v _ _ _ _ _
  case indexAddr t x k => exact no_enter_v _ _ _ _ _
  case lookup t x k b => exact no_enter_v _ _ _ _ _
  case nilCheck x =>
    simp only
    generalize a.eval x = v
    split
    all_goals try (split)
    all_goals try (simp [runtimePanic, Sem.run_pure]; done)
    all_goals
      rename_i t u _
      simp only [Sem.run_bind, run_program, Result.andThen_ok]
      generalize (nilAhead _ t u _).run P w = r
      cases r with
      | halt h w9 => simp [Result.andThen]
      | ok b w9 =>
        simp only [Result.andThen_ok]
        split <;> simp [Sem.run_bind, Sem.run_pure, Result.andThen]
/-- An operation that only looks, in all these worlds. -/
def AnyOf (C : Array Bool → World → Prop) : Type := {W : World // ∃ L, C L W}
theorem sQuiet_run {Q : Act → Prop} : ∀ (l1 l2 : List Oper) (k : Nat) (a : Act), (∀ (i : Nat) L w, k ≤ i → i < k + l1.length → C L w → C (L.setIfInBounds i true) w) →
    (∀ o ∈ l1, ∀ f args w w' (a : Act), (execOp a.eval o).run P w ≠ .ok (.enter f args) w') →
    wpQuiet P ops (fun W => ∃ b : AnyOf C, W = b.1) (fun a' => sQuiet P ops C Q (k + l1.length) l2 a') l1 a → sQuiet P ops C Q k (l1 ++ l2) a
  | [], l2, k, a, _, _, h => by simpa [wpQuiet] using h
  | o :: l1, l2, k, a, hC, hne, h => by
    have hrec := fun a' => sQuiet_run (Q := Q) l1 l2 (k + 1) a' (fun i L w h1 h2 => hC i L w (by omega) (by simp only [List.length_cons]; omega)) (fun o ho => hne o (List.mem_cons_of_mem _ ho))
    have hlen : k + 1 + l1.length = k + (o :: l1).length := by simp only [List.length_cons]; omega
    rw [wpQuiet] at h
    rw [List.cons_append, sQuiet]
    by_cases hw : Region.wanted o (yielded ops a.tmps) = true
    · rw [if_pos hw] at h
      obtain ⟨v, hv, hn⟩ := h
      refine ⟨v, .inl ⟨hw, fun L w hc => ?_⟩, hrec _ (by rw [hlen]; exact hn)⟩
      have h1 := hv w ⟨⟨w, L, hc⟩, rfl⟩
      have h2 := hne o (by simp)
      unfold Oper.quietAt at h1
      generalize hr : (execOp a.eval o).run P w = r at *
      cases r with
      | ok n w' =>
        cases n <;> simp only [Oper.quietUpon] at h1 <;> simp only [sUpon]
        case value u => rw [h1.1]; exact ⟨hC k L w (Nat.le_refl _) (by simp) hc, h1.2⟩
        case skip => rw [h1.1]; exact ⟨hC k L w (Nat.le_refl _) (by simp) hc, h1.2⟩
        case enter f args => exact absurd hr (h2 f args w w' a)
      | halt x w' => simp only [Oper.quietUpon] at h1
    · rw [if_neg hw] at h
      exact ⟨undef, .inr ⟨by simpa using hw, rfl, fun L w hc => hC k L w (Nat.le_refl _) (by simp) hc⟩, hrec _ (by rw [hlen]; exact h)⟩
theorem sQuiet_head {Q : Act → Prop} {l : List Oper} {k : Nat} {a : Act} (n : Nat) (hn : n ≤ l.length) (hp : (l.take n).all plainB = true) (hC : ∀ (i : Nat) L w, k ≤ i → i < k + n → C L w → C (L.setIfInBounds i true) w)
    (h : wpQuiet P ops (fun W => ∃ b : AnyOf C, W = b.1) (fun a' => sQuiet P ops C Q (k + n) (l.drop n) a') (l.take n) a) : sQuiet P ops C Q k l a := by
  have hlen : (l.take n).length = n := by rw [List.length_take]; omega
  have := sQuiet_run (P := P) (ops := ops) (C := C) (Q := Q) (l.take n) (l.drop n) k a (fun i L w h1 h2 => hC i L w h1 (by rw [hlen] at h2; exact h2)) (fun o ho => plain_ne (List.all_eq_true.1 hp o ho)) (by rw [hlen]; exact h)
  rwa [List.take_append_drop] at this
/-- A store: the world behind it is of the class of what has come up with it. -/
theorem sQuiet_store {Q : Act → Prop} {o : Oper} {r : List Oper} {k : Nat} {a : Act} {t : TypeId} {x y : Operand} {p : Addr} {v : Value} (hg : o.guard = none) (hd : o.dst = none) (ho : o.op = .store t x y) (hx : a.eval x = .pointer (some p)) (hy : a.eval y = v)
    (hr : ∀ L w, C L w → (Instr.storeAt t (.pointer (some p)) v).run P w = .ok () (w.setCell p v) ∧ C (L.setIfInBounds k true) (w.setCell p v)) (h : sQuiet P ops C Q (k + 1) r a) : sQuiet P ops C Q k (o :: r) a := by
  refine ⟨undef, .inl ⟨by simp [Region.wanted, hg], fun L w hc => ?_⟩, by rw [hd]; exact h⟩
  obtain ⟨h1, h2⟩ := hr L w hc
  unfold execOp
  rw [ho]
  simp only [hx, hy, Sem.run_bind, Sem.run_pure, h1, Result.andThen_ok, sUpon]
  exact ⟨h2, trivial⟩
end

/-- Cells, of which those are new whose store has come up. -/
def stL (sts : List (Nat × Nat × Value)) (L : Array Bool) (cs : List Value) : List Value := cs.mapIdx fun k c => match sts.find? (fun s => s.2.1 == k) with | some s => if L.getD s.1 false = true then s.2.2 else c | none => c
structure StC (w2 : World) (q : Nat) (t : TypeId) (n : Nat) (cs : List Value) (sts : List (Nat × Nat × Value)) (L : Array Bool) (W : World) : Prop where
  keep : Keeps (fun j => j = q) w2 W
  cl : Cl W q (stL sts L cs) t
  size : L.size = n
theorem StC.quiet {w2 : World} {q : Nat} {t : TypeId} {n : Nat} {cs : List Value} {sts : List (Nat × Nat × Value)} {L : Array Bool} {W : World} (h : StC w2 q t n cs sts L W) {i : Nat} (hi : sts.all (fun s => s.1 != i) = true) : StC w2 q t n cs sts (L.setIfInBounds i true) W := by
  refine ⟨h.keep, ?_, by rw [Array.size_setIfInBounds]; exact h.size⟩
  have : stL sts (L.setIfInBounds i true) cs = stL sts L cs := by
    unfold stL
    congr 1
    funext k c
    cases hf : sts.find? (fun s => s.2.1 == k) with
    | none => rfl
    | some s =>
      have hs := List.all_eq_true.1 hi s (List.mem_of_find?_eq_some hf)
      simp only [bne_iff_ne, ne_eq] at hs
      simp only
      rw [getD_set_ne false (fun e => hs e.symm)]
  rw [this]
  exact h.cl
theorem StC.store {w2 : World} {q : Nat} {t : TypeId} {n : Nat} {cs : List Value} {sts : List (Nat × Nat × Value)} {L : Array Bool} {W : World} (h : StC w2 q t n cs sts L W) {i off : Nat} {v : Value} (hin : i < n) (hf : sts.find? (fun s => s.2.1 == off) = some (i, off, v)) (hu : ∀ s ∈ sts, s.1 = i → s.2.1 = off) :
    StC w2 q t n cs sts (L.setIfInBounds i true) (W.setCell ⟨q, off, none⟩ v) := by
  refine ⟨h.keep.trans (Keeps.setCell _ _ _ _ rfl), ?_, by rw [Array.size_setIfInBounds]; exact h.size⟩
  have : stL sts (L.setIfInBounds i true) cs = (stL sts L cs).set off v := by
    apply List.ext_getElem?
    intro k
    unfold stL
    rw [List.getElem?_mapIdx, List.getElem?_set]
    by_cases e : off = k
    · subst e
      rw [if_pos rfl, hf]
      have hL : (L.setIfInBounds i true).getD i false = true := by
        have : i < L.size := by rw [h.size]; exact hin
        simp [this]
      simp only [hL, if_true, List.length_mapIdx]
      by_cases hk : off < cs.length
      · rw [if_pos hk, List.getElem?_eq_getElem hk]; rfl
      · rw [if_neg hk, List.getElem?_eq_none (by omega)]; rfl
    · rw [if_neg e, List.getElem?_mapIdx]
      cases cs[k]? with
      | none => rfl
      | some c =>
        simp only [Option.map_some]
        cases hg : sts.find? (fun s => s.2.1 == k) with
        | none => rfl
        | some s =>
          have h1 := List.find?_some hg
          simp only [beq_iff_eq] at h1
          have h2 : s.1 ≠ i := fun e2 => e ((hu s (List.mem_of_find?_eq_some hg) e2).symm.trans h1)
          simp only
          rw [getD_set_ne false (fun e => h2 e.symm)]
  rw [this]
  exact h.cl.set off v
theorem StC.cell {w2 : World} {q : Nat} {t : TypeId} {n : Nat} {cs : List Value} {sts : List (Nat × Nat × Value)} {L : Array Bool} {W : World} (h : StC w2 q t n cs sts L W) {p : Addr} {v : Value} (hp : w2.cell? p = some v) (hq : p.block ≠ q) : W.cell? p = some v :=
  (h.keep.cell (World.block_lt_of_cell? w2 _ hp) hq).trans hp
theorem StC.has {w2 : World} {q : Nat} {t : TypeId} {n : Nat} {cs : List Value} {sts : List (Nat × Nat × Value)} {L : Array Bool} {W : World} (h : StC w2 q t n cs sts L W) {off : Nat} (ho : off < cs.length) : ∃ u, W.cell? ⟨q, off, none⟩ = some u := by
  rw [h.cl.cell off]
  have : off < (stL sts L cs).length := by unfold stL; rw [List.length_mapIdx]; exact ho
  exact ⟨_, List.getElem?_eq_getElem this⟩
theorem StC.free {w2 : World} {q : Nat} {t : TypeId} {n : Nat} {cs : List Value} {sts : List (Nat × Nat × Value)} {L : Array Bool} {W : World} (h : StC w2 q t n cs sts L W) (off : Nat) : W.frozen? ⟨q, off, none⟩ = false := h.cl.free off

end Go.Proofs.YtbljbdjmgogknaaGreatDoor
