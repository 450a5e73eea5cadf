/-
  A region that draws its order, whose operations and callees only read, but for the last ones, which come in one order: one walk. No program in sight.
-/
import Derived.StillTail
import Derived.BigQuiet
import Derived.Test.YtbljbdjmgogknaaGreatDoorStr
set_option linter.unusedVariables false
set_option linter.unusedSimpArgs false
namespace Go.Proofs.YtbljbdjmgogknaaGreatDoor
open Go Go.RowKit

section
variable {P : Program} {ops : Array Oper} {md : Region.Mode} {C : World → Prop}

/-- The first n operations come up, each quiet; then L. -/
def qHead (P : Program) (md : Region.Mode) (ops : Array Oper) (C : World → Prop) (n : Nat) (L : Array Bool → Act → Prop) : Nat → Array Bool → Act → Prop
  | 0, listed, a => L listed a
  | f + 1, listed, a => Region.ready md ops listed ≠ [] ∧ ∀ i ∈ Region.ready md ops listed, i < n ∧ qOp P ops C i (qHead P md ops C n L f (listed.setIfInBounds i true)) a
theorem qHead_any {n g : Nat} {L : Array Bool → Act → Prop} {Q : Exit → Act → World → Prop} (hL : ∀ listed a w, C w → L listed a → wpAny P md ops Q g listed a w) :
    ∀ (f : Nat) (listed : Array Bool) (a : Act) (w : World), C w → qHead P md ops C n L f listed a → wpAny P md ops Q (f + g) listed a w
  | 0, listed, a, w, hw, h => by rw [Nat.zero_add]; exact hL _ _ _ hw h
  | f + 1, listed, a, w, hw, h => by
    rw [show f + 1 + g = (f + g) + 1 by omega]
    exact ⟨fun h0 => absurd h0 h.1, fun i hi => wpOp_of_qOp hw (fun a' w' hw' h' => qHead_any hL f _ a' w' hw' h') (h.2 i hi).2⟩
theorem qHead_first {n i : Nat} {oi : Oper} {v : Value} {L : Array Bool → Act → Prop} (hi : ops[i]? = some oi) (hsel : ∀ (j : Nat) (o : Oper) cs b, ops[j]? = some o → o.op ≠ .select cs b)
    (hs : Region.sinkB md ops n = true) (hc : Region.chainB md ops n = true) (hn : n < ops.size) (hin : i < n) (hL : ∀ listed a, L listed a → ∀ j ∈ Region.ready md ops listed, n ≤ j) :
    ∀ (f : Nat) (listed : Array Bool) (a : Act), HeadInv md ops n listed →
      (∀ j oj, ops[j]? = some oj → j ≠ i → listed.getD j true = false → (∀ e ∈ oj.after, Region.binds md e = true → e.on ≠ i) → oi.apart ops oj = true) →
      i ∈ Region.ready md ops listed → YieldsIn P ops C oi v a → qHead P md ops C n L f (listed.setIfInBounds i true) (a.put oi.dst v) → qHead P md ops C n L (f + 1) listed a := by
  intro f
  induction f with
  | zero =>
    intro listed a inv _ hr hy H
    have hun := (mem_ready.1 hr).1
    refine ⟨fun h => (by rw [h] at hr; cases hr), fun j hj => ?_⟩
    have hjn : j < n := Nat.lt_of_not_le fun h => tail_waits hs hc hn inv _ i rfl hin hun j h hj
    refine ⟨hjn, ?_⟩
    by_cases hji : j = i
    · subst hji; exact hy.qOp hi H
    · have := hL _ _ H j (ready_mono hj hji); omega
  | succ f ih =>
    intro listed a inv hfree hr hy H
    have hun := (mem_ready.1 hr).1
    refine ⟨fun h => (by rw [h] at hr; cases hr), fun j hj => ?_⟩
    have hjn : j < n := Nat.lt_of_not_le fun h => tail_waits hs hc hn inv _ i rfl hin hun j h hj
    refine ⟨hjn, ?_⟩
    by_cases hji : j = i
    · subst hji; exact hy.qOp hi H
    · obtain ⟨hjun, oj, hoj, hall⟩ := mem_ready.1 hj
      have hnot : ∀ e ∈ oj.after, Region.binds md e = true → e.on ≠ i := fun e he hb heq => by
        have h2 := hall e he hb
        rw [heq, getD_both hun] at h2
        cases h2
      refine qOp_mono (fun a' h3 => ih (listed.setIfInBounds j true) a' (inv.set hj hjn) (fun k ok hk hki hu hno => hfree k ok hk hki ?_ hno) (ready_mono hr (Ne.symm hji)) h3.1 ?_)
        (qOp_put hoj (hfree j oj hoj hji hjun hnot) (fun cs b => hsel i oi cs b hi) (fun cs b => hsel j oj cs b hoj) hy (H.2 j (ready_mono hj hji)).2)
      · by_cases hjk : j = k
        · subst hjk; exact hjun
        · rwa [getD_set_ne true hjk] at hu
      · rw [Array.setIfInBounds_comm _ _ hji]
        exact h3.2
theorem qHead_lex {n g : Nat} {Lq : Act → Prop} (hsel : Region.noSelect ops = true) (hs : Region.sinkB md ops n = true) (hc : Region.chainB md ops n = true) (hn : n < ops.size) :
    ∀ (l : List Oper) (k : Nat) (listed : Array Bool) (a : Act), (∀ j, j < l.length → l[j]? = ops[k + j]?) → k + l.length = n → HeadInv md ops n listed →
    Region.lexHead md ops g l.length k listed = true → wpQuiet P ops C Lq l a →
    qHead P md ops C n (fun listed' a' => Region.seqB md ops g n listed' = true ∧ Lq a') l.length listed a
  | [], k, listed, a, _, hk, _, hB, h => by
    obtain rfl : k = n := by simpa using hk
    exact ⟨by simpa [Region.lexHead] using hB, h⟩
  | o :: l, k, listed, a, hl, hk, inv, hB, h => by
    have h0 : ops[k]? = some o := by simpa using (hl 0 (by simp)).symm
    simp only [List.length_cons, Region.lexHead, Bool.and_eq_true] at hB
    obtain ⟨⟨hr, hf⟩, hB'⟩ := hB
    simp only [List.length_cons] at hk
    have hr' : k ∈ Region.ready md ops listed := by simpa using hr
    have hst : qOp P ops C k (wpQuiet P ops C Lq l) a := by unfold qOp; simp only [h0]; exact h
    obtain ⟨v, hy, hK⟩ := yieldsIn_of_qOp h0 hst
    exact qHead_first h0 (Region.noSelect_spec hsel) hs hc hn (by omega) (fun listed' a' hL => seqB_ready hL.1) l.length listed a inv (Region.free_spec h0 hf) hr' hy
      (qHead_lex hsel hs hc hn l (k + 1) _ _ (fun j hj => by have := hl (j + 1) (by simp; omega); simpa [Nat.add_assoc, Nat.add_comm 1 j] using this) (by omega) (inv.set hr' (by omega)) hB' hK)
theorem wp_region_quiet_tail {id : Nat} {Q : Exit → Act → World → Prop} {a : Act} {w : World} {l : List Oper} (n : Nat) (hm : P.follows .mixedOrders = true) (hB : Region.lexTailB .any l.toArray n = true)
    (h : wpQuiet P l.toArray (fun w' => ∃ n, w' = w.drewN n) (fun a' => ∀ w', (∃ n, w' = w.drewN n) → wpList P l.toArray Q (l.drop n) a' w') (l.take n) a) : (Code.region id l.toArray true).wp P Q a w := by
  simp only [Region.lexTailB, Bool.and_eq_true, decide_eq_true_eq] at hB
  obtain ⟨⟨⟨⟨hsel, hn⟩, hs⟩, hc⟩, hlex⟩ := hB
  have hnl : n < l.length := by simpa using hn
  refine wp_region_any hm ?_
  have hlen : (l.take n).length = n := by rw [List.length_take]; omega
  have hinv : HeadInv .any l.toArray n (Array.replicate l.toArray.size false) :=
    ⟨by simp, fun j oj _ hl => (by rw [getD_replicate_false] at hl; cases hl), fun t _ ht => (by simp at ht; simp [ht])⟩
  have h1 := qHead_lex (C := fun w' => ∃ n, w' = w.drewN n) (md := .any) (g := l.toArray.size - n) hsel hs hc hn (l.take n) 0 (Array.replicate l.toArray.size false) a
    (fun j hj => (by rw [hlen] at hj; simp [hj])) (by omega) hinv (by rw [hlen]; exact hlex) h
  have h2 := qHead_any (Q := Q) (g := l.toArray.size - n) (fun listed a' w' hw' hL => by
    have h3 := wpAny_of_seq (l.drop n) n listed a' w' (fun j => by simp) (by rw [List.length_drop]; simpa using hL.1) (hL.2 w' hw')
    rw [List.length_drop] at h3
    simpa using h3) (l.take n).length _ a _ ⟨1, rfl⟩ h1
  rw [hlen, show n + (l.toArray.size - n) = l.toArray.size by omega] at h2
  exact h2

/-- A region that draws its order, whose operations each leave one value, in every world of a class, and a world of the class: one walk. -/
theorem wp_region_class {id : Nat} {Q : Exit → Act → World → Prop} {a : Act} {w : World} {l : List Oper} (C : World → Prop) (hm : P.follows .mixedOrders = true) (hB : Region.lexB .any l.toArray = true) (hC : C w.drew)
    (h : wpQuiet P l.toArray C (fun a' => ∀ w', C w' → Q .normal a' w') l a) : (Code.region id l.toArray true).wp P Q a w :=
  wp_region_quiet (C := C) hm hB hC (by simpa using h)

/-- A world that keeps all that stood in w. -/
def BelowOf (w : World) : Type := {W : World // Below w.heap.size w W}
instance (w : World) : Nonempty (BelowOf w) := ⟨⟨w, Below.refl _ _⟩⟩
theorem BelowOf.cell {w : World} (b : BelowOf w) {p : Addr} {v : Value} (h : w.cell? p = some v) : b.1.cell? p = some v := (b.2.cell (World.block_lt_of_cell? w _ h)).trans h
/-- A region whose operations each leave one value, in whatever world that keeps what stood, and leave such a world: one walk. -/
theorem wp_region_below {id : Nat} {Q : Exit → Act → World → Prop} {a : Act} {w : World} {l : List Oper} (hm : P.follows .mixedOrders = true) (hB : Region.lexB .any l.toArray = true)
    (h : wpQuiet P l.toArray (fun W => ∃ b : BelowOf w, W = b.1) (fun a' => ∀ w', (∃ b : BelowOf w, w' = b.1) → Q .normal a' w') l a) : (Code.region id l.toArray true).wp P Q a w :=
  wp_region_class _ hm hB ⟨⟨w.drew, (Below.refl _ _).drew⟩, rfl⟩ h
/-- The same, with a tail in one order. -/
theorem wp_region_below_tail {id : Nat} {Q : Exit → Act → World → Prop} {a : Act} {w : World} {l : List Oper} (n : Nat) (hm : P.follows .mixedOrders = true) (hB : Region.lexTailB .any l.toArray n = true)
    (h : wpQuiet P l.toArray (fun W => ∃ b : BelowOf w, W = b.1) (fun a' => ∀ w', (∃ b : BelowOf w, w' = b.1) → wpList P l.toArray Q (l.drop n) a' w') (l.take n) a) : (Code.region id l.toArray true).wp P Q a w := by
  simp only [Region.lexTailB, Bool.and_eq_true, decide_eq_true_eq] at hB
  obtain ⟨⟨⟨⟨hsel, hn⟩, hs⟩, hc⟩, hlex⟩ := hB
  have hnl : n < l.length := by simpa using hn
  refine wp_region_any hm ?_
  have hlen : (l.take n).length = n := by rw [List.length_take]; omega
  have hinv : HeadInv .any l.toArray n (Array.replicate l.toArray.size false) :=
    ⟨by simp, fun j oj _ hl => (by rw [getD_replicate_false] at hl; cases hl), fun t _ ht => (by simp at ht; simp [ht])⟩
  have h1 := qHead_lex (C := fun W => ∃ b : BelowOf w, W = b.1) (md := .any) (g := l.toArray.size - n) hsel hs hc hn (l.take n) 0 (Array.replicate l.toArray.size false) a
    (fun j hj => (by rw [hlen] at hj; simp [hj])) (by omega) hinv (by rw [hlen]; exact hlex) h
  have h2 := qHead_any (Q := Q) (g := l.toArray.size - n) (fun listed a' w' hw' hL => by
    have h3 := wpAny_of_seq (l.drop n) n listed a' w' (fun j => by simp) (by rw [List.length_drop]; simpa using hL.1) (hL.2 w' hw')
    rw [List.length_drop] at h3
    simpa using h3) (l.take n).length _ a _ ⟨⟨w.drew, (Below.refl _ _).drew⟩, rfl⟩ h1
  rw [hlen, show n + (l.toArray.size - n) = l.toArray.size by omega] at h2
  exact h2
theorem belowOf_call {w a b : World} (h : Below w.heap.size w a) (k : Below a.heap.size a b) : ∃ c : BelowOf w, b = c.1 := ⟨⟨b, h.trans (k.mono h.size)⟩, rfl⟩

theorem below_class {w : World} {f : FuncId} {args : Array Value} {v : Value} (h : ∀ W, Below w.heap.size w W → Calls P f args W fun e w' => e = .returned v ∧ Below W.heap.size W w') :
    ∀ b : BelowOf w, Calls P f args b.1 fun e w' => e = .returned v ∧ ∃ c : BelowOf w, w' = c.1 := fun b => (h b.1 b.2).mono (fun _ _ ⟨a, k⟩ => ⟨a, belowOf_call b.2 k⟩)
theorem same_class {w : World} {f : FuncId} {args : Array Value} {v : Value} (h : ∀ W, Calls P f args W fun e w' => e = .returned v ∧ w' = W) :
    ∀ b : BelowOf w, Calls P f args b.1 fun e w' => e = .returned v ∧ ∃ c : BelowOf w, w' = c.1 := fun b => (h b.1).mono (fun _ _ ⟨a, k⟩ => ⟨a, b, k⟩)

end
end Go.Proofs.YtbljbdjmgogknaaGreatDoor
