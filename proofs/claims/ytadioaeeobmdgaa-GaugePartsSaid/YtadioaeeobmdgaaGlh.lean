/-
  GaugeParts: what holds between two rounds. No walk here.
-/
import Derived.Test.YtadioaeeobmdgaaGlf
import Derived.Test.YtadioaeeobmdgaaQt
set_option linter.unusedVariables false
set_option linter.unusedSimpArgs false
namespace Go.Proofs.Ytadioaeeobmdgaa
open Go.RowKit Fl Go.Shelf

/-- The variables of GaugeParts in memory. -/
def PaI (w : World) (B p ba b3 : Nat) (at' : Int) (vr : Value) (ns : List (Nat × Nat)) (n : Nat) (rest : Nat × Nat) (W : World) : Prop :=
  Boxed W ba 3 (.int .i64 at') ∧ Boxed W (ba + 1) 4 (.bool false) ∧ Boxed W b3 24 (.pointer (some ⟨p, 0, none⟩)) ∧ Boxed W (b3 + 1) 24 (.pointer (some ⟨p, 0, none⟩)) ∧
    Boxed W (b3 + 2) 3 (.int .i64 n) ∧ Boxed W (b3 + 3) 30 (cx rest) ∧ GRow W B p vr ns ∧ Below ba w W ∧ b3 + 4 ≤ W.heap.size
theorem PaI.grown {w : World} {B p ba b3 : Nat} {at' : Int} {vr : Value} {ns : List (Nat × Nat)} {n : Nat} {rest : Nat × Nat} {X Y : World} {row : Option Nat} (h : PaI w B p ba b3 at' vr ns n rest X) (hg : X.grownBy Y row)
    (hr : ∀ r, row = some r → b3 + 4 ≤ r ∧ ∃ o : Obj, X.heap[r]? = some o ∧ Obj.isCells o = false) (h2 : ba ≤ w.heap.size) (h3 : ba ≤ b3 + 4) : PaI w B p ba b3 at' vr ns n rest Y := by
  obtain ⟨h1, h2', h3', h4, h5, h6, hgr, hb, hz⟩ := h
  have hr' : ∀ r, row = some r → ∃ o : Obj, X.heap[r]? = some o ∧ Obj.isCells o = false := fun r e => (hr r e).2
  have key : ∀ b t u, Boxed X b t u → Boxed Y b t u := fun b t u hb => boxed_own b t (fun _ : Unit => u) () X Y row hb hg hr'
  exact ⟨key _ _ _ h1, key _ _ _ h2', key _ _ _ h3', key _ _ _ h4, key _ _ _ h5, key _ _ _ h6, hgr.grown hg hr', hb.grown hg (Nat.le_trans h2 hb.size) (fun k e => Nat.le_trans h3 (hr k e).1), Nat.le_trans hz hg.size⟩
theorem PaI.drewN {w : World} {B p ba b3 : Nat} {at' : Int} {vr : Value} {ns : List (Nat × Nat)} {n : Nat} {rest : Nat × Nat} {X : World} (h : PaI w B p ba b3 at' vr ns n rest X) (k : Nat) : PaI w B p ba b3 at' vr ns n rest (X.drewN k) := by
  obtain ⟨h1, h2', h3', h4, h5, h6, hgr, hb, hz⟩ := h
  exact ⟨h1, h2', h3', h4, h5, h6, hgr.drewN k, below_drewN hb k, hz⟩
theorem PaI.step {w : World} {B p ba b3 : Nat} {at' : Int} {vr : Value} {ns : List (Nat × Nat)} {n : Nat} {rest : Nat × Nat} {X : World} (h : PaI w B p ba b3 at' vr ns n rest X) (hp : ba + 1 < B ∧ B ≤ p ∧ p < b3)
    (hv : ∀ g, vr.ownBlock = some g → g < b3) :
    (∀ n' : Nat, PaI w B p ba b3 at' vr ns n' rest (X.setCell ⟨b3 + 2, 0, none⟩ (.int .i64 n')) ∧ KeepsOthers X (X.setCell ⟨b3 + 2, 0, none⟩ (.int .i64 n')) ∧ KpR (b3 + 4) p X (X.setCell ⟨b3 + 2, 0, none⟩ (.int .i64 n'))) ∧
    (∀ r' : Nat × Nat, PaI w B p ba b3 at' vr ns n r' (X.setCell ⟨b3 + 3, 0, none⟩ (cx r')) ∧ KeepsOthers X (X.setCell ⟨b3 + 3, 0, none⟩ (cx r')) ∧ KpR (b3 + 4) p X (X.setCell ⟨b3 + 3, 0, none⟩ (cx r'))) := by
  obtain ⟨h1, h2, h3, h4, h5, h6, hgr, hb, hz⟩ := h
  constructor
  · intro n'
    have k : Keeps (fun k => k = b3 + 2) X (X.setCell ⟨b3 + 2, 0, none⟩ (.int .i64 n')) := Keeps.setCell _ _ _ _ rfl
    refine ⟨⟨keptB h1 k (by omega), keptB h2 k (by omega), keptB h3 k (by omega), keptB h4 k (by omega), h5.set _, keptB h6 k (by omega), hgr.kept k (by omega) (fun g e h2 => by have := hv g e; omega), hb.setCell (p := ⟨b3 + 2, 0, none⟩) (by show ba ≤ b3 + 2; omega) _, Nat.le_trans hz k.size⟩, KeepsOthers.setCell _ _ _, KpR.set _ _ (by omega) (by omega)⟩
  · intro r'
    have k : Keeps (fun k => k = b3 + 3) X (X.setCell ⟨b3 + 3, 0, none⟩ (cx r')) := Keeps.setCell _ _ _ _ rfl
    refine ⟨⟨keptB h1 k (by omega), keptB h2 k (by omega), keptB h3 k (by omega), keptB h4 k (by omega), keptB h5 k (by omega), h6.set _, hgr.kept k (by omega) (fun g e h2 => by have := hv g e; omega), hb.setCell (p := ⟨b3 + 3, 0, none⟩) (by show ba ≤ b3 + 3; omega) _, Nat.le_trans hz k.size⟩, KeepsOthers.setCell _ _ _, KpR.set _ _ (by omega) (by omega)⟩
/-- The sum of those from a place on. -/
def restOf (at' : Int) (pre : List Pr) : Nat × Nat := (sA ((pre.map (·.1.1)).drop at'.toNat), sB ((pre.map (·.1.1)).drop at'.toNat))
theorem restOf_on {at' : Int} {pre : List Pr} (x : Pr) (h : at' ≤ (pre.length : Int)) : restOf at' (pre ++ [x]) = ((restOf at' pre).1 + x.1.1.1, (restOf at' pre).2 + x.1.1.2) := by
  unfold restOf
  rw [List.map_append, List.drop_append_of_le_length (by rw [List.length_map]; omega), sA_append, sB_append]
  simp [sA, sB]
theorem restOf_off {at' : Int} {pre : List Pr} (x : Pr) (h : ¬ at' ≤ (pre.length : Int)) : restOf at' (pre ++ [x]) = restOf at' pre := by
  unfold restOf
  rw [List.drop_eq_nil_of_le (by simp; omega), List.drop_eq_nil_of_le (by simp; omega)]
theorem restOf_lt (at' : Int) (pre : List Pr) (h : pre.length ≤ 60) : (restOf at' pre).1 ≤ 62914560 ∧ (restOf at' pre).2 ≤ 62914560 := by
  have hs : Smalls (pre.map (·.1.1)) := by
    refine ⟨by simpa using h, fun q hq => ?_⟩
    obtain ⟨x, _, rfl⟩ := List.mem_map.1 hq
    exact ⟨x.2.2.2.2.2.1, x.2.2.2.2.2.2⟩
  have h1 := hs.le
  have h2 := sums_split (pre.map (·.1.1)) at'.toNat
  unfold restOf
  simp only
  omega
theorem map_goAll (ns : List (Nat × Nat)) (pre : List Pr) (h : pre.map (·.1) = goAll ns ns.length) : pre.map (·.1.1) = ns := by
  have h2 := congrArg (List.map (·.1)) h
  rw [List.map_map] at h2
  have h3 : (goAll ns ns.length).map (·.1) = ns := by
    unfold goAll
    rw [List.map_map]
    apply List.ext_getElem
    · simp
    · intro i h1 h2
      simp [List.getD, h2]
  rw [h3] at h2
  exact h2
/-- A list that no going over these sizes begins with. -/
def Off2 (ns : List (Nat × Nat)) (pre : List Pr) : Prop := ∃ pre0 x, pre = pre0 ++ [x] ∧ (sA (ns.take pre0.length) ≠ x.1.2.1 - x.1.1.1 ∨ sB (ns.take pre0.length) ≠ x.1.2.2 - x.1.1.2)
theorem pre_at {ns : List (Nat × Nat)} {pre0 : List Pr} {x : Pr} (hp : (pre0 ++ [x]).map (·.1) <+: goAll ns ns.length) : pre0.length < ns.length ∧ x.1 = (ns.getD pre0.length (0, 0), (sA (ns.take (pre0.length + 1)), sB (ns.take (pre0.length + 1)))) := by
  have hl : (pre0 ++ [x]).length ≤ ns.length := by have := hp.length_le; simpa [goAll_length] using this
  have hp0 : (pre0 ++ [x]).map (·.1) = goAll ns (pre0.length + 1) := by
    have h2 := goAll_le ns (k := pre0.length + 1) (m := ns.length) (by simpa using hl)
    exact (List.prefix_of_prefix_length_le hp h2 (by simp [goAll_length])).eq_of_length (by simp [goAll_length])
  rw [goAll_succ, List.map_append] at hp0
  obtain ⟨h1, h2⟩ := List.append_inj hp0 (by simp [goAll_length])
  exact ⟨by rw [List.length_append] at hl; exact hl, (List.cons.inj h2).1⟩
theorem Off2.not {ns : List (Nat × Nat)} {pre : List Pr} (h : Off2 ns pre) (hp : pre.map (·.1) <+: goAll ns ns.length) : False := by
  obtain ⟨pre0, x, rfl, hx⟩ := h
  obtain ⟨hlt, h3⟩ := pre_at hp
  obtain ⟨t1, t2⟩ := sums_take ns pre0.length hlt
  rw [h3] at hx
  simp only at hx
  omega
/-- The like for the first round alone. -/
def Off3 (pre : List Pr) : Prop := ∃ x : Pr, pre = [x] ∧ (x.1.1.1 ≠ x.1.2.1 ∨ x.1.1.2 ≠ x.1.2.2)
theorem Off3.not {ns : List (Nat × Nat)} {pre : List Pr} (h : Off3 pre) (hp : pre.map (·.1) <+: goAll ns ns.length) : False := by
  obtain ⟨x, rfl, hx⟩ := h
  obtain ⟨hlt, h3⟩ := pre_at (pre0 := []) hp
  obtain ⟨t1, t2⟩ := sums_take ns 0 hlt
  rw [h3] at hx
  simp [sA, sB] at hx t1 t2
  omega
theorem nlt_fl {a b : Nat} (ha : a < 2 ^ 53) (hb : b < 2 ^ 53) (h : b ≤ a) : (FloatKind.f64.format.order (fl a) (fl b) == some Ordering.lt) = false := by
  have : FloatKind.f64.format.order (fl a) (fl b) = some (compare a b) := order_fl ha hb
  rw [this]
  have : compare a b ≠ .lt := by rw [Ne, Nat.compare_eq_lt]; omega
  cases hc : compare a b <;> simp_all

end Go.Proofs.Ytadioaeeobmdgaa
