/-
  GaugeStays: going over sizes shows them as they were when the going began.
  Conditions: none but the model's longest length.
-/
import Derived.Test.YtadioaeeobmdgaaGwi
import Derived.Test.YtadioaeeobmdgaaGla
import Derived.Test.YtadioaeeobmdgaaGlb
set_option linter.unusedVariables false
set_option linter.unusedSimpArgs false
namespace Go.Proofs.Ytadioaeeobmdgaa
open Go.RowKit Fl Go.Shelf
attribute [local go_sem] Oper.semAt_some

theorem all_any (p : Nat) (w : World) : Calls Try.prog 27 #[.pointer (some ⟨p, 0, none⟩)] w fun e w' =>
    e = .returned (.func (.func 30) #[] #[.pointer (some ⟨w.heap.size, 0, none⟩)]) ∧ w.alloc (.cells #[.pointer (some ⟨p, 0, none⟩)] 24) = w' := by
  go_enter Try.func27, Try.ntmps27
  go_wp2
  go_ret
  exact ⟨rfl, rfl⟩
theorem run_equalIn_func_nil {P : Program} (w : World) (d : Nat) (t : TypeId) (ps rs : Array TypeId) (vr : Bool) (f : Fn) (a b : Array Value) (h : P.underlying t = some (.func ps rs vr)) :
    (Op.equalIn (d + 1) t (.func f a b) .nilFunc).run P w = .ok false w := by
  simp [Op.equalIn, run_underlying h]
theorem run_eql_func_nil {P : Program} (w : World) (t : TypeId) (ps rs : Array TypeId) (vr : Bool) (f : Fn) (a b : Array Value) (h : P.underlying t = some (.func ps rs vr)) :
    (binOp .eql t (.func f a b) .nilFunc).run P w = .ok (.bool false) w := by
  simp only [binOp]
  simp [Op.equal, Op.maxDepth, run_equalIn_func_nil w 9999 t ps rs vr f a b h]
theorem eq_nilFunc (f : Fn) (a b : Array Value) (w : World) : (binOp .eql 60 (.func f a b) .nilFunc).run Try.prog w = .ok (.bool false) w := by
  have h : (match Try.prog.underlying 60 with | some (.func _ _ _) => true | _ => false) = true := by kernel_rfl
  cases hu : Try.prog.underlying 60 with
  | none => rw [hu] at h; cases h
  | some d =>
    rw [hu] at h
    cases d <;> first | (cases h; done) | exact run_eql_func_nil w _ _ _ _ f a b hu
/-- The sum that came last. -/
def lastUp (pre : List Pr) : Nat × Nat := match pre.getLast? with
  | some x => x.1.2
  | none => (0, 0)
theorem lastUp_snoc (pre : List Pr) (x : Pr) : lastUp (pre ++ [x]) = x.1.2 := by simp [lastUp]
theorem lastUp_lt (pre : List Pr) : (lastUp pre).1 < 2 ^ 53 ∧ (lastUp pre).2 < 2 ^ 53 := by
  unfold lastUp
  split
  · rename_i x _; exact ⟨x.2.2.2.1, x.2.2.2.2.1⟩
  · decide
theorem lastUp_all (ns : List (Nat × Nat)) : ∀ (k : Nat) (pre : List Pr), pre.map (·.1) = goAll ns k → lastUp pre = (sA (ns.take k), sB (ns.take k))
  | 0, pre, h => by
    have : pre = [] := by simpa [goAll] using h
    subst this
    rfl
  | k + 1, pre, h => by
    rw [goAll_succ] at h
    obtain ⟨a, b, rfl, ha, hb⟩ := List.map_eq_append_iff.1 h
    obtain ⟨x, rfl⟩ := list1 (by simpa using congrArg List.length hb)
    have h3 : x.1 = _ := (List.cons.inj hb).1
    rw [lastUp_snoc, h3]
/-- A list that no going over sizes begins with. -/
def Off (pre : List Pr) : Prop := ∃ pre0 x, pre = pre0 ++ [x] ∧ (x.1.2.1 - x.1.1.1 ≠ (lastUp pre0).1 ∨ x.1.2.2 - x.1.1.2 ≠ (lastUp pre0).2)
theorem Off.not {ns : List (Nat × Nat)} {pre : List Pr} (h : Off pre) (hp : pre.map (·.1) <+: goAll ns ns.length) : False := by
  obtain ⟨pre0, x, rfl, hx⟩ := h
  have hl : (pre0 ++ [x]).length ≤ ns.length := by have := hp.length_le; simpa [goAll_length] using this
  have hp0 : (pre0 ++ [x]).map (·.1) = goAll ns (pre0.length + 1) := by
    have h2 := goAll_le ns (k := pre0.length + 1) (m := ns.length) (by simpa using hl)
    exact (List.prefix_of_prefix_length_le hp h2 (by simp [goAll_length])).eq_of_length (by simp [goAll_length])
  rw [goAll_succ, List.map_append] at hp0
  obtain ⟨h1, h2⟩ := List.append_inj hp0 (by simp [goAll_length])
  have hlast := lastUp_all ns _ _ h1
  have h3 : x.1 = _ := (List.cons.inj h2).1
  have hlt : pre0.length < ns.length := by rw [List.length_append] at hl; exact hl
  obtain ⟨t1, t2⟩ := sums_take ns pre0.length hlt
  rw [hlast, h3] at hx
  simp only at hx
  omega

end Go.Proofs.Ytadioaeeobmdgaa
