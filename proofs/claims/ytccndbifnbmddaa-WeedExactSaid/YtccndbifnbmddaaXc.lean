/-
  great, small; the document's Recs and Batches; walked.
  Conditions: the batches can be read.
-/
import Derived.Test.YtccndbifnbmddaaWs
import Derived.Test.YtccndbifnbmddaaXu
import Derived.Test.YtccndbifnbmddaaQt
import Derived.Test.YtccndbifnbmddaaCrb
set_option linter.unusedVariables false
set_option linter.unusedSimpArgs false
namespace Go.Proofs.Ytccndbifnbmddaa
open Go.RowKit

def SmallPost (w : World) (e : Ending) (w' : World) : Prop := ∃ b, e = .returned (.bool b) ∧ w' = w
set_option maxRecDepth 20000 in
set_option maxHeartbeats 1600000 in
theorem small_any (l : List Cr.Rec) (hl : l.length ≤ maxLen) (hok : ∀ x ∈ l, RecOk x) (v : Value) (w : World) (h : Recs w v l) :
    Calls Try.prog 20 #[v] w (SmallPost w) := by
  have HR := Lib.hid h
  have HO := Lib.hid hok
  obtain ⟨a, cap, rfl⟩ := h.form
  unfold maxLen at hl
  clear h hok
  go_enter Try.func20, Try.ntmps20
  go_wp2
  go_loopw [3] (fun i wr => ∃ k : Nat, i = .int .i64 k ∧ k ≤ l.length ∧ k ≤ 40 ∧ wr = w) (fun i _ => l.length - (intOf i).toNat)
  case atStart => exact ⟨0, rfl, by omega, by omega, rfl⟩
  case round =>
    obtain ⟨k, rfl, hk, hk4, rfl⟩ := hrel
    by_cases hlt : k < l.length
    · by_cases h40 : k < 40
      · obtain ⟨x, hx⟩ : ∃ x, l[k]? = some x := ⟨l[k], by simp [hlt]⟩
        have hox := HO.out x (List.mem_of_getElem? hx)
        obtain ⟨g, off, cap2, he, hg, q0, q1, q2, q3⟩ := HR.out.get (Below.refl _ _) hx
        injection he with e1 e2 e3
        subst e1 e3
        have hk1 := hox.2.1
        have hk2 := hox.2.2
        unfold maxLen at hk1 hk2
        clear e2 hx hox
        obtain ⟨xo, xk, xv, xg⟩ := x
        dsimp only at *
        by_cases h1 : xk.length ≤ 200
        · by_cases h2 : xv.length ≤ 200
          · go_wp2
            go_roundw
            case rel => exact ⟨k + 1, by go_num, by omega, by omega, by first | rfl | trivial⟩
            case measure => simp [intOf]; omega
          · go_wp2
            go_ret
            first | exact ⟨_, rfl, rfl⟩ | exact ⟨_, rfl⟩ | trivial
        · go_wp2
          go_ret
          first | exact ⟨_, rfl, rfl⟩ | exact ⟨_, rfl⟩ | trivial
      · go_wp2
        go_ret
        first | exact ⟨_, rfl, rfl⟩ | exact ⟨_, rfl⟩ | trivial
    · go_wp2
      go_ret
      first | exact ⟨_, rfl, rfl⟩ | exact ⟨_, rfl⟩ | trivial
def GreatPost (w : World) (l : List Cr.Batch) (e : Ending) (w' : World) : Prop := ∃ b, e = .returned (.bool b) ∧ w' = w ∧ (b = false → l.length ≤ 30 ∧ ∀ x ∈ l, x.recs.length ≤ 12)
theorem all_take {α : Type} {P : α → Prop} {l : List α} {k : Nat} {x : α} (h : ∀ y ∈ l.take k, P y) (hx : l[k]? = some x) (hp : P x) : ∀ y ∈ l.take (k + 1), P y := by
  obtain ⟨hk, rfl⟩ := List.getElem?_eq_some_iff.1 hx
  intro y hy
  rw [List.take_succ_eq_append_getElem hk] at hy
  rcases List.mem_append.1 hy with h1 | h1
  · exact h y h1
  · rw [List.mem_singleton.1 h1]; exact hp
set_option maxRecDepth 20000 in
set_option maxHeartbeats 3200000 in
theorem great_any (l : List Cr.Batch) (hl : l.length ≤ maxLen) (hok : ∀ b ∈ l, BatOk b) (v : Value) (w : World) (h : Bats w v l) :
    Calls Try.prog 11 #[v] w (GreatPost w l) := by
  have HR := Lib.hid h
  have HO := Lib.hid hok
  obtain ⟨a, cap, rfl⟩ := h.form
  unfold maxLen at hl
  clear h hok
  by_cases h30 : l.length ≤ 30
  · go_enter Try.func11, Try.ntmps11
    go_wp2
    go_loopw [3] (fun i wr => ∃ k : Nat, i = .int .i64 k ∧ k ≤ l.length ∧ wr = w ∧ Hid (∀ y ∈ l.take k, y.recs.length ≤ 12)) (fun i _ => l.length - (intOf i).toNat)
    case atStart => exact ⟨0, rfl, by omega, rfl, by simp [Hid]⟩
    case round =>
      obtain ⟨k, rfl, hk, rfl, HA⟩ := hrel
      by_cases hlt : k < l.length
      · obtain ⟨b, hb⟩ : ∃ b, l[k]? = some b := ⟨l[k], by simp [hlt]⟩
        have hob := HO.out b (List.mem_of_getElem? hb)
        obtain ⟨g, off, cap2, rv, he, hg, p0, p1, p2, p3, p4, p5, hrec⟩ := HR.out.get (Below.refl _ _) hb
        injection he with e1 e2 e3
        subst e1 e3
        have hbl := hob.2.2.2.2.2.1
        have HBR := Lib.hid hob.2.2.2.2.2.2
        unfold maxLen at hbl
        have HRV := Lib.hid hrec
        obtain ⟨ar, capr, rfl⟩ := hrec.form
        have HNX : Hid (b.recs.length ≤ 12 → ∀ y ∈ l.take (k + 1), y.recs.length ≤ 12) := fun h => all_take HA.out hb h
        clear e2 hb hob hrec p0 p1 p2 p3 p4
        by_cases h12 : b.recs.length ≤ 12
        · go_wp2
          go_loopw [4] (fun i wr2 => ∃ j : Nat, i = .int .i64 j ∧ j ≤ b.recs.length ∧ wr2 = wr) (fun i _ => b.recs.length - (intOf i).toNat)
          case atStart => exact ⟨0, rfl, by omega, rfl⟩
          case round =>
            obtain ⟨j, rfl, hj, rfl⟩ := hrel
            by_cases hjt : j < b.recs.length
            · obtain ⟨x, hx⟩ : ∃ x, b.recs[j]? = some x := ⟨b.recs[j], by simp [hjt]⟩
              have hox := HBR.out x (List.mem_of_getElem? hx)
              obtain ⟨g2, off2, cap3, he, hg2, q0, q1, q2, q3⟩ := HRV.out.get (Below.refl _ _) hx
              injection he with e1 e2 e3
              subst e1 e3
              have hk1 := hox.2.1
              have hk2 := hox.2.2
              unfold maxLen at hk1 hk2
              clear e2 hx hox
              obtain ⟨xo, xk, xv, xg⟩ := x
              dsimp only at *
              by_cases h1 : xk.length ≤ 200
              · by_cases h2 : xv.length ≤ 200
                · go_wp2
                  go_roundw
                  case rel => exact ⟨j + 1, by go_num, by omega, by first | rfl | trivial⟩
                  case measure => simp [intOf]; omega
                · go_wp2
                  go_ret
                  exact ⟨true, rfl, rfl, fun h => by cases h⟩
              · go_wp2
                go_ret
                exact ⟨true, rfl, rfl, fun h => by cases h⟩
            · have HN2 := Lib.hid (HNX.out h12)
              obtain rfl : j = b.recs.length := by omega
              go_wp2
              go_roundw
              case rel => exact ⟨k + 1, by go_num, by omega, by first | rfl | trivial, HN2⟩
              case measure => simp [intOf]; omega
        · go_wp2
          go_ret
          exact ⟨true, rfl, rfl, fun h => by cases h⟩
      · obtain rfl : k = l.length := by omega
        have HF : Hid (∀ y ∈ l, y.recs.length ≤ 12) := by
          have := HA.out
          rwa [List.take_length] at this
        go_wp2
        go_ret
        exact ⟨false, rfl, rfl, fun _ => ⟨h30, HF.out⟩⟩
  · go_enter Try.func11, Try.ntmps11
    go_wp2
    go_ret
    exact ⟨true, rfl, rfl, fun h => by cases h⟩

set_option maxRecDepth 20000 in
set_option maxHeartbeats 1600000 in
theorem recsEq_any (l : List Cr.Rec) (hl : l.length ≤ maxLen) (hok : ∀ x ∈ l, RecOk x) (v v' : Value) (w : World) (h : Recs w v l) (h' : Recs w v' l) :
    Calls Try.prog 15 #[v, v'] w fun e w' => e = .returned (.bool true) ∧ Below w.heap.size w w' := by
  have HR := Lib.hid h
  have HR2 := Lib.hid h'
  have HO := Lib.hid hok
  obtain ⟨a, cap, rfl⟩ := h.form
  obtain ⟨a', cap', rfl⟩ := h'.form
  unfold maxLen at hl
  clear h h' hok
  go_enter Try.func15, Try.ntmps15
  go_wp2
  go_loopw [5] (fun i wr => ∃ k : Nat, i = .int .i64 k ∧ k ≤ l.length ∧ Below w.heap.size w wr) (fun i _ => l.length - (intOf i).toNat)
  case atStart => exact ⟨0, rfl, by omega, Below.refl _ _⟩
  case round =>
    obtain ⟨k, rfl, hk, hb⟩ := hrel
    have HB := Lib.hid hb
    clear hb
    by_cases hlt : k < l.length
    · obtain ⟨x, hx⟩ : ∃ x, l[k]? = some x := ⟨l[k], by simp [hlt]⟩
      have hox := HO.out x (List.mem_of_getElem? hx)
      obtain ⟨g, off, cap2, he, hg, q0, q1, q2, q3⟩ := HR.out.get HB.out hx
      injection he with e1 e2 e3
      subst e1 e3
      obtain ⟨g', off', cap2', he', hg', q0', q1', q2', q3'⟩ := HR2.out.get HB.out hx
      injection he' with e1' e2' e3'
      subst e1' e3'
      clear e2 e2' hx
      obtain ⟨xo, xk, xv, xg⟩ := x
      dsimp only at *
      have hn := fun w => rec_neq xo xo xk xk xv xv xg xg w
      have hrr : Cr.recEq ⟨xo, xk, xv, xg⟩ ⟨xo, xk, xv, xg⟩ = true := by simp [Cr.recEq]
      simp only [hrr, Bool.not_true] at hn
      clear hrr
      go_wp2
      go_quiet (fail)
      have BQ : Hid (Below w.heap.size w (wr.drewN nq)) := below_drewN HB.out nq
      go_wp2
      go_roundw
      case rel => exact ⟨k + 1, by go_num, by omega, BQ.out⟩
      case measure => simp [intOf]; omega
    · go_wp2
      go_ret
      exact ⟨rfl, HB.out⟩
set_option maxRecDepth 20000 in
set_option maxHeartbeats 1600000 in
theorem batsEq_any (l : List Cr.Batch) (hl : l.length ≤ maxLen) (hok : ∀ x ∈ l, BatOk x) (v v' : Value) (w : World) (h : Bats w v l) (h' : Bats w v' l) :
    Calls Try.prog 12 #[v, v'] w fun e w' => e = .returned (.bool true) ∧ Below w.heap.size w w' := by
  have HR := Lib.hid h
  have HR2 := Lib.hid h'
  have HO := Lib.hid hok
  obtain ⟨a, cap, rfl⟩ := h.form
  obtain ⟨a', cap', rfl⟩ := h'.form
  unfold maxLen at hl
  clear h h' hok
  go_enter Try.func12, Try.ntmps12
  go_wp2
  go_loopw [5] (fun i wr => ∃ k : Nat, i = .int .i64 k ∧ k ≤ l.length ∧ Below w.heap.size w wr) (fun i _ => l.length - (intOf i).toNat)
  case atStart => exact ⟨0, rfl, by omega, Below.refl _ _⟩
  case round =>
    obtain ⟨k, rfl, hk, hb⟩ := hrel
    have HB := Lib.hid hb
    clear hb
    by_cases hlt : k < l.length
    · obtain ⟨b, hx⟩ : ∃ x, l[k]? = some x := ⟨l[k], by simp [hlt]⟩
      have hox := HO.out b (List.mem_of_getElem? hx)
      obtain ⟨g, off, cap2, rv, he, hg, q0, q1, q2, q3, q4, q5, hr⟩ := HR.out.get HB.out hx
      injection he with e1 e2 e3
      subst e1 e3
      obtain ⟨g', off', cap2', rv', he', hg', q0', q1', q2', q3', q4', q5', hr'⟩ := HR2.out.get HB.out hx
      injection he' with e1' e2' e3'
      subst e1' e3'
      have I1 := Lib.hid (below_class (w := wr) fun W hW => refsame_any b b hox hox rv rv' W (hr.kept (bt HB.out hW)) (hr'.kept (bt HB.out hW)))
      rw [show Cr.same b b = true from Cr.same_iff.2 rfl] at I1
      unfold batV at I1
      have n0 := fun x : BelowOf wr => x.cell q0
      have n1 := fun x : BelowOf wr => x.cell q1
      have n2 := fun x : BelowOf wr => x.cell q2
      have n3 := fun x : BelowOf wr => x.cell q3
      have n4 := fun x : BelowOf wr => x.cell q4
      have n5 := fun x : BelowOf wr => x.cell q5
      have m0 := fun x : BelowOf wr => x.cell q0'
      have m1 := fun x : BelowOf wr => x.cell q1'
      have m2 := fun x : BelowOf wr => x.cell q2'
      have m3 := fun x : BelowOf wr => x.cell q3'
      have m4 := fun x : BelowOf wr => x.cell q4'
      have m5 := fun x : BelowOf wr => x.cell q5'
      clear e2 e2' hx hr hr' hox q0 q1 q2 q3 q4 q5 q0' q1' q2' q3' q4' q5'
      go_wp2
      refine wp_region_below (by kernel_rfl) (by kernel_rfl) ?_
      repeat (go_big_quiet_step (fail))
      go_big_quiet_step ((exact I1.out _))
      repeat (go_big_quiet_step (fail))
      refine wpQuiet_nil ?_
      intro w9 hw9
      obtain ⟨⟨w9, hb9⟩, rfl⟩ := hw9
      have B9 := Lib.hid (bt HB.out hb9)
      clear hb9 n0 n1 n2 n3 n4 n5 m0 m1 m2 m3 m4 m5 I1
      go_wp2
      go_roundw
      case rel => exact ⟨k + 1, by go_num, by omega, B9.out⟩
      case measure => simp [intOf]; omega
    · go_wp2
      go_ret
      exact ⟨rfl, HB.out⟩

end Go.Proofs.Ytccndbifnbmddaa
