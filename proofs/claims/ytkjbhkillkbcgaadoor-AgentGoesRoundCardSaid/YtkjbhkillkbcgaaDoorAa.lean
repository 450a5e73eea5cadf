/-
  Agent: a client's state in memory; the small functions.
  Conditions: none.
-/
import Derived.Test.YtkjbhkillkbcgaaDoorMp
import Derived.Test.YtkjbhkillkbcgaaDoorWr
import Derived.BigRegion
import Derived.BigQuiet
set_option linter.unusedVariables false
set_option linter.unusedSimpArgs false
namespace Go.Proofs.YtkjbhkillkbcgaaDoor
open Go.RowKit

/-- A call. -/
structure CallS where
  kind : Int
  part : Int
  off : Int
  max : Int
  group : List UInt8
  recs : Value
/-- A request. -/
structure ReqS where
  client : Int
  n : Int
  kind : Int
  part : Int
  seq : Int
  off : Int
  max : Int
  gen : Int
  group : List UInt8
  member : List UInt8
  recs : Value
/-- A client. -/
structure AgS where
  client : Int
  nodes : Int
  n : Int
  cur : Int
  s0 : Int
  s1 : Int
  s2 : Int
  s3 : Int
  gens : Nat
  busy : Bool
  ticks : Int
  call : CallS
  req : ReqS
  out : Value
def callC (c : CallS) : List Value := [.int .i64 c.kind, .int .i64 c.part, .int .i64 c.off, .int .i64 c.max, .string ⟨c.group.toArray⟩, c.recs]
def reqC (q : ReqS) : List Value := [.int .i64 q.client, .int .i64 q.n, .int .i64 q.kind, .int .i64 q.part, .int .i64 q.seq, .int .i64 q.off, .int .i64 q.max, .int .i64 q.gen, .string ⟨q.group.toArray⟩, .string ⟨q.member.toArray⟩, q.recs]
def agC (s : AgS) : List Value := [.int .i64 s.client, .int .i64 s.nodes, .int .i64 s.n, .int .i64 s.cur, .int .i64 s.s0, .int .i64 s.s1, .int .i64 s.s2, .int .i64 s.s3, .map (some s.gens), .bool s.busy, .int .i64 s.ticks,
  .int .i64 s.call.kind, .int .i64 s.call.part, .int .i64 s.call.off, .int .i64 s.call.max, .string ⟨s.call.group.toArray⟩, s.call.recs,
  .int .i64 s.req.client, .int .i64 s.req.n, .int .i64 s.req.kind, .int .i64 s.req.part, .int .i64 s.req.seq, .int .i64 s.req.off, .int .i64 s.req.max, .int .i64 s.req.gen, .string ⟨s.req.group.toArray⟩, .string ⟨s.req.member.toArray⟩, s.req.recs, s.out]
def callV (c : CallS) : Value := .agg (callC c).toArray
def reqV (q : ReqS) : Value := .agg (reqC q).toArray
/-- A client lies in a block of its own. -/
def Ag (w : World) (g : Nat) (s : AgS) : Prop := Cl w g (agC s) 62
theorem within_any (n low high : Int) (w : World) : Calls Tryd.prog 12 #[.int .i64 n, .int .i64 low, .int .i64 high] w fun e w' => e = .returned (.bool (decide (low ≤ n) && decide (n ≤ high))) ∧ w = w' := by
  by_cases h0 : low ≤ n
  · by_cases h1 : n ≤ high
    · rw [show (decide (low ≤ n) && decide (n ≤ high)) = true by simp [h0, h1]]
      go_enter Tryd.func12, Tryd.ntmps12
      go_wp2
      go_ret
      exact ⟨by simp [h0, h1] <;> omega, rfl⟩
    · rw [show (decide (low ≤ n) && decide (n ≤ high)) = false by simp [h0, h1]]
      go_enter Tryd.func12, Tryd.ntmps12
      go_wp2
      go_ret
      exact ⟨by simp [h0, h1] <;> omega, rfl⟩
  · rw [show (decide (low ≤ n) && decide (n ≤ high)) = false by simp [h0]]
    go_enter Tryd.func12, Tryd.ntmps12
    go_wp2
    go_ret
    exact ⟨rfl, rfl⟩
set_option maxRecDepth 20000 in
theorem busy_any (g : Nat) (s : AgS) (w : World) (h : Ag w g s) : Calls Tryd.prog 11 #[.pointer (some ⟨g, 0, none⟩)] w fun e w' => e = .returned (.bool s.busy) ∧ w = w' := by
  have c9 := Cl.cell h 9
  simp only [agC, List.getElem?_cons_zero, List.getElem?_cons_succ] at c9
  clear h
  cases hb : s.busy <;> rw [hb] at c9 <;>
  · go_enter Tryd.func11, Tryd.ntmps11
    go_wp2
    go_ret
    exact ⟨rfl, rfl⟩
def wrt (k : Int) : Bool := k == 1 || k == 3 || k == 4 || k == 6
theorem writes_any (k : Int) (w : World) : Calls Tryd.prog 18 #[.int .i64 k] w fun e w' => e = .returned (.bool (wrt k)) ∧ w = w' := by
  by_cases h1 : k = 1
  · subst h1
    go_enter Tryd.func18, Tryd.ntmps18
    go_wp2
    go_ret
    exact ⟨rfl, rfl⟩
  · by_cases h3 : k = 3
    · subst h3
      go_enter Tryd.func18, Tryd.ntmps18
      go_wp2
      go_ret
      exact ⟨rfl, rfl⟩
    · by_cases h4 : k = 4
      · subst h4
        go_enter Tryd.func18, Tryd.ntmps18
        go_wp2
        go_ret
        exact ⟨rfl, rfl⟩
      · have b1 : (k == 1) = false := by simp [h1]
        have b3 : (k == 3) = false := by simp [h3]
        have b4 : (k == 4) = false := by simp [h4]
        rw [show wrt k = (k == 6) by unfold wrt; rw [b1, b3, b4]; rfl]
        go_enter Tryd.func18, Tryd.ntmps18
        go_wp2
        go_ret
        exact ⟨rfl, rfl⟩
set_option maxRecDepth 20000 in
set_option maxHeartbeats 800000 in
theorem next_any (g : Nat) (s : AgS) (w : World) (h : Ag w g s) (hn : 1 ≤ s.nodes ∧ s.nodes ≤ 5) (ha : 1 ≤ s.cur ∧ s.cur ≤ s.nodes) :
    Calls Tryd.prog 17 #[.pointer (some ⟨g, 0, none⟩)] w fun e w' => e = .returned (.tuple #[]) ∧ Ag w' g { s with cur := s.cur % s.nodes + 1, ticks := 0 } ∧ Keeps (fun j => j = g) w w' := by
  have H := Lib.hid h
  have c1 := Cl.cell h 1
  have c3 := Cl.cell h 3
  have c10 := Cl.cell h 10
  have f1 := Cl.free h 1
  have f3 := Cl.free h 3
  have f10 := Cl.free h 10
  simp only [agC, List.getElem?_cons_zero, List.getElem?_cons_succ] at c1 c3 c10
  obtain ⟨hn1, hn2⟩ := hn
  obtain ⟨ha1, ha2⟩ := ha
  have htm : s.cur.tmod s.nodes = s.cur % s.nodes := Int.tmod_eq_emod_of_nonneg (by omega)
  have hm1 : 0 ≤ s.cur % s.nodes := Int.emod_nonneg _ (by omega)
  have hm2 : s.cur % s.nodes < s.nodes := Int.emod_lt_of_pos _ (by omega)
  clear h
  go_enter Tryd.func17, Tryd.ntmps17
  go_wp2
  go_region
  go_end0
  exact ⟨rfl, (Cl.set (Cl.set H.out 3 (.int .i64 (s.cur % s.nodes + 1))) 10 (.int .i64 0)).drewN 1, (keeps_two (fun j => j = g) w g 3 10 _ _ rfl).trans (Keeps.drew _ _)⟩

end Go.Proofs.YtkjbhkillkbcgaaDoor
