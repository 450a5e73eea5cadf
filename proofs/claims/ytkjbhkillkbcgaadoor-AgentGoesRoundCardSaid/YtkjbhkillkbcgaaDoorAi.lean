/-
  Agent: what is to be sent; a tick.
  Conditions: none.
-/
import Derived.Test.YtkjbhkillkbcgaaDoorAh
set_option linter.unusedVariables false
set_option linter.unusedSimpArgs false
namespace Go.Proofs.YtkjbhkillkbcgaaDoor
open Go.RowKit

set_option maxRecDepth 20000 in
set_option maxHeartbeats 1600000 in
theorem out_any (g : Nat) (s : AgS) (ao : Option Addr) (no co : Nat) (ho : s.out = .slice ao no co) (w : World) (h : Ag w g s) :
    Calls Tryd.prog 8 #[.pointer (some ⟨g, 0, none⟩)] w fun e w' => e = .returned (.slice ao no co) ∧ w' = w.setCell ⟨g, 28, none⟩ (.slice none 0 0) := by
  have c28 := Cl.cell h 28
  have f28 := Cl.free h 28
  simp only [agC, List.getElem?_cons_zero, List.getElem?_cons_succ] at c28
  rw [ho] at c28
  clear h ho
  go_enter Tryd.func8, Tryd.ntmps8
  go_wp2
  go_ret
  exact ⟨rfl, rfl⟩
/-- A client, and what stands in it to be sent. -/
theorem AgI.taken {w : World} {g : Nat} {s : AgS} {gl : LM} (h : AgI w g s gl) : AgI (w.setCell ⟨g, 28, none⟩ (.slice none 0 0)) g { s with out := .slice none 0 0 } gl :=
  have k : Keeps (fun j => j = g) w (w.setCell ⟨g, 28, none⟩ (.slice none 0 0)) := Keeps.setCell _ _ _ _ rfl
  { a := Cl.set h.a 28 _, rr := h.rr.keep k, cr := h.cr.keep k, M := h.M.kept k h.gg, gg := h.gg, cl := h.cl, nd := h.nd, cu := h.cu, kd := h.kd, nn := h.nn, sq := h.sq, tk := h.tk }
/-- A client behind a tick, but for what is sent. -/
def tickS (s : AgS) : AgS := if 3 ≤ s.ticks + 1 then { s with cur := s.cur % s.nodes + 1, ticks := 0 } else { s with ticks := s.ticks + 1 }
def SentPost (w : World) (g : Nat) (s : AgS) (gl : LM) (e : Ending) (w' : World) : Prop :=
  ∃ v rv, e = .returned (.tuple #[]) ∧ AgI w' g { s with out := v } gl ∧ OutIs w' w.heap.size v (10 + s.client) s.cur { s.req with recs := rv } ∧ Keeps (fun j => j = g) w w'
theorem next_cu {c n : Int} (hn : 1 ≤ n ∧ n ≤ 5) (hc : 1 ≤ c ∧ c ≤ n) : 1 ≤ c % n + 1 ∧ c % n + 1 ≤ n := by
  have h1 : 0 ≤ c % n := Int.emod_nonneg _ (by omega)
  have h2 : c % n < n := Int.emod_lt_of_pos _ (by omega)
  omega
set_option maxRecDepth 20000 in
set_option maxHeartbeats 3200000 in
theorem tick_any (g : Nat) (s : AgS) (gl : LM) (w : World) (h : AgI w g s gl) (hb : s.busy = true) (ho : s.out = .slice none 0 0) (ht : s.ticks ≤ 1000) :
    Calls Tryd.prog 9 #[.pointer (some ⟨g, 0, none⟩)] w (SentPost w g (tickS s) gl) := by
  have HI := Lib.hid h
  have HO := Lib.hid ho
  have htk := h.tk.1
  have HB := Lib.hid (busy_any g s w h.a)
  rw [hb] at HB
  have c10 := Cl.cell h.a 10
  have f10 := Cl.free h.a 10
  simp only [agC, List.getElem?_cons_zero, List.getElem?_cons_succ] at c10
  have A1 : Hid (Ag (w.setCell ⟨g, 10, none⟩ (.int .i64 (s.ticks + 1))) g { s with ticks := s.ticks + 1 }) := Cl.set h.a 10 (.int .i64 (s.ticks + 1))
  have K1 : Hid (Keeps (fun j => j = g) w (w.setCell ⟨g, 10, none⟩ (.int .i64 (s.ticks + 1)))) := Keeps.setCell _ _ _ _ rfl
  clear h ho hb
  go_enter Tryd.func9, Tryd.ntmps9
  go_wp2_with fail
  refine HB.out.mono ?_
  rintro e w0 ⟨rfl, rfl⟩
  go_upto_region 2 with (fail)
  generalize w.setCell ⟨g, 10, none⟩ (.int .i64 (s.ticks + 1)) = w1 at *
  clear c10 f10 HB
  have hsz := K1.out.size
  have c10 := Cl.cell A1.out 10
  simp only [agC, List.getElem?_cons_zero, List.getElem?_cons_succ] at c10
  have RR1 := Lib.hid (HI.out.rr.keep K1.out)
  have CR1 := Lib.hid (HI.out.cr.keep K1.out)
  have M1 := Lib.hid (HI.out.M.kept K1.out HI.out.gg)
  by_cases h3 : 3 ≤ s.ticks + 1
  · have HT : Hid (tickS s = { s with cur := s.cur % s.nodes + 1, ticks := 0 }) := by rw [Hid, tickS, if_pos h3]
    go_wp2_with fail
    refine (next_any g { s with ticks := s.ticks + 1 } w1 A1.out HI.out.nd HI.out.cu).mono ?_
    rintro e w2 ⟨rfl, hA2, hK2⟩
    have RR2 := Lib.hid (RR1.out.keep hK2)
    obtain ⟨rl, r1, r2, r3⟩ := RR2.out
    have HS := Lib.hid (send_any g { s with cur := s.cur % s.nodes + 1, ticks := 0 } rl r2 w2 hA2 HO.out r1 HI.out.kd HI.out.cl)
    have K2 : Hid (Keeps (fun j => j = g) w w2) := K1.out.trans hK2
    have M2 := Lib.hid (M1.out.kept hK2 HI.out.gg)
    have CR2 := Lib.hid (CR1.out.keep hK2)
    clear r1 r2 r3 hA2 hK2
    go_wp2_with fail
    refine HS.out.mono ?_
    rintro e w3 ⟨v, rv, rfl, hA3, hO3, hK3⟩
    have hcu := next_cu HI.out.nd HI.out.cu
    have HP : Hid (SentPost w g (tickS s) gl (.returned (.tuple #[])) w3) := by
      rw [HT.out]
      exact ⟨v, rv, rfl, { a := hA3, rr := RR2.out.keep hK3, cr := CR2.out.keep hK3, M := M2.out.kept hK3 HI.out.gg, gg := HI.out.gg, cl := HI.out.cl, nd := HI.out.nd, cu := hcu, kd := HI.out.kd, nn := HI.out.nn, sq := HI.out.sq, tk := ⟨by simp, by simp⟩ }, Sl.lowerA hO3 K2.out.size, K2.out.trans hK3⟩
    clear hA3 hO3 hK3
    go_wp2
    go_end0
    exact HP.out
  · have HT : Hid (tickS s = { s with ticks := s.ticks + 1 }) := by rw [Hid, tickS, if_neg h3]
    obtain ⟨rl, r1, r2, r3⟩ := RR1.out
    have HS := Lib.hid (send_any g { s with ticks := s.ticks + 1 } rl r2 w1 A1.out HO.out r1 HI.out.kd HI.out.cl)
    clear r1 r2 r3
    go_wp2_with fail
    refine HS.out.mono ?_
    rintro e w3 ⟨v, rv, rfl, hA3, hO3, hK3⟩
    have HP : Hid (SentPost w g (tickS s) gl (.returned (.tuple #[])) w3) := by
      rw [HT.out]
      exact ⟨v, rv, rfl, { a := hA3, rr := RR1.out.keep hK3, cr := CR1.out.keep hK3, M := M1.out.kept hK3 HI.out.gg, gg := HI.out.gg, cl := HI.out.cl, nd := HI.out.nd, cu := HI.out.cu, kd := HI.out.kd, nn := HI.out.nn, sq := HI.out.sq, tk := ⟨by dsimp only; omega, by dsimp only; omega⟩ }, Sl.lowerA hO3 K1.out.size, K1.out.trans hK3⟩
    clear hA3 hO3 hK3
    go_wp2
    go_end0
    exact HP.out
/-- A new client. -/
def newS (client nodes : Int) (m : Nat) : AgS := ⟨client, nodes, 0, 1, 0, 0, 0, 0, m, false, 0, ⟨0, 0, 0, 0, [], .slice none 0 0⟩, zeroReq, .slice none 0 0⟩
theorem New_any (client nodes : Int) (w : World) (hc : 1 ≤ client ∧ client ≤ 4) (hn : 1 ≤ nodes ∧ nodes ≤ 5) :
    Calls Tryd.prog 6 #[.int .i64 client, .int .i64 nodes] w fun e w' => ∃ g, e = .returned (.pointer (some ⟨g, 0, none⟩)) ∧ w.heap.size ≤ g ∧ AgI w' g (newS client nodes w.heap.size) [] ∧ Below w.heap.size w w' := by
  have e1 : (decide (1 ≤ client) && decide (client ≤ 4)) = true := by simp [hc]
  have e2 : (decide (1 ≤ nodes) && decide (nodes ≤ 5)) = true := by simp [hn]
  have hmk : ∀ w0 : World, (Instr.makeMap 59 none).run Tryd.prog w0 = .ok (.map (some w0.heap.size)) (w0.alloc (.map #[] 0)) := fun _ => rfl
  have M0 : Hid (Mp (w.alloc (.map #[] 0)) w.heap.size (imap [])) := Mp.new w
  have B0 : Hid (Below w.heap.size w (w.alloc (.map #[] 0))) := (Below.refl _ _).alloc (Nat.le_refl _) _
  have hs0 : (w.alloc (.map #[] 0)).heap.size = w.heap.size + 1 := World.size_alloc _ _
  go_enter Tryd.func6, Tryd.ntmps6
  go_wp2_with fail
  refine (within_any client 1 4 w).mono ?_
  rintro e w4 ⟨rfl, rfl⟩
  rw [e1]
  go_wp2_with fail
  refine (within_any nodes 1 5 w).mono ?_
  rintro e w4 ⟨rfl, rfl⟩
  rw [e2]
  have HP : AgI ((w.alloc (.map #[] 0)).alloc (.cells (agC (newS client nodes w.heap.size)).toArray 62)) (w.heap.size + 1) (newS client nodes w.heap.size) [] := by
    have h1 := Cl.new (w.alloc (.map #[] 0)) (agC (newS client nodes w.heap.size)) 62
    rw [hs0] at h1
    exact { a := h1, rr := RecA.none _ _ _, cr := RecA.none _ _ _, M := M0.out.below ((Below.refl _ _).alloc (Nat.le_refl _) _), gg := by simp [newS], cl := hc, nd := hn, cu := ⟨by simp [newS], by simp [newS]; omega⟩, kd := by simp [newS], nn := ⟨by simp [newS], by simp [newS]⟩, sq := ⟨by simp [newS], by simp [newS], by simp [newS], by simp [newS]⟩, tk := ⟨by simp [newS], by simp [newS]⟩ }
  have BP : Below w.heap.size w ((w.alloc (.map #[] 0)).alloc (.cells (agC (newS client nodes w.heap.size)).toArray 62)) := B0.out.alloc (by rw [hs0]; omega) _
  have HP2 := Lib.hid (And.intro HP BP)
  clear HP BP
  go_wp2
  go_ret
  exact ⟨w.heap.size + 1, rfl, by omega, HP2.out.1, HP2.out.2⟩
/-- What lies in a message that is to be sent. -/
theorem OutIs.read {w : World} {B : Nat} {v : Value} {frm to_ : Int} {q : ReqS} (h : OutIs w B v frm to_ q) : ∃ b off cap, v = .slice (some ⟨b, off, none⟩) 1 cap ∧ B ≤ b ∧ b < w.heap.size ∧ ∀ j u, (msgC frm to_ q)[j]? = some u → w.cell? ⟨b, off + j, none⟩ = some u := by
  rcases h.2 with ⟨_, h0⟩ | ⟨b, off, cap, e, hB, hb, _, _, hr, _⟩
  · exact absurd h0 (by decide)
  · exact ⟨b, off, cap, e, hB, hb, fun j u hu => hr j u hu⟩

end Go.Proofs.YtkjbhkillkbcgaaDoor
