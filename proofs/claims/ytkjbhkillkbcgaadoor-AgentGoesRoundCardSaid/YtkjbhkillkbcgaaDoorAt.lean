/-
  AgentGoesRound, walked.
  Conditions: none but the model's longest length.
-/
import Derived.Test.YtkjbhkillkbcgaaDoorAn
import Derived.Test.YtkjbhkillkbcgaaDoorAj
import Derived.Test.YtkjbhkillkbcgaaDoorOi
import Derived.Deep.DeepCutAuto
import Derived.Deep.CutBlock
set_option linter.unusedVariables false
set_option linter.unusedSimpArgs false
namespace Go.Proofs.YtkjbhkillkbcgaaDoor
open Go.ChangeShapes Go.WideShapes Go.ChangeAt Go.RowKit

/-- A slice of truths: its cells. -/
def Bools (w : World) (v : Value) (zs : List Bool) : Prop :=
  ∃ a cap, v = .slice a zs.length cap ∧ ∀ i, i < zs.length → ∃ g off, a = some ⟨g, off, none⟩ ∧ g < w.heap.size ∧ w.cell? ⟨g, off + i, none⟩ = some (.bool (zs.getD i false))
set_option maxRecDepth 100000 in
theorem open_boolsl {W : World} {r : Reach} {base b0 : Nat} {H : Type} {enc : TypeId × Value → H} {spare : Nat → Bool} {held : Bool} {v : Value} {d : DataW H} {p : List MemPlace} (hv : Value.okWide Tryd.prog W r base 22 v)
    (h : DataW.Trod enc Tryd.prog W b0 spare held 22 v d p) : ∃ zs, Bools W v zs ∧ zs.length ≤ maxLen := by
  obtain ⟨a, len, cap, rfl, hl, hm, h0, h1, hel⟩ := slice_open Tryd.underlying22 hv h
  rw [show Tryd.prog.cellsOf 4 = 1 by kernel_rfl] at hel
  obtain ⟨zs, hz, hzs⟩ := list_of false (fun i (q : Bool) => ∃ b off, a = some ⟨b, off, none⟩ ∧ b < W.heap.size ∧ W.cell? ⟨b, off + i, none⟩ = some (.bool q)) (n := len) (fun i hi => by
      obtain ⟨b, off, cs, n, y, rfl, hlt, _, hc, ht⟩ := hel i hi
      obtain ⟨q, rfl, _⟩ := DataW.trod_bool Tryd.underlying4 ht
      exact ⟨q, b, off, rfl, hlt, by simpa using hc 0 (by omega)⟩)
  subst hz
  exact ⟨zs, ⟨a, cap, rfl, hzs⟩, Nat.le_trans hl hm⟩
/-- A small number out of any. -/
def umr (z : Int) (m : Nat) : Nat := ((z % 18446744073709551616) % (m : Int)).toNat
theorem umr_lt (z : Int) {m : Nat} (h : 0 < m) : umr z m < m := by
  unfold umr
  have h1 := Int.emod_nonneg (z % 18446744073709551616) (show (m : Int) ≠ 0 by omega)
  have h2 := Int.emod_lt_of_pos (z % 18446744073709551616) (show (0 : Int) < m by omega)
  omega
theorem umr_tmod (z : Int) {m : Nat} (h : 0 < m) : (IntKind.u64.wrap z).tmod (m : Int) = (umr z m : Int) := by
  rw [IntKind.wrap_u64, Int.tmod_eq_emod_of_nonneg (by omega)]
  unfold umr
  have h1 := Int.emod_nonneg (z % 18446744073709551616) (show (m : Int) ≠ 0 by omega)
  omega
theorem wrapNr (n : Nat) (h : n ≤ 62914560) : wrap64 (n : Int) = n := by unfold wrap64; omega
/-- A client that has called and goes round. -/
structure RndI (W : World) (g n c t : Nat) (s : AgS) : Prop where
  I : AgI W g s []
  b : s.busy = true
  cl : s.client = 3
  nd : s.nodes = (n : Int)
  nn : s.n = 1
  cu : s.cur = (c : Int)
  tk : s.ticks = (t : Int)
/-- .. and what it is to send next lies in none of these blocks. -/
def Sent (W : World) (g m p : Nat) (c : Nat) (v : Value) : Prop := ∃ b off cap, v = .slice (some ⟨b, off, none⟩) 1 cap ∧ b ≠ g ∧ b ≠ m ∧ b ≠ p ∧ b < W.heap.size ∧ W.cell? ⟨b, off + 2, none⟩ = some (.int .i64 (c : Int))
theorem Sent.of {W : World} {B g m p c : Nat} {v : Value} {frm to_ : Int} {q : ReqS} (h : OutIs W B v frm to_ q) (hc : to_ = (c : Int)) (hg : g < B) (hm : m < B) (hp : p < B ∨ W.heap.size ≤ p) : Sent W g m p c v := by
  obtain ⟨b, off, cap, e, h1, h2, h3⟩ := h.read
  exact ⟨b, off, cap, e, by omega, by omega, by omega, h2, by rw [← hc]; exact h3 2 _ rfl⟩
theorem Sent.below {W W' : World} {g m p c : Nat} {v : Value} (h : Sent W g m p c v) (hb : Below W.heap.size W W') : Sent W' g m p c v := by
  obtain ⟨b, off, cap, e, h0, h1, h2, h3, h4⟩ := h
  exact ⟨b, off, cap, e, h0, h1, h2, Nat.lt_of_lt_of_le h3 hb.size, (hb.cell (p := ⟨b, off + 2, none⟩) h3).trans h4⟩
/-- Its records lie elsewhere. -/
def OwnN (s : AgS) (p : Nat) : Prop := (∀ j, s.req.recs.ownBlock = some j → j ≠ p) ∧ ∀ j, s.call.recs.ownBlock = some j → j ≠ p
theorem OwnN.ticked {s : AgS} {p : Nat} (h : OwnN s p) (v : Value) : OwnN { tickS s with out := v } p := by
  unfold tickS
  split <;> exact h
theorem tickS_gens (s : AgS) : (tickS s).gens = s.gens := by
  unfold tickS
  split <;> rfl
theorem RndI.taken {W : World} {g n c t : Nat} {s : AgS} (h : RndI W g n c t s) : RndI (W.setCell ⟨g, 28, none⟩ (.slice none 0 0)) g n c t { s with out := .slice none 0 0 } := ⟨h.I.taken, h.b, h.cl, h.nd, h.nn, h.cu, h.tk⟩
theorem RndI.headed {W W' : World} {g n c t : Nat} {s : AgS} (h : RndI W g n c t s) (hf : s.cur = (c : Int)) (hI : AgI W' g (headS s (c : Int)) []) : RndI W' g n (c % n + 1) 0 (headS s (c : Int)) := by
  have e : headS s (c : Int) = { s with cur := s.cur % s.nodes + 1, ticks := 0 } := by rw [headS, if_pos hf.symm]
  rw [e] at hI ⊢
  exact ⟨hI, h.b, h.cl, h.nd, h.nn, by show s.cur % s.nodes + 1 = _; rw [hf, h.nd, Int.natCast_add, Int.natCast_emod]; rfl, rfl⟩
theorem RndI.unheaded {W W' : World} {g n c t : Nat} {s : AgS} {f : Int} (h : RndI W g n c t s) (hf : f ≠ (c : Int)) (hI : AgI W' g (headS s f) []) : RndI W' g n c t s ∧ headS s f = s := by
  have e : headS s f = s := by rw [headS, if_neg (by rw [h.cu]; exact hf)]
  rw [e] at hI
  exact ⟨⟨hI, h.b, h.cl, h.nd, h.nn, h.cu, h.tk⟩, e⟩
theorem cur_same {i n : Nat} (h : ¬ 3 ≤ i % 3 + 1) : (i + 1) / 3 % n + 1 = i / 3 % n + 1 ∧ (i + 1) % 3 = i % 3 + 1 := by
  have : (i + 1) / 3 = i / 3 := by omega
  rw [this]
  omega
theorem cur_next {i n : Nat} (h : 3 ≤ i % 3 + 1) : (i + 1) / 3 % n + 1 = (i / 3 % n + 1) % n + 1 ∧ (i + 1) % 3 = 0 := by
  have : (i + 1) / 3 = i / 3 + 1 := by omega
  rw [this, Nat.mod_add_mod]
  omega
/-- A tick of one that goes round. -/
theorem RndI.ticked {W W' : World} {g n i : Nat} {s : AgS} {v : Value} (h : RndI W g n (i / 3 % n + 1) (i % 3) s) (hI : AgI W' g { tickS s with out := v } []) :
    RndI W' g n ((i + 1) / 3 % n + 1) ((i + 1) % 3) { tickS s with out := v } ∧ (tickS s).cur = (((i + 1) / 3 % n + 1 : Nat) : Int) ∧ (tickS s).client = 3 := by
  have ht := h.tk
  have hc := h.cu
  have hn := h.nd
  by_cases h3 : 3 ≤ i % 3 + 1
  · have hT : tickS s = { s with cur := s.cur % s.nodes + 1, ticks := 0 } := by rw [tickS, if_pos (by omega)]
    obtain ⟨e1, e2⟩ := cur_next (n := n) h3
    rw [hT] at hI ⊢
    rw [e1, e2]
    have hcc : s.cur % s.nodes + 1 = (((i / 3 % n + 1) % n + 1 : Nat) : Int) := by rw [hc, hn, Int.natCast_add, Int.natCast_emod]; rfl
    exact ⟨⟨hI, h.b, h.cl, h.nd, h.nn, hcc, rfl⟩, hcc, h.cl⟩
  · have hT : tickS s = { s with ticks := s.ticks + 1 } := by rw [tickS, if_neg (by omega)]
    obtain ⟨e1, e2⟩ := cur_same (n := n) h3
    rw [hT] at hI ⊢
    rw [e1, e2]
    exact ⟨⟨hI, h.b, h.cl, h.nd, h.nn, hc, by show s.ticks + 1 = _; rw [ht]; rfl⟩, hc, h.cl⟩
/-- Which nodes were asked. -/
def seenB (i j : Nat) : Bool := decide (1 ≤ j) && decide (3 * (j - 1) < i)
def seenL (i : Nat) : List Value := [.bool (seenB i 0), .bool (seenB i 1), .bool (seenB i 2), .bool (seenB i 3), .bool (seenB i 4), .bool (seenB i 5)]
theorem seenL_zero : seenL 0 = [.bool false, .bool false, .bool false, .bool false, .bool false, .bool false] := rfl
theorem seenB_next {i n c : Nat} (hi : i < 3 * n) (hc : c = i / 3 % n + 1) (j : Nat) : (if c = j then true else seenB i j) = seenB (i + 1) j := by
  have h1 : i / 3 % n = i / 3 := Nat.mod_eq_of_lt (by omega)
  rw [h1] at hc
  unfold seenB
  split
  · rename_i h
    have h2 : 1 ≤ j ∧ 3 * (j - 1) < i + 1 := by omega
    simp [h2.1, h2.2]
  · rename_i h
    by_cases h2 : 1 ≤ j
    · simp only [h2, decide_true, Bool.true_and]
      exact decide_eq_decide.2 (by omega)
    · simp [h2]
theorem seenL_next {i n c : Nat} (hi : i < 3 * n) (hc : c = i / 3 % n + 1) (hn : n ≤ 5) : (seenL i).set c (.bool true) = seenL (i + 1) := by
  have h0 := seenB_next hi hc 0
  have h1 := seenB_next hi hc 1
  have h2 := seenB_next hi hc 2
  have h3 := seenB_next hi hc 3
  have h4 := seenB_next hi hc 4
  have h5 := seenB_next hi hc 5
  have hm : i / 3 % n < n := Nat.mod_lt _ (by omega)
  unfold seenL
  rw [← h0, ← h1, ← h2, ← h3, ← h4, ← h5]
  rcases (show c = 1 ∨ c = 2 ∨ c = 3 ∨ c = 4 ∨ c = 5 by omega) with h | h | h | h | h <;> rw [h] <;> rfl
theorem seenL_at {i j : Nat} (h : j < 6) : (seenL i)[j]? = some (.bool (seenB i j)) := by
  rcases (show j = 0 ∨ j = 1 ∨ j = 2 ∨ j = 3 ∨ j = 4 ∨ j = 5 by omega) with rfl | rfl | rfl | rfl | rfl | rfl <;> rfl
theorem AgI.otherR {w w' : World} {g p : Nat} {s : AgS} {gl : LM} (h : AgI w g s gl) (k : Keeps (fun j => j = p) w w') (hp : p ≠ g) (hm : p ≠ s.gens) (hr : ∀ j, s.req.recs.ownBlock = some j → j ≠ p) (hc : ∀ j, s.call.recs.ownBlock = some j → j ≠ p) : AgI w' g s gl := by
  obtain ⟨rl, h1, h2, h3⟩ := h.rr
  obtain ⟨cl, h4, h5, h6⟩ := h.cr
  exact { a := Cl.keep h.a k (fun e => hp e.symm), rr := ⟨rl, h1.keepT k (fun j hj e => hr j hj e), h2, h3⟩, cr := ⟨cl, h4.keepT k (fun j hj e => hc j hj e), h5, h6⟩, M := h.M.kept k (fun e => hm e.symm), gg := h.gg, cl := h.cl, nd := h.nd, cu := h.cu, kd := h.kd, nn := h.nn, sq := h.sq, tk := h.tk }
theorem RndI.below {W W' : World} {g n c t : Nat} {s : AgS} (h : RndI W g n c t s) (hb : Below W.heap.size W W') : RndI W' g n c t s := ⟨h.I.below hb, h.b, h.cl, h.nd, h.nn, h.cu, h.tk⟩

/-- A new client that has called. -/
theorem RndI.called {W : World} {g n m : Nat} {c r v : Value} {call : CallS} {req : ReqS} (hI : AgI W g { newS 3 (n : Int) m with n := (newS 3 (n : Int) m).n + 1, busy := true, ticks := 0, call := call, req := req, out := v } []) : RndI W g n 1 0 { newS 3 (n : Int) m with n := (newS 3 (n : Int) m).n + 1, busy := true, ticks := 0, call := call, req := req, out := v } := ⟨hI, rfl, rfl, rfl, rfl, rfl, rfl⟩
set_option maxRecDepth 20000 in
set_option maxHeartbeats 25600000 in
theorem round_walk (HAW : ∀ w, Calls Tryd.prog 5 #[] w fun e w' => e = .returned (.bool true) ∧ Below w.heap.size w w') (v : Value) (hs : List Bool) (n0 : Int) (w : World) (hz : Bools w v hs) (hl : hs.length ≤ maxLen) :
    Calls Tryd.prog 3 #[.int .i64 n0, v] w fun e w' => e = .returned (.bool true) ∧ Below w.heap.size w w' := by
  have HZ := Lib.hid hz
  have HAW2 := Lib.hid HAW
  clear HAW
  obtain ⟨a, cap, rfl, -⟩ := id hz
  clear hz
  unfold maxLen at hl
  obtain ⟨q, hqc, tc, lc⟩ : ∃ q : Nat, wrap64 (q : Int) = q ∧ (IntKind.u64.wrap n0).tmod 5 = (q : Int) ∧ q < 5 := ⟨_, wrapNr _ (by have := umr_lt n0 (m := 5) (by omega); omega), umr_tmod n0 (m := 5) (by omega), umr_lt n0 (by omega)⟩
  go_enter Tryd.func3, Tryd.ntmps3
  go_wp2_with fail
  refine (HAW2.out w).mono ?_
  rintro e w1 ⟨rfl, hb1⟩
  have B1 := Lib.hid hb1
  clear hb1
  go_upto_region 4 with (fail)
  obtain ⟨n, hn, hn1, hn5⟩ : ∃ n : Nat, (1 + (q : Int)) = (n : Int) ∧ 1 ≤ n ∧ n ≤ 5 := ⟨1 + q, by simp, by omega, by omega⟩
  rw [hn]
  clear tc hqc hn lc
  go_wp2_with fail
  refine (New_any 3 (n : Int) w1 ⟨by omega, by omega⟩ ⟨by omega, by omega⟩).mono ?_
  rintro e w2 ⟨g, rfl, hg, hI, hb2⟩
  have B2 := Lib.hid (bt B1.out hb2)
  have HC := Lib.hid (call_fetch g _ [] w2 hI rfl rfl (by simp [newS]))
  have hgl := Cl.lt hI.a
  have hml : w1.heap.size < w2.heap.size := hI.M.lt
  have hgm : w1.heap.size ≠ g := hI.gg
  clear hI hb2
  unfold callV callC fetchX at HC
  go_wp2_with fail
  refine HC.out.mono ?_
  rintro e w3 ⟨rv, rq, v3, rv2, rfl, hI3, hrq, hO3, hK3, hfr3⟩
  subst hrq
  have hs3 := hK3.size
  have B3 : Hid (Below w.heap.size w w3) := B2.out.trans (hK3.toBelow B2.out.size (fun k hk e => by have := B1.out.size; omega))
  obtain ⟨s, R3, O3, S3, G3⟩ : ∃ s, Hid (RndI w3 g n (0 / 3 % n + 1) (0 % 3) s) ∧ Hid (OwnN s w3.heap.size) ∧ Hid (Sent w3 g w1.heap.size w3.heap.size (0 / 3 % n + 1) s.out) ∧ Hid (s.gens = w1.heap.size) := by
    rw [show 0 / 3 % n + 1 = 1 by simp]
    exact ⟨_, ⟨hI3, rfl, rfl, rfl, rfl, rfl, rfl⟩, ⟨fun j hj => by simp [Value.ownBlock] at hj, fun j hj => Nat.ne_of_lt (hfr3 j hj).2⟩, Sent.of hO3 rfl hgl hml (.inr (Nat.le_refl _)), rfl⟩
  clear hI3 hO3 hfr3 hK3 HC
  have C4 : Hid (Cl (w3.alloc (.cells #[.bool false, .bool false, .bool false, .bool false, .bool false, .bool false] 32)) w3.heap.size (seenL 0) 32) := Cl.new w3 _ _
  have b4 : Below w3.heap.size w3 (w3.alloc (.cells #[.bool false, .bool false, .bool false, .bool false, .bool false, .bool false] 32)) := (Below.refl _ _).alloc (Nat.le_refl _) _
  have R4 := Lib.hid (R3.out.below b4)
  have S4 := Lib.hid (S3.out.below b4)
  have B4 := Lib.hid (bt B3.out b4)
  go_upto_region 8 with (fail)
  generalize w3.alloc (.cells #[.bool false, .bool false, .bool false, .bool false, .bool false, .bool false] 32) = w4 at *
  have hpg : w3.heap.size ≠ g := by omega
  have hpm : w3.heap.size ≠ w1.heap.size := by omega
  have hw1 := B1.out.size
  have hw3 := B3.out.size
  generalize w3.heap.size = ps at *
  generalize w1.heap.size = m at *
  clear R3 S3 B3 b4 hgl hml hs3 B1 B2
  have HR0 : Hid (∃ s, RndI w4 g n (0 / 3 % n + 1) (0 % 3) s ∧ OwnN s ps ∧ Sent w4 g m ps (0 / 3 % n + 1) s.out ∧ Cl w4 ps (seenL 0) 32 ∧ s.gens = m ∧ Below w.heap.size w w4) := ⟨s, R4.out, O3.out, S4.out, C4.out, G3.out, B4.out⟩
  clear R4 O3 S4 C4 G3 B4
  go_wp2
  go_loopw [7] (fun ti wr => ∃ i : Nat, ti = .int .i64 i ∧ i ≤ 3 * n ∧ ∃ s, RndI wr g n (i / 3 % n + 1) (i % 3) s ∧ OwnN s ps ∧ Sent wr g m ps (i / 3 % n + 1) s.out ∧ Cl wr ps (seenL i) 32 ∧ s.gens = m ∧ Below w.heap.size w wr) (fun ti _ => 3 * n - (intOf ti).toNat)
  case atStart => exact ⟨0, rfl, by omega, HR0.out⟩
  case round =>
    clear HR0
    obtain ⟨i, rfl, hi, s, hR, hO, hS, hC, hG, hB⟩ := hrel
    have R := Lib.hid hR
    have O := Lib.hid hO
    have C := Lib.hid hC
    have G := Lib.hid hG
    have B := Lib.hid hB
    obtain ⟨b, off, cp, hv, hbg, hbm, hbp, hblt, m2⟩ := id hS
    have HV := Lib.hid hv
    have hcn : i / 3 % n + 1 ≤ n := Nat.mod_lt _ (by omega)
    have HOut := Lib.hid (out_any g s (some ⟨b, off, none⟩) 1 cp hv wr hR.I.a)
    have R6 := Lib.hid hR.taken
    have C6 := Lib.hid (Cl.other hC ⟨g, 28, none⟩ (.slice none 0 0) (fun e => hpg e.symm))
    have k6 : Keeps (fun j => j = g) wr (wr.setCell ⟨g, 28, none⟩ (.slice none 0 0)) := Keeps.setCell _ _ _ _ rfl
    have m6 := (k6.cell (a := ⟨b, off + 2, none⟩) hblt hbg).trans m2
    have B6 : Hid (Below w.heap.size w (wr.setCell ⟨g, 28, none⟩ (.slice none 0 0))) := hB.trans (k6.toBelow hB.size (fun k hk e => by omega))
    clear hR hO hS hC hG hB hv k6 m2
    by_cases hlt : i < 3 * n
    · have hcc := Lib.hid (seenL_next hlt rfl hn5)
      obtain ⟨c, hc⟩ : ∃ c, c = i / 3 % n + 1 := ⟨_, rfl⟩
      rw [← hc] at m6 hcn hcc
      have hc0 : 1 ≤ c := by omega
      have HCC := Lib.hid hc
      clear hc
      go_wp2_with fail
      refine HOut.out.mono ?_
      rintro e w6 ⟨rfl, rfl⟩
      generalize wr.setCell ⟨g, 28, none⟩ (.slice none 0 0) = w6 at *
      clear HOut R C B
      have p6 := (C6.out.cell c).trans (seenL_at (by omega))
      have q6 := C6.out.free c
      have C7 : Hid (Cl (w6.setCell ⟨ps, c, none⟩ (.bool true)) ps (seenL (i + 1)) 32) := by rw [← hcc.out]; exact Cl.set C6.out c (.bool true)
      have k7 : Keeps (fun j => j = ps) w6 (w6.setCell ⟨ps, c, none⟩ (.bool true)) := Keeps.setCell _ _ _ _ rfl
      have R7 : Hid (RndI (w6.setCell ⟨ps, c, none⟩ (.bool true)) g n (i / 3 % n + 1) (i % 3) { s with out := .slice none 0 0 }) := ⟨R6.out.I.otherR k7 hpg (by rw [show ({ s with out := Value.slice none 0 0 } : AgS).gens = m from G.out]; exact hpm) O.out.1 O.out.2, R6.out.b, R6.out.cl, R6.out.nd, R6.out.nn, R6.out.cu, R6.out.tk⟩
      have B7 : Hid (Below w.heap.size w (w6.setCell ⟨ps, c, none⟩ (.bool true))) := B6.out.trans (k7.toBelow B6.out.size (fun k hk e => by omega))
      clear k7
      go_upto_region 15 with (fail)
      generalize w6.setCell ⟨ps, c, none⟩ (.bool true) = w7 at *
      clear C6 R6 B6 p6 q6 m6
      have HT := Lib.hid (tick_any g { s with out := .slice none 0 0 } [] w7 R7.out.I R7.out.b rfl (by rw [R7.out.tk]; omega))
      go_wp2_with fail
      refine HT.out.mono ?_
      rintro e w8 ⟨v8, rv8, rfl, hI8, hO8, hK8⟩
      have HP : Hid (∃ s, RndI w8 g n ((i + 1) / 3 % n + 1) ((i + 1) % 3) s ∧ OwnN s ps ∧ Sent w8 g m ps ((i + 1) / 3 % n + 1) s.out ∧ Cl w8 ps (seenL (i + 1)) 32 ∧ s.gens = m ∧ Below w.heap.size w w8) := by
        obtain ⟨h1, h2, h3⟩ := R7.out.ticked hI8
        have hM7 := R7.out.I.M.lt
        rw [show ({ s with out := Value.slice none 0 0 } : AgS).gens = m from G.out] at hM7
        exact ⟨_, h1, OwnN.ticked (s := { s with out := .slice none 0 0 }) O.out v8, Sent.of hO8 h2 (Cl.lt R7.out.I.a) hM7 (.inl (Cl.lt C7.out)), Cl.keep C7.out hK8 hpg, (tickS_gens _).trans G.out, B7.out.trans (hK8.toBelow B7.out.size (fun k hk e => by omega))⟩
      clear hI8 hO8 hK8 R7 C7 B7 HT
      go_wp2
      go_roundw
      case rel => exact ⟨i + 1, by go_num, by omega, HP.out⟩
      case measure => simp [intOf]; omega
    · obtain rfl : i = 3 * n := by omega
      have hc1 : 3 * n / 3 % n + 1 = 1 := by rw [Nat.mul_div_cancel_left n (by omega), Nat.mod_self]
      rw [hc1] at m6
      clear hcn hlt hi
      have hsn : ∀ j, 1 ≤ j → j ≤ n → seenB (3 * n) j = true := fun j h1 h2 => by
        unfold seenB
        simp only [Bool.and_eq_true, decide_eq_true_eq]
        omega
      go_wp2
      go_loopw [9] (fun tj wx => ∃ j : Nat, tj = .int .i64 j ∧ 1 ≤ j ∧ j ≤ n + 1 ∧ wx = wr) (fun tj _ => n + 1 - (intOf tj).toNat)
      case atStart => exact ⟨1, rfl, by omega, by omega, by first | trivial | rfl⟩
      case round =>
        obtain ⟨j, rfl, hj1, hj, rfl⟩ := hrel
        by_cases hjn : j ≤ n
        · have p9 := (C.out.cell j).trans (seenL_at (by omega))
          rw [hsn j hj1 hjn] at p9
          go_wp2
          go_roundw
          case rel => exact ⟨j + 1, by go_num, by omega, by omega, by first | trivial | rfl⟩
          case measure => simp [intOf]; omega
        · obtain rfl : j = n + 1 := by omega
          go_wp2_with fail
          refine HOut.out.mono ?_
          rintro e w6 ⟨rfl, rfl⟩
          generalize wr.setCell ⟨g, 28, none⟩ (.slice none 0 0) = w6 at *
          clear HOut R C R6 C6 O G hblt
          go_upto_region 22 with (fail)
          clear m6
          go_wp2
          go_loopw [10, 11] (fun ta ti wy => ∃ c i : Nat, ta = .int .i64 c ∧ 1 ≤ c ∧ c ≤ n ∧ ti = .int .i64 i ∧ i ≤ hs.length ∧ i ≤ 20 ∧ Below w.heap.size w wy) (fun _ ti _ => hs.length - (intOf ti).toNat)
          case atStart => exact ⟨1, 0, rfl, by omega, by omega, rfl, by omega, by omega, B6.out⟩
          case round =>
            clear B6 B
            obtain ⟨c0, i, rfl, hc1, hc2, rfl, hi, hi20, hB⟩ := hrel
            have B := Lib.hid hB
            clear hB
            by_cases hgo : i < hs.length ∧ i < 20
            · obtain ⟨hil, hi20'⟩ := hgo
              obtain ⟨a', cap', he, hcl⟩ := HZ.out
              obtain ⟨g9, off9, ha9, hg9, z0⟩ := hcl i hil
              injection he with e1 e2 e3
              subst e1 e3
              subst ha9
              clear hcl e2
              go_wp2_with fail
              refine (New_any 3 (n : Int) wr ⟨by omega, by omega⟩ ⟨by omega, by omega⟩).mono ?_
              rintro e w2 ⟨gg, rfl, hgg, hI, hb2⟩
              have B2 := Lib.hid (bt B.out hb2)
              have HC := Lib.hid (call_fetch gg _ [] w2 hI rfl rfl (by simp [newS]))
              have hgl := Cl.lt hI.a
              have hml : wr.heap.size < w2.heap.size := hI.M.lt
              have hsy := B.out.size
              clear hI hb2
              unfold callV callC fetchX at HC
              go_wp2_with fail
              refine HC.out.mono ?_
              rintro e w3 ⟨rv, rq, v3, rv2, rfl, hI3, hrq, hO3, hK3, hfr3⟩
              subst hrq
              have hs3 := hK3.size
              have B3 : Hid (Below w.heap.size w w3) := B2.out.trans (hK3.toBelow B2.out.size (fun k hk e => by omega))
              obtain ⟨s, R3, S3⟩ : ∃ s, Hid (RndI w3 gg n 1 0 s) ∧ Hid (Sent w3 gg wr.heap.size w3.heap.size 1 s.out) := ⟨_, ⟨hI3, rfl, rfl, rfl, rfl, rfl, rfl⟩, Sent.of hO3 rfl hgl hml (.inr (Nat.le_refl _))⟩
              clear hI3 hO3 hfr3 hK3 HC
              obtain ⟨b2, off2, cp2, hv2, hbg2, -, -, hblt2, m2⟩ := id S3.out
              have HOut := Lib.hid (out_any gg s (some ⟨b2, off2, none⟩) 1 cp2 hv2 w3 R3.out.I.a)
              have R6 := Lib.hid R3.out.taken
              have k6 : Keeps (fun j => j = gg) w3 (w3.setCell ⟨gg, 28, none⟩ (.slice none 0 0)) := Keeps.setCell _ _ _ _ rfl
              have m6 := (k6.cell (a := ⟨b2, off2 + 2, none⟩) hblt2 hbg2).trans m2
              have B6 : Hid (Below w.heap.size w (w3.setCell ⟨gg, 28, none⟩ (.slice none 0 0))) := B3.out.trans (k6.toBelow B3.out.size (fun k hk e => by omega))
              clear S3 hv2 k6 m2
              go_wp2_with fail
              refine HOut.out.mono ?_
              rintro e w6 ⟨rfl, rfl⟩
              generalize w3.setCell ⟨gg, 28, none⟩ (.slice none 0 0) = w6 at *
              have z6 : w6.cell? ⟨g9, off9 + i, none⟩ = some (.bool (hs.getD i false)) := (B6.out.cell (p := ⟨g9, off9 + i, none⟩) hg9).trans z0
              generalize hs.getD i false = hh at *
              have HG9 : Hid (w.heap.size ≤ gg) := by have := B.out.size; exact Nat.le_trans this hgg
              clear HOut z0 B3 R3 B2 B
              go_upto_if 105 with (fail)
              clear m6
              go_cut [10] (fun ta wz => ∃ (c : Nat) (s : AgS), ta = .int .i64 c ∧ 1 ≤ c ∧ c ≤ n ∧ RndI wz gg n c 0 s ∧ s.out = .slice none 0 0 ∧ Below w.heap.size w wz)
              case first =>
                cases hh
                · go_wp2
                  go_meet
                  case rel => exact ⟨1, _, rfl, by omega, hn1, R6.out, rfl, B6.out⟩
                · obtain ⟨k1, hk1⟩ : ∃ k1, k1 = 1 % n := ⟨_, rfl⟩
                  have hm1 : (1 : Int).tmod (n : Int) = (k1 : Int) := by rw [Int.tmod_eq_emod_of_nonneg (by omega), hk1, Int.natCast_emod]; rfl
                  have hm2 : k1 + 1 ≤ n := by rw [hk1]; exact Nat.mod_lt _ (by omega)
                  have HK1 := Lib.hid hk1
                  clear hk1
                  go_wp2
                  go_loopw [12] (fun tk wz => ∃ k : Nat, tk = .int .i64 k ∧ k ≤ 2 ∧ (k = 0 ∨ 2 ≤ n) ∧ ∃ s, RndI wz gg n (if k = 0 then 1 else k1 + 1) 0 s ∧ s.out = .slice none 0 0 ∧ Below w.heap.size w wz) (fun tk _ => 2 - (intOf tk).toNat)
                  case atStart => exact ⟨0, rfl, by omega, .inl rfl, _, R6.out, rfl, B6.out⟩
                  case round =>
                    clear R6 B6 z6
                    obtain ⟨k, rfl, hk, hkn, s9, hR9, hO9, hB9⟩ := hrel
                    have OO9 := Lib.hid hO9
                    have BB9 := Lib.hid hB9
                    rcases (show k = 0 ∨ k = 1 ∨ k = 2 by omega) with rfl | rfl | rfl
                    · rw [if_pos rfl] at hR9
                      have R9 := Lib.hid hR9
                      clear hR9 hO9 hB9 hkn
                      have HH := Lib.hid (hear_head gg s9 [] 1 0 0 wr R9.out.I R9.out.b)
                      have CL9 := R9.out.cl
                      have NN9 := R9.out.nn
                      simp only [respC] at HH
                      rw [CL9, NN9] at HH
                      rw [show (10 : Int) + 3 = 13 from rfl] at HH
                      go_wp2_with fail
                      refine HH.out.mono ?_
                      rintro e x1 ⟨rfl, hI1, hK1⟩
                      have Q1 := Lib.hid (R9.out.headed R9.out.cu hI1)
                      have QO : Hid ((headS s9 1).out = .slice none 0 0) := by
                        unfold headS
                        split <;> exact OO9.out
                      have hgg0 := HG9.out
                      have QB : Hid (Below w.heap.size w x1) := BB9.out.trans (hK1.toBelow BB9.out.size (fun k hk e => by omega))
                      rw [show headS s9 (((1 : Nat) : Int)) = headS s9 1 from rfl, ← HK1.out] at Q1
                      generalize headS s9 1 = s1 at *
                      clear hI1 hK1 HH
                      have bs : Below x1.heap.size x1 (x1.alloc (.cells saidZ.toArray 49)) := (Below.refl _ _).alloc (Nat.le_refl _) _
                      have Q2 := Lib.hid (Q1.out.below bs)
                      have QB2 := Lib.hid (bt QB.out bs)
                      unfold saidZ at Q2 QB2 ⊢
                      go_upto_region 34 with (fail)
                      generalize x1.alloc (.cells #[.int .i64 0, .int .i64 0, .int .i64 0, .int .i64 0, .int .i64 0, .string ⟨#[]⟩, .slice none 0 0, .int .i64 0, .int .i64 0, .int .i64 0, .int .i64 0, .int .i64 0, .int .i64 0, .slice none 0 0, .slice none 0 0] 49) = x2 at *
                      clear bs Q1 QB
                      have HO2 := Lib.hid (out_any gg s1 none 0 0 QO.out x2 Q2.out.I.a)
                      have Q3 := Lib.hid Q2.out.taken
                      have k3 : Keeps (fun j => j = gg) x2 (x2.setCell ⟨gg, 28, none⟩ (.slice none 0 0)) := Keeps.setCell _ _ _ _ rfl
                      have QB3 : Hid (Below w.heap.size w (x2.setCell ⟨gg, 28, none⟩ (.slice none 0 0))) := QB2.out.trans (k3.toBelow QB2.out.size (fun k hk e => by omega))
                      clear k3
                      go_wp2_with fail
                      refine HO2.out.mono ?_
                      rintro e x3 ⟨rfl, rfl⟩
                      generalize x2.setCell ⟨gg, 28, none⟩ (.slice none 0 0) = x3 at *
                      clear HO2 Q2 QB2 QO
                      by_cases hn2 : n = 1
                      · have hnb : ((n : Int) == 1) = true := by subst hn2; rfl
                        have HQ : Hid (∃ s, RndI x3 gg n (k1 + 1) 0 s ∧ s.out = .slice none 0 0 ∧ Below w.heap.size w x3) := ⟨_, Q3.out, rfl, QB3.out⟩
                        clear hn2 Q3 QB3 R9 OO9 BB9
                        go_wp2
                        go_meet
                        case rel =>
                          obtain ⟨s, h1, h2, h3⟩ := HQ.out
                          exact ⟨k1 + 1, s, by go_num, by omega, hm2, h1, h2, h3⟩
                      · have hnb : ((n : Int) == 1) = false := by simp; omega
                        have hn3 : 2 ≤ n := by omega
                        have HQ : Hid (∃ s, RndI x3 gg n (k1 + 1) 0 s ∧ s.out = .slice none 0 0 ∧ Below w.heap.size w x3) := ⟨_, Q3.out, rfl, QB3.out⟩
                        clear hn2 Q3 QB3 R9 OO9 BB9
                        go_wp2
                        go_roundw
                        case rel => exact ⟨1, by go_num, by omega, .inr hn3, by rw [if_neg (by omega)]; exact HQ.out⟩
                        case measure => simp [intOf]
                    · rw [if_neg (by omega)] at hR9
                      have R9 := Lib.hid hR9
                      have hn3 : 2 ≤ n := by omega
                      have hmod : ((k1 + 1 : Nat) : Int) = 2 := by rw [HK1.out, Nat.mod_eq_of_lt (by omega)]; rfl
                      clear hR9 hO9 hB9 hkn
                      have HH := Lib.hid (hear_head gg s9 [] 1 0 0 wr R9.out.I R9.out.b)
                      have CL9 := R9.out.cl
                      have NN9 := R9.out.nn
                      simp only [respC] at HH
                      rw [CL9, NN9] at HH
                      rw [show (10 : Int) + 3 = 13 from rfl] at HH
                      go_wp2_with fail
                      refine HH.out.mono ?_
                      rintro e x1 ⟨rfl, hI1, hK1⟩
                      obtain ⟨hq1, hq2⟩ := R9.out.unheaded (f := 1) (by rw [hmod]; decide) hI1
                      have Q1 := Lib.hid hq1
                      have QO := Lib.hid OO9.out
                      have hgg0 := HG9.out
                      have QB : Hid (Below w.heap.size w x1) := BB9.out.trans (hK1.toBelow BB9.out.size (fun k hk e => by omega))
                      clear hq1 hq2
                      obtain ⟨s1, hs1⟩ : ∃ s1, s1 = s9 := ⟨_, rfl⟩
                      rw [← hs1] at Q1 QO
                      clear hs1
                      clear hI1 hK1 HH
                      have bs : Below x1.heap.size x1 (x1.alloc (.cells saidZ.toArray 49)) := (Below.refl _ _).alloc (Nat.le_refl _) _
                      have Q2 := Lib.hid (Q1.out.below bs)
                      have QB2 := Lib.hid (bt QB.out bs)
                      unfold saidZ at Q2 QB2 ⊢
                      go_upto_region 34 with (fail)
                      generalize x1.alloc (.cells #[.int .i64 0, .int .i64 0, .int .i64 0, .int .i64 0, .int .i64 0, .string ⟨#[]⟩, .slice none 0 0, .int .i64 0, .int .i64 0, .int .i64 0, .int .i64 0, .int .i64 0, .int .i64 0, .slice none 0 0, .slice none 0 0] 49) = x2 at *
                      clear bs Q1 QB
                      have HO2 := Lib.hid (out_any gg s1 none 0 0 QO.out x2 Q2.out.I.a)
                      have Q3 := Lib.hid Q2.out.taken
                      have k3 : Keeps (fun j => j = gg) x2 (x2.setCell ⟨gg, 28, none⟩ (.slice none 0 0)) := Keeps.setCell _ _ _ _ rfl
                      have QB3 : Hid (Below w.heap.size w (x2.setCell ⟨gg, 28, none⟩ (.slice none 0 0))) := QB2.out.trans (k3.toBelow QB2.out.size (fun k hk e => by omega))
                      clear k3
                      go_wp2_with fail
                      refine HO2.out.mono ?_
                      rintro e x3 ⟨rfl, rfl⟩
                      generalize x2.setCell ⟨gg, 28, none⟩ (.slice none 0 0) = x3 at *
                      clear HO2 Q2 QB2 QO
                      have hnb : ((n : Int) == 1) = false := by simp; omega
                      have HQ : Hid (∃ s, RndI x3 gg n (k1 + 1) 0 s ∧ s.out = .slice none 0 0 ∧ Below w.heap.size w x3) := ⟨_, Q3.out, rfl, QB3.out⟩
                      clear Q3 QB3 R9 OO9 BB9 hmod
                      go_wp2
                      go_roundw
                      case rel => exact ⟨2, by go_num, by omega, .inr hn3, by rw [if_neg (by omega)]; exact HQ.out⟩
                      case measure => simp [intOf]
                    · rw [if_neg (by omega)] at hR9
                      have HQ : Hid (∃ s, RndI wr gg n (k1 + 1) 0 s ∧ s.out = .slice none 0 0 ∧ Below w.heap.size w wr) := ⟨s9, hR9, hO9, hB9⟩
                      clear hR9 hO9 hB9 OO9 BB9 hkn
                      go_wp2
                      go_meet
                      case rel =>
                        obtain ⟨s, h1, h2, h3⟩ := HQ.out
                        exact ⟨k1 + 1, s, by go_num, by omega, hm2, h1, h2, h3⟩
              case rest =>
                clear R6 B6 z6
                obtain ⟨c, s9, rfl, hc1', hc2', hR9, hO9, hB9⟩ := hcut
                have R9 := Lib.hid hR9
                have B9 := Lib.hid hB9
                have HT := Lib.hid (tick_any gg s9 [] wc hR9.I hR9.b hO9 (by rw [hR9.tk]; omega))
                clear hR9 hO9 hB9
                go_wp2_with fail
                refine HT.out.mono ?_
                rintro e y1 ⟨o1, rv1, rfl, hI1, hO1, hK1⟩
                have hgg0 := HG9.out
                have B10 : Hid (Below w.heap.size w y1) := B9.out.trans (hK1.toBelow B9.out.size (fun k hk e => by omega))
                have TS : tickS s9 = { s9 with ticks := s9.ticks + 1 } := by rw [tickS, if_neg (by rw [R9.out.tk]; decide)]
                rw [TS] at hI1 hO1
                obtain ⟨b2, off2, cp2, hv2, hbg2, -, -, hblt2, m2⟩ := Sent.of (g := gg) (m := s9.gens) (p := y1.heap.size) (c := c) hO1 R9.out.cu (Cl.lt R9.out.I.a) R9.out.I.M.lt (.inr (Nat.le_refl _))
                have HOut := Lib.hid (out_any gg _ (some ⟨b2, off2, none⟩) 1 cp2 hv2 y1 hI1.a)
                have k6 : Keeps (fun j => j = gg) y1 (y1.setCell ⟨gg, 28, none⟩ (.slice none 0 0)) := Keeps.setCell _ _ _ _ rfl
                have m6 := (k6.cell (a := ⟨b2, off2 + 2, none⟩) hblt2 hbg2).trans m2
                have B11 : Hid (Below w.heap.size w (y1.setCell ⟨gg, 28, none⟩ (.slice none 0 0))) := B10.out.trans (k6.toBelow B10.out.size (fun k hk e => by omega))
                clear hI1 hO1 hK1 hv2 k6 m2 TS HT R9 B9 B10
                go_wp2_with fail
                refine HOut.out.mono ?_
                rintro e y2 ⟨rfl, rfl⟩
                generalize y1.setCell ⟨gg, 28, none⟩ (.slice none 0 0) = y2 at *
                clear HOut
                go_wp2
                go_roundw
                case rel => exact ⟨c, i + 1, rfl, hc1', hc2', by go_num, by omega, by omega, B11.out⟩
                case measure => simp [intOf]; omega
            · have hgo3 : ¬ i < hs.length ∨ (i < hs.length ∧ ¬ i < 20) := by
                by_cases h : i < hs.length
                · right; exact ⟨h, fun h2 => hgo ⟨h, h2⟩⟩
                · exact .inl h
              clear hgo
              rcases hgo3 with hno | ⟨hyes, hno⟩
              all_goals
                go_wp2
                go_ret
                exact ⟨rfl, B.out⟩

end Go.Proofs.YtkjbhkillkbcgaaDoor
