/-
  Agent: the laws' awake.
  Conditions: none.
-/
import Derived.Test.YtkjbhkillkbcgaaDoorAq
import Derived.Test.YtkjbhkillkbcgaaDoorAm
set_option linter.unusedVariables false
set_option linter.unusedSimpArgs false
namespace Go.Proofs.YtkjbhkillkbcgaaDoor
open Go.RowKit

theorem New_no (client nodes : Int) (h : (decide (1 ≤ client) && decide (client ≤ 4)) = false ∨ ((decide (1 ≤ client) && decide (client ≤ 4)) = true ∧ (decide (1 ≤ nodes) && decide (nodes ≤ 5)) = false)) (w : World) :
    Calls Tryd.prog 6 #[.int .i64 client, .int .i64 nodes] w fun e w' => e = .returned (.pointer none) ∧ w = w' := by
  go_enter Tryd.func6, Tryd.ntmps6
  rcases h with h | ⟨h, h'⟩
  · go_wp2_with fail
    refine (within_any client 1 4 w).mono ?_
    rintro e w4 ⟨rfl, rfl⟩
    try rw [h]
    go_wp2
    go_ret
    exact ⟨rfl, rfl⟩
  · go_wp2_with fail
    refine (within_any client 1 4 w).mono ?_
    rintro e w4 ⟨rfl, rfl⟩
    try rw [h]
    go_wp2_with fail
    refine (within_any nodes 1 5 w).mono ?_
    rintro e w4 ⟨rfl, rfl⟩
    try rw [h']
    go_wp2
    go_ret
    exact ⟨rfl, rfl⟩
theorem one_rec (w : World) : Recs (w.alloc (.cells #[.int .i64 0, .string ⟨#[107]⟩, .string ⟨#[]⟩, .bool false] 57)) (.slice (some ⟨w.heap.size, 0, none⟩) 1 1) [⟨0, [107], [], false⟩] := by
  have C := Cl.new w [.int .i64 0, .string ⟨#[107]⟩, .string ⟨#[]⟩, .bool false] 57
  refine ⟨_, 1, rfl, fun i x hx => ?_⟩
  obtain ⟨hi, rfl⟩ := List.getElem?_eq_some_iff.1 hx
  obtain rfl : i = 0 := by simpa using hi
  exact ⟨w.heap.size, 0, rfl, by simp, C.cell 0, C.cell 1, C.cell 2, C.cell 3⟩
/-- What is read of a message. -/
def Rd (W : World) (b o : Nat) (f t : Int) : Prop := b < W.heap.size ∧ W.cell? ⟨b, o + 1, none⟩ = some (.int .i64 f) ∧ W.cell? ⟨b, o + 2, none⟩ = some (.int .i64 t)
theorem Rd.keep {S : Nat → Prop} {W W' : World} {b o : Nat} {f t : Int} (h : Rd W b o f t) (k : Keeps S W W') (hs : ¬ S b) : Rd W' b o f t :=
  ⟨Nat.lt_of_lt_of_le h.1 k.size, (k.cell (a := ⟨b, o + 1, none⟩) h.1 hs).trans h.2.1, (k.cell (a := ⟨b, o + 2, none⟩) h.1 hs).trans h.2.2⟩
theorem OutIs.rd {w : World} {B : Nat} {v : Value} {frm to_ : Int} {q : ReqS} (h : OutIs w B v frm to_ q) : ∃ b off cap, v = .slice (some ⟨b, off, none⟩) 1 cap ∧ B ≤ b ∧ Rd w b off frm to_ := by
  obtain ⟨b, off, cap, e, h1, h2, h3⟩ := h.read
  exact ⟨b, off, cap, e, h1, h2, h3 1 _ rfl, h3 2 _ rfl⟩
structure Aw (s : AgS) (cur ticks : Int) (m : Nat) : Prop where
  cl : s.client = 2
  nd : s.nodes = 3
  nn : s.n = 1
  cu : s.cur = cur
  bz : s.busy = true
  tk : s.ticks = ticks
  ck : s.call.kind = 1
  cp : s.call.part = 1
  s1 : s.s1 = 0
  gn : s.gens = m
theorem Aw.headed {s : AgS} {m : Nat} (h : Aw s 1 0 m) : Aw (headS s 1) 2 0 m ∧ (headS s 1).out = s.out := by
  have e : headS s 1 = { s with cur := s.cur % s.nodes + 1, ticks := 0 } := by rw [headS, if_pos h.cu.symm]
  rw [e]
  exact ⟨⟨h.cl, h.nd, h.nn, by show s.cur % s.nodes + 1 = 2; rw [h.cu, h.nd]; rfl, h.bz, rfl, h.ck, h.cp, h.s1, h.gn⟩, rfl⟩
theorem Aw.ticked {s : AgS} {m : Nat} (h : Aw s 2 0 m) (v : Value) : Aw { tickS s with out := v } 2 1 m ∧ (tickS s).client = 2 ∧ (tickS s).cur = 2 := by
  have e : tickS s = { s with ticks := s.ticks + 1 } := by rw [tickS, if_neg (by rw [h.tk]; decide)]
  rw [e]
  exact ⟨⟨h.cl, h.nd, h.nn, h.cu, h.bz, by show s.ticks + 1 = 1; rw [h.tk]; rfl, h.ck, h.cp, h.s1, h.gn⟩, h.cl, h.cu⟩
theorem Aw.out {s : AgS} {c t : Int} {m : Nat} (h : Aw s c t m) (v : Value) : Aw { s with out := v } c t m := ⟨h.cl, h.nd, h.nn, h.cu, h.bz, h.tk, h.ck, h.cp, h.s1, h.gn⟩
set_option maxRecDepth 20000 in
set_option maxHeartbeats 25600000 in
theorem awake_any (w : World) : Calls Tryd.prog 5 #[] w fun e w' => e = .returned (.bool true) ∧ Below w.heap.size w w' := by
  go_enter Tryd.func5, Tryd.ntmps5
  go_wp2_with fail
  refine (New_any 2 3 w ⟨by decide, by decide⟩ ⟨by decide, by decide⟩).mono ?_
  rintro e w1 ⟨g, rfl, hg, hI, hb1⟩
  have I1 := Lib.hid hI
  have B1 := Lib.hid hb1
  have hgl := Cl.lt hI.a
  clear hI hb1
  go_wp2_with fail
  refine (New_no 0 3 (.inl (by decide)) w1).mono ?_
  rintro e w0 ⟨rfl, rfl⟩
  go_wp2_with fail
  refine (New_no 1 6 (.inr ⟨by decide, by decide⟩) w1).mono ?_
  rintro e w0 ⟨rfl, rfl⟩
  have hbR : Below w1.heap.size w1 (w1.alloc (.cells #[.int .i64 0, .string ⟨#[107]⟩, .string ⟨#[]⟩, .bool false] 57)) := (Below.refl _ _).alloc (Nat.le_refl _) _
  have R2 := Lib.hid (one_rec w1)
  have I2 := Lib.hid (I1.out.below hbR)
  have B2 := Lib.hid (bt B1.out hbR)
  clear hbR
  have HC := Lib.hid (call_prod g _ [] (.slice (some ⟨w1.heap.size, 0, none⟩) 1 1) [⟨0, [107], [], false⟩] (by simp [RecOk, Bd.inR, maxLen]) (by simp) (by decide) _ R2.out I2.out rfl rfl (by simp [newS]))
  have hR1 := B1.out.size
  have hml : w.heap.size < (w1.alloc (.cells #[.int .i64 0, .string ⟨#[107]⟩, .string ⟨#[]⟩, .bool false] 57)).heap.size := by rw [World.size_alloc]; omega
  have hgR : g < (w1.alloc (.cells #[.int .i64 0, .string ⟨#[107]⟩, .string ⟨#[]⟩, .bool false] 57)).heap.size := by rw [World.size_alloc]; omega
  clear I1 R2
  unfold callV callC prodX at HC
  go_wp2_with fail
  refine HC.out.mono ?_
  rintro e w3 ⟨rv, rq, v3, rv2, rfl, hI3, hrq, hO3, hK3, hfr3⟩
  obtain ⟨rr, hrr⟩ := hrq
  subst hrr
  obtain ⟨b3, o3, p3, hv3, hB3, hr3⟩ := hO3.rd
  obtain ⟨s, I3, A3, hso⟩ : ∃ s, Hid (AgI w3 g s []) ∧ Hid (Aw s 1 0 w.heap.size) ∧ s.out = v3 := ⟨_, hI3, ⟨rfl, rfl, rfl, rfl, rfl, rfl, rfl, rfl, rfl, rfl⟩, rfl⟩
  have hO := Lib.hid (out_any g s (some ⟨b3, o3, none⟩) 1 p3 (hso.trans hv3) w3 I3.out.a)
  have hbg : b3 ≠ g := by omega
  have hbm : b3 ≠ w.heap.size := by omega
  have k4 : Keeps (fun j => j = g) w3 (w3.setCell ⟨g, 28, none⟩ (.slice none 0 0)) := Keeps.setCell _ _ _ _ rfl
  have I4 := Lib.hid I3.out.taken
  have A4 := Lib.hid (A3.out.out (.slice none 0 0))
  have D4 := Lib.hid (hr3.keep k4 hbg)
  have hgw : w.heap.size ≤ g := hg
  have B4 : Hid (Below w.heap.size w (w3.setCell ⟨g, 28, none⟩ (.slice none 0 0))) := (B2.out.trans (hK3.toBelow B2.out.size (fun k hk e => by omega))).trans (k4.toBelow (Nat.le_trans B2.out.size hK3.size) (fun k hk e => by omega))
  clear hI3 hO3 hK3 hfr3 hr3 k4 I2 B2 I3 A3 HC
  subst hv3
  go_wp2_with fail
  refine hO.out.mono ?_
  rintro e w4 ⟨rfl, rfl⟩
  generalize w3.setCell ⟨g, 28, none⟩ (.slice none 0 0) = w4 at *
  clear hO hso
  obtain ⟨s3, hs3, hs3o⟩ : ∃ s3 : AgS, s3 = { s with out := .slice none 0 0 } ∧ s3.out = .slice none 0 0 := ⟨_, rfl, rfl⟩
  rw [← hs3] at I4 A4
  clear hs3
  have HH := Lib.hid (hear_head g s3 [] 1 0 0 w4 I4.out A4.out.bz)
  have CL := A4.out.cl
  have NN := A4.out.nn
  simp only [respC] at HH
  rw [CL, NN] at HH
  rw [show (10 : Int) + 2 = 12 from rfl] at HH
  clear CL NN
  go_wp2_with fail
  refine HH.out.mono ?_
  rintro e w5 ⟨rfl, hI5, hK5⟩
  obtain ⟨hA5, hO5⟩ := A4.out.headed
  have hO5' := hO5.trans hs3o
  have bs : Below w5.heap.size w5 (w5.alloc (.cells saidZ.toArray 49)) := (Below.refl _ _).alloc (Nat.le_refl _) _
  have I6 := Lib.hid (hI5.below bs)
  have A6 := Lib.hid hA5
  have D6 := Lib.hid ((D4.out.keep hK5 hbg).keep (Keeps.below (fun _ => False) bs) id)
  have B6 := Lib.hid (bt (B4.out.trans (hK5.toBelow B4.out.size (fun k hk e => by omega))) bs)
  clear hI5 hK5 hA5 hO5 HH I4 A4 D4 B4 bs hs3o
  unfold saidZ at I6 D6 B6 ⊢
  go_upto_region 7 with (fail)
  generalize w5.alloc (.cells #[.int .i64 0, .int .i64 0, .int .i64 0, .int .i64 0, .int .i64 0, .string ⟨#[]⟩, .slice none 0 0, .int .i64 0, .int .i64 0, .int .i64 0, .int .i64 0, .int .i64 0, .int .i64 0, .slice none 0 0, .slice none 0 0] 49) = w6 at *
  generalize headS s3 1 = s4 at *
  have HT := Lib.hid (tick_any g s4 [] w6 I6.out A6.out.bz hO5' (by rw [A6.out.tk]; decide))
  have hg6 := Cl.lt I6.out.a
  have hm6 : w.heap.size < w6.heap.size := by have := I6.out.M.lt; rw [A6.out.gn] at this; exact this
  go_wp2_with fail
  refine HT.out.mono ?_
  rintro e w7 ⟨v7, rv7, rfl, hI7, hO7, hK7⟩
  obtain ⟨hA7, hc7, hu7⟩ := A6.out.ticked v7
  rw [hc7, hu7] at hO7
  obtain ⟨b7, o7, p7, hv7, hB7, hr7⟩ := hO7.rd
  have hb7g : b7 ≠ g := by omega
  have hb7m : b7 ≠ w.heap.size := by omega
  have hO := Lib.hid (out_any g { tickS s4 with out := v7 } (some ⟨b7, o7, none⟩) 1 p7 hv7 w7 hI7.a)
  have k8 : Keeps (fun j => j = g) w7 (w7.setCell ⟨g, 28, none⟩ (.slice none 0 0)) := Keeps.setCell _ _ _ _ rfl
  have I8 := Lib.hid hI7.taken
  have A8 := Lib.hid (hA7.out (.slice none 0 0))
  have D8 := Lib.hid ((D6.out.keep hK7 hbg).keep k8 hbg)
  have E8 := Lib.hid (hr7.keep k8 hb7g)
  have B8 : Hid (Below w.heap.size w (w7.setCell ⟨g, 28, none⟩ (.slice none 0 0))) := (B6.out.trans (hK7.toBelow B6.out.size (fun k hk e => by omega))).trans (k8.toBelow (Nat.le_trans B6.out.size hK7.size) (fun k hk e => by omega))
  subst hv7
  clear hI7 hO7 hK7 hA7 hc7 hu7 hr7 k8 HT I6 A6 D6 B6
  go_wp2_with fail
  refine hO.out.mono ?_
  rintro e w8 ⟨rfl, rfl⟩
  generalize w7.setCell ⟨g, 28, none⟩ (.slice none 0 0) = w8 at *
  clear hO hO5'
  obtain ⟨s5, hs5⟩ : ∃ s5 : AgS, s5 = { ({ tickS s4 with out := .slice (some ⟨b7, o7, none⟩) 1 p7 } : AgS) with out := .slice none 0 0 } := ⟨_, rfl⟩
  rw [← hs5] at I8 A8
  clear hs5
  have HP := Lib.hid (hear_prod g s5 [] 2 5 0 w8 I8.out A8.out.bz A8.out.ck A8.out.cp (by rw [A8.out.s1]; decide))
  have CL := A8.out.cl
  have NN := A8.out.nn
  simp only [respC] at HP
  rw [CL, NN] at HP
  rw [show (10 : Int) + 2 = 12 from rfl] at HP
  have GN := A8.out.gn
  obtain ⟨rl0, hr1, hr2, hr3⟩ := id I8.out.cr
  obtain ⟨ar, cr, hcr⟩ := hr1.form
  generalize rl0.length = lr at hcr
  clear hr1 hr2 hr3
  go_wp2_with fail
  refine HP.out.mono ?_
  rintro e w9 ⟨rfl, hI9, hK9⟩
  simp only [saidC]
  rw [CL, NN, A8.out.ck, A8.out.cp, hcr]
  rw [GN] at hK9
  have hs9 : Cl (w9.alloc (.cells #[.int .i64 2, .int .i64 1, .int .i64 1, .int .i64 s5.call.off, .int .i64 s5.call.max, .string ⟨s5.call.group.toArray⟩, .slice ar lr cr, .int .i64 2, .int .i64 1, .int .i64 0, .int .i64 5, .int .i64 0, .int .i64 0, .slice none 0 0, .slice none 0 0] 49)) w9.heap.size [.int .i64 2, .int .i64 1, .int .i64 1, .int .i64 s5.call.off, .int .i64 s5.call.max, .string ⟨s5.call.group.toArray⟩, .slice ar lr cr, .int .i64 2, .int .i64 1, .int .i64 0, .int .i64 5, .int .i64 0, .int .i64 0, .slice none 0 0, .slice none 0 0] 49 := Cl.new w9 _ _
  have bs : Below w9.heap.size w9 (w9.alloc (.cells #[.int .i64 2, .int .i64 1, .int .i64 1, .int .i64 s5.call.off, .int .i64 s5.call.max, .string ⟨s5.call.group.toArray⟩, .slice ar lr cr, .int .i64 2, .int .i64 1, .int .i64 0, .int .i64 5, .int .i64 0, .int .i64 0, .slice none 0 0, .slice none 0 0] 49)) := (Below.refl _ _).alloc (Nat.le_refl _) _
  have I10 := Lib.hid (hI9.below bs)
  have D10 := Lib.hid ((D8.out.keep hK9 (fun e => e.elim hbg hbm)).keep (Keeps.below (fun _ => False) bs) id)
  have E10 := Lib.hid ((E8.out.keep hK9 (fun e => e.elim hb7g hb7m)).keep (Keeps.below (fun _ => False) bs) id)
  have B10 := Lib.hid (bt (B8.out.trans (hK9.toBelow B8.out.size (fun k hk e => by rcases e with e | e <;> omega))) bs)
  go_upto_region 10 with (fail)
  generalize w9.alloc (.cells #[.int .i64 2, .int .i64 1, .int .i64 1, .int .i64 s5.call.off, .int .i64 s5.call.max, .string ⟨s5.call.group.toArray⟩, .slice ar lr cr, .int .i64 2, .int .i64 1, .int .i64 0, .int .i64 5, .int .i64 0, .int .i64 0, .slice none 0 0, .slice none 0 0] 49) = w10 at *
  generalize w9.heap.size = p9 at *
  clear hI9 hK9 bs HP I8 A8 D8 E8 B8 CL NN GN
  have d1 := D10.out.2.1
  have d2 := D10.out.2.2
  have e1 := E10.out.2.1
  have e2 := E10.out.2.2
  have t0 := hs9.cell 0
  have t10 := hs9.cell 10
  simp only [List.getElem?_cons_zero, List.getElem?_cons_succ] at t0 t10
  have HB := Lib.hid (busy_any g _ w10 I10.out.a)
  clear hs9
  dsimp only at HB
  go_wp2_with fail
  refine HB.out.mono ?_
  rintro e w11 ⟨rfl, rfl⟩
  go_wp2
  go_ret
  exact ⟨rfl, B10.out⟩

end Go.Proofs.YtkjbhkillkbcgaaDoor
