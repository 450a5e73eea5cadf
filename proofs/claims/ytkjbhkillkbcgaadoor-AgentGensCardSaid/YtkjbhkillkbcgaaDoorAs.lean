/-
  AgentGens, walked (printed by wip/gen/mkags.py).
  Conditions: none but the model's longest length.
-/
import Derived.Test.YtkjbhkillkbcgaaDoorAn
import Derived.Test.YtkjbhkillkbcgaaDoorAl
import Derived.Test.YtkjbhkillkbcgaaDoorOi
set_option linter.unusedVariables false
set_option linter.unusedSimpArgs false
namespace Go.Proofs.YtkjbhkillkbcgaaDoor
open Go.RowKit

/-- A small number out of any. -/
def um (z : Int) (m : Nat) : Nat := ((z % 18446744073709551616) % (m : Int)).toNat
theorem um_lt (z : Int) {m : Nat} (h : 0 < m) : um z m < m := by
  unfold um
  have h1 := Int.emod_nonneg (z % 18446744073709551616) (show (m : Int) ≠ 0 by omega)
  have h2 := Int.emod_lt_of_pos (z % 18446744073709551616) (show (0 : Int) < m by omega)
  omega
theorem um_tmod (z : Int) {m : Nat} (h : 0 < m) : (IntKind.u64.wrap z).tmod (m : Int) = (um z m : Int) := by
  rw [IntKind.wrap_u64, Int.tmod_eq_emod_of_nonneg (by omega)]
  unfold um
  have h1 := Int.emod_nonneg (z % 18446744073709551616) (show (m : Int) ≠ 0 by omega)
  omega
theorem wrapN (n : Nat) (h : n ≤ 62914560) : wrap64 (n : Int) = n := by unfold wrap64; omega
theorem genL_same (gl : LM) (k : List UInt8) (n : Int) (h : 0 < n) : (lookI (genL gl k n) k).getD 0 = n := by rw [genL, if_pos h, lookI_same]; rfl
theorem genL_other (gl : LM) (k k' : List UInt8) (n : Int) (h : k' ≠ k) : (lookI (genL gl k n) k').getD 0 = (lookI gl k').getD 0 := by
  unfold genL
  split
  · rw [lookI_other _ _ h]
  · rfl
theorem genL_zero (gl : LM) (k : List UInt8) {n : Int} (h : ¬ 0 < n) : genL gl k n = gl := if_neg h
theorem AgI.other {w w' : World} {g p : Nat} {s : AgS} {gl : LM} (h : AgI w g s gl) (k : Keeps (fun j => j = p) w w') (hp : p ≠ g) (hm : p ≠ s.gens) (hr : ∀ j, s.req.recs.ownBlock = some j → j ≠ p) (hc : ∀ j, s.call.recs.ownBlock = some j → j ≠ p) : AgI w' g s gl := by
  obtain ⟨rl, h1, h2, h3⟩ := h.rr
  obtain ⟨cl, h4, h5, h6⟩ := h.cr
  exact { a := Cl.keep h.a k (fun e => hp e.symm), rr := ⟨rl, h1.keepT k (fun j hj e => hr j hj e), h2, h3⟩, cr := ⟨cl, h4.keepT k (fun j hj e => hc j hj e), h5, h6⟩, M := h.M.kept k (fun e => hm e.symm), gg := h.gg, cl := h.cl, nd := h.nd, cu := h.cu, kd := h.kd, nn := h.nn, sq := h.sq, tk := h.tk }
structure GenW (w0 W : World) (g pl pn : Nat) (c : Int) (s : AgS) (gl : LM) (l0 l1 n : Int) : Prop where
  I : AgI W g s gl
  b : s.busy = false
  o : s.out = .slice none 0 0
  cl : s.client = c
  num : s.n = n
  sq : s.s0 ≤ n
  L : Cl W pl [.int .i64 l0, .int .i64 l1] 53
  N : Cl W pn [.string ⟨#[103]⟩, .string ⟨#[104]⟩] 54
  g0 : (lookI gl [103]).getD 0 = l0
  g1 : (lookI gl [104]).getD 0 = l1
  ne : pl ≠ g ∧ pn ≠ g ∧ pl ≠ s.gens ∧ pn ≠ s.gens ∧ pl ≠ pn
  lo : w0.heap.size ≤ g ∧ w0.heap.size ≤ s.gens ∧ w0.heap.size ≤ pl ∧ w0.heap.size ≤ pn
  B : Below w0.heap.size w0 W
theorem GenW.below {w0 W W' : World} {g pl pn : Nat} {c l0 l1 n : Int} {s : AgS} {gl : LM} (h : GenW w0 W g pl pn c s gl l0 l1 n) (hb : Below W.heap.size W W') : GenW w0 W' g pl pn c s gl l0 l1 n :=
  ⟨h.I.below hb, h.b, h.o, h.cl, h.num, h.sq, Cl.below h.L hb, Cl.below h.N hb, h.g0, h.g1, h.ne, h.lo, bt h.B hb⟩
set_option maxRecDepth 20000 in
set_option maxHeartbeats 25600000 in
theorem gens_walk (HAW : ∀ w, Calls Tryd.prog 5 #[] w fun e w' => e = .returned (.bool true) ∧ Below w.heap.size w w') (v : Value) (zs : List Int) (c0 : Int) (w : World) (hz : Ints w v zs) (hl : zs.length ≤ maxLen) :
    Calls Tryd.prog 4 #[.int .i64 c0, v] w fun e w' => e = .returned (.bool true) ∧ Below w.heap.size w w' := by
  have HZ := Lib.hid hz
  have HAW2 := Lib.hid HAW
  clear HAW
  obtain ⟨a, cap, rfl, -⟩ := id hz
  clear hz
  unfold maxLen at hl
  obtain ⟨qc, hqc, tc, lc⟩ : ∃ q : Nat, wrap64 (q : Int) = q ∧ (IntKind.u64.wrap c0).tmod 4 = (q : Int) ∧ q < 4 := ⟨_, wrapN _ (by have := um_lt c0 (m := 4) (by omega); omega), um_tmod c0 (m := 4) (by omega), um_lt c0 (by omega)⟩
  go_enter Tryd.func4, Tryd.ntmps4
  go_wp2_with fail
  refine (HAW2.out w).mono ?_
  rintro e w1 ⟨rfl, hb1⟩
  have B1 := Lib.hid hb1
  clear hb1
  go_wp2_with fail
  refine (New_any (1 + (qc : Int)) 3 w1 ⟨by omega, by omega⟩ ⟨by omega, by omega⟩).mono ?_
  rintro e w2 ⟨g, rfl, hg, hI, hb2⟩
  have I2 := Lib.hid hI
  have B2 := Lib.hid (bt B1.out hb2)
  have hgl := Cl.lt hI.a
  have hml := hI.M.lt
  have hs1 := B1.out.size
  have hgm := hI.gg
  clear hI hb2 tc hqc
  have hsm : (newS (1 + (qc : Int)) 3 w1.heap.size).gens = w1.heap.size := rfl
  rw [hsm] at hml hgm
  have GW : Hid (GenW w ((w2.alloc (.cells #[.int .i64 0, .int .i64 0] 53)).alloc (.cells #[.string ⟨#[103]⟩, .string ⟨#[104]⟩] 54)) g w2.heap.size (w2.heap.size + 1) (1 + (qc : Int)) (newS (1 + (qc : Int)) 3 w1.heap.size) [] 0 0 0) := by
    have hb : Below w2.heap.size w2 ((w2.alloc (.cells #[.int .i64 0, .int .i64 0] 53)).alloc (.cells #[.string ⟨#[103]⟩, .string ⟨#[104]⟩] 54)) := ((Below.refl _ _).alloc (Nat.le_refl _) _).alloc (by simp) _
    have hN := Cl.new (w2.alloc (.cells #[.int .i64 0, .int .i64 0] 53)) [.string ⟨#[103]⟩, .string ⟨#[104]⟩] 54
    rw [World.size_alloc] at hN
    have hs2 := B2.out.size
    exact ⟨I2.out.below hb, rfl, rfl, rfl, rfl, Int.le_refl _, (Cl.new w2 _ _).alloc _, hN, rfl, rfl, ⟨by omega, by omega, by rw [hsm]; omega, by rw [hsm]; omega, by omega⟩, ⟨by omega, by rw [hsm]; omega, by omega, by omega⟩, bt B2.out hb⟩
  go_upto_region 9 with (fail)
  generalize (w2.alloc (.cells #[.int .i64 0, .int .i64 0] 53)).alloc (.cells #[.string ⟨#[103]⟩, .string ⟨#[104]⟩] 54) = w3 at *
  generalize w2.heap.size + 1 = pn at *
  generalize w2.heap.size = pl at *
  clear I2 B2

  go_wp2
  go_loopw [8, 9] (fun tn ti wr => ∃ (i : Nat) (s : AgS) (gl : LM) (l0 l1 : Int), ti = .int .i64 i ∧ i ≤ zs.length ∧ i ≤ 40 ∧ tn = .int .i64 (2 * (i : Int)) ∧ 0 ≤ l0 ∧ l0 ≤ 8 ∧ 0 ≤ l1 ∧ l1 ≤ 8 ∧ GenW w wr g pl pn (1 + (qc : Int)) s gl l0 l1 (2 * (i : Int))) (fun _ ti _ => zs.length - (intOf ti).toNat)
  case atStart => exact ⟨0, _, _, 0, 0, rfl, by omega, by omega, rfl, by omega, by omega, by omega, by omega, GW.out⟩
  case round =>
    obtain ⟨i, s, gl, l0, l1, rfl, hi, hi4, rfl, hl0, hl0', hl1, hl1', hG⟩ := hrel
    have HG := Lib.hid hG
    clear hG GW
    by_cases hgo : i < zs.length ∧ i < 40
    · obtain ⟨hil, hi40⟩ := hgo
      obtain ⟨a', cap', he, hcl⟩ := HZ.out
      obtain ⟨g9, off9, ha9, hg9, z0⟩ := hcl i hil
      injection he with e1 e2 e3
      subst e1 e3
      subst ha9
      have z1 : wr.cell? ⟨g9, off9 + i, none⟩ = some (.int .i64 (zs.getD i 0)) := (HG.out.B.cell (p := ⟨g9, off9 + i, none⟩) hg9).trans z0
      generalize zs.getD i 0 = z at *
      obtain ⟨qg, hqg, tg, lg⟩ : ∃ q : Nat, wrap64 (q : Int) = q ∧ (IntKind.u64.wrap z).tmod 9 = (q : Int) ∧ q < 9 := ⟨_, wrapN _ (by have := um_lt z (m := 9) (by omega); omega), um_tmod z (m := 9) (by omega), um_lt z (by omega)⟩
      have hk2 : (i : Int).tmod 2 = ((i % 2 : Nat) : Int) := by rw [Int.tmod_eq_emod_of_nonneg (by omega)]; rfl
      clear hcl e2 z0
      rcases Nat.mod_two_eq_zero_or_one i with hk | hk

      · rw [hk] at hk2
        go_upto_region 15 with (fail)
        have h37 : decide ((i : Int) < 40) = true := decide_eq_true (by omega)
        try simp only [h37]
        clear h37
        clear z1 tg hqg
        go_wp2
        go_loopw [8, 12] (fun tn tr wr2 => ∃ (r : Nat) (s2 : AgS) (gl2 : LM) (m0 m1 : Int), tr = .int .i64 r ∧ r ≤ 2 ∧ tn = .int .i64 (2 * (i : Int) + (r : Int)) ∧ 0 ≤ m0 ∧ m0 ≤ 8 ∧ 0 ≤ m1 ∧ m1 ≤ 8 ∧ GenW w wr2 g pl pn (1 + (qc : Int)) s2 gl2 m0 m1 (2 * (i : Int) + (r : Int))) (fun _ tr _ => 2 - (intOf tr).toNat)
        case atStart => exact ⟨0, s, gl, l0, l1, rfl, by omega, by simp, hl0, hl0', hl1, hl1', by simpa using HG.out⟩
        case round =>
          clear HG hl0 hl0' hl1 hl1'
          obtain ⟨r, s, gl, l0, l1, rfl, hr, rfl, hl0, hl0', hl1, hl1', hG⟩ := hrel
          have HG := Lib.hid hG
          clear hG
          rcases (show r = 0 ∨ r = 1 ∨ r = 2 by omega) with rfl | rfl | rfl
          · have n9 := HG.out.N.cell 0
            have l9 := HG.out.L.cell 0
            simp only [List.getElem?_cons_zero, List.getElem?_cons_succ] at n9 l9
            have CX : Hid (Cl (wr.alloc (.cells #[.int .i64 5, .int .i64 0, .int .i64 0, .int .i64 0, .string ⟨#[103]⟩, .slice none 0 0] 31)) wr.heap.size [.int .i64 5, .int .i64 0, .int .i64 0, .int .i64 0, .string ⟨#[103]⟩, .slice none 0 0] 31) := Cl.new wr _ _
            have BX : Hid (Below wr.heap.size wr (wr.alloc (.cells #[.int .i64 5, .int .i64 0, .int .i64 0, .int .i64 0, .string ⟨#[103]⟩, .slice none 0 0] 31))) := (Below.refl _ _).alloc (Nat.le_refl _) _
            go_upto_region 21 with (fail)
            generalize wr.alloc (.cells #[.int .i64 5, .int .i64 0, .int .i64 0, .int .i64 0, .string ⟨#[103]⟩, .slice none 0 0] 31) = w4 at *
            have G4 := Lib.hid (HG.out.below BX.out)
            clear HG BX n9 l9
            generalize wr.heap.size = px at *
            have x0 := CX.out.cell 0
            have x1 := CX.out.cell 1
            have x2 := CX.out.cell 2
            have x3 := CX.out.cell 3
            have x4 := CX.out.cell 4
            have x5 := CX.out.cell 5
            simp only [List.getElem?_cons_zero, List.getElem?_cons_succ] at x0 x1 x2 x3 x4 x5
            have HC := Lib.hid (call_beat g s gl [103] (by decide) (by simp [maxLen]) w4 G4.out.I G4.out.b G4.out.o (by have := G4.out.num; omega))
            unfold callV callC beatX at HC
            go_wp2_with fail
            refine HC.out.mono ?_
            rintro e w5 ⟨rv, rq, v5, rv2, rfl, hI5, hrq, hO5, hK5, hfr5⟩
            subst hrq
            obtain ⟨rl5, h51, h52, h53⟩ := id hI5.cr
            obtain ⟨a5, c5, e5⟩ := h51.form
            dsimp only at e5
            subst e5
            have FR5 := Lib.hid hfr5
            clear hfr5
            have hpl4 := Cl.lt G4.out.L
            obtain ⟨b5, o5, cp5, hv5, hB5, hlt5, hcells⟩ := hO5.read
            subst hv5
            have hcl := G4.out.cl
            have hnum : s.n = 2 * (i : Int) := by have := G4.out.num; simpa using this
            have hne := G4.out.ne
            have hlo := G4.out.lo
            have hglt := Cl.lt G4.out.I.a
            have hbg : b5 ≠ g := by omega
            have hmlt := G4.out.I.M.lt
            have hbm : b5 ≠ s.gens := by omega
            have K6 : Hid (Keeps (fun j => j = g) w4 (w5.setCell ⟨g, 28, none⟩ (.slice none 0 0))) := hK5.trans (Keeps.setCell _ _ _ _ rfl)
            have I6 := Lib.hid hI5.taken
            have kk : Keeps (fun j => j = g) w5 (w5.setCell ⟨g, 28, none⟩ (.slice none 0 0)) := Keeps.setCell _ _ _ _ rfl
            have m26 := (kk.cell (a := ⟨b5, o5 + 26, none⟩) hlt5 hbg).trans (hcells 26 _ rfl)
            have m27 := (kk.cell (a := ⟨b5, o5 + 27, none⟩) hlt5 hbg).trans (hcells 27 _ rfl)
            have m28 := (kk.cell (a := ⟨b5, o5 + 28, none⟩) hlt5 hbg).trans (hcells 28 _ rfl)
            have HOut := Lib.hid (out_any g _ (some ⟨b5, o5, none⟩) 1 cp5 rfl w5 hI5.a)
            have L6 := Lib.hid (Cl.keep G4.out.L K6.out hne.1)
            have N6 := Lib.hid (Cl.keep G4.out.N K6.out hne.2.1)
            have G0 := Lib.hid G4.out.g0
            have G1 := Lib.hid G4.out.g1
            have SQ4 := Lib.hid G4.out.sq
            have BB4 := Lib.hid G4.out.B
            have hlk := G4.out.g0
            rw [hlk] at m26
            rw [hcl] at m28
            clear hI5 hO5 hK5 h51 h52 h53 hcells kk HC G4 x0 x1 x2 x3 x4 x5 CX hlk
            go_wp2_with fail
            refine HOut.out.mono ?_
            rintro e w6 ⟨rfl, rfl⟩
            generalize w5.setCell ⟨g, 28, none⟩ (.slice none 0 0) = w6 at *
            clear HOut
            have l9 := L6.out.cell 0
            have n9 := N6.out.cell 0
            simp only [List.getElem?_cons_zero, List.getElem?_cons_succ] at l9 n9
            have hcut := str_cut (P := Tryd.prog) [48, 49, 50, 51, 52] (1 + qc) (2 + qc) (1 + (qc : Int)) (1 + (qc : Int) + 1) .i64 .i64 (by omega) (by omega) (by omega) (by simp; omega) 9 Tryd.underlying9
            have hdig : (([48, 49, 50, 51, 52] : List UInt8).take (2 + qc)).drop (1 + qc) = [dig (1 + (qc : Int))] := by
              rcases (show qc = 0 ∨ qc = 1 ∨ qc = 2 ∨ qc = 3 by omega) with rfl | rfl | rfl | rfl <;> rfl
            rw [hdig] at hcut
            have hmm := mem_dig (1 + (qc : Int))
            clear hdig
            go_wp2
            go_quiet (fail)
            have bq : Below w6.heap.size w6 (w6.drewN nq) := below_drewN (Below.refl _ _) nq
            have I7 := Lib.hid (I6.out.below bq)
            have L7 := Lib.hid (Cl.below L6.out bq)
            have N7 := Lib.hid (Cl.below N6.out bq)
            have K7 : Hid (Keeps (fun j => j = g) w4 (w6.drewN nq)) := K6.out.trans (Keeps.drewN _ _ _)
            generalize w6.drewN nq = w7 at *
            clear I6 L6 N6 K6 m26 m27 m28 l9 n9 hcut hmm bq
            have CR : Hid (Cl (w7.alloc (.cells #[.int .i64 (1 + (qc : Int)), .int .i64 (2 * (i : Int) + 1), .int .i64 0, .int .i64 0, .int .i64 0, .int .i64 (qg : Int), .slice none 0 0, .slice none 0 0] 45)) w7.heap.size [.int .i64 (1 + (qc : Int)), .int .i64 (2 * (i : Int) + 1), .int .i64 0, .int .i64 0, .int .i64 0, .int .i64 (qg : Int), .slice none 0 0, .slice none 0 0] 45) := Cl.new w7 _ _
            have br : Below w7.heap.size w7 (w7.alloc (.cells #[.int .i64 (1 + (qc : Int)), .int .i64 (2 * (i : Int) + 1), .int .i64 0, .int .i64 0, .int .i64 0, .int .i64 (qg : Int), .slice none 0 0, .slice none 0 0] 45)) := (Below.refl _ _).alloc (Nat.le_refl _) _
            have I8 := Lib.hid (I7.out.below br)
            have L8 := Lib.hid (Cl.below L7.out br)
            have N8 := Lib.hid (Cl.below N7.out br)
            have K8 : Hid (Keeps (fun j => j = g) w4 (w7.alloc (.cells #[.int .i64 (1 + (qc : Int)), .int .i64 (2 * (i : Int) + 1), .int .i64 0, .int .i64 0, .int .i64 0, .int .i64 (qg : Int), .slice none 0 0, .slice none 0 0] 45))) := K7.out.trans (Keeps.alloc _ _ _)
            go_upto_region 30 with (fail)
            generalize w7.alloc (.cells #[.int .i64 (1 + (qc : Int)), .int .i64 (2 * (i : Int) + 1), .int .i64 0, .int .i64 0, .int .i64 0, .int .i64 (qg : Int), .slice none 0 0, .slice none 0 0] 45) = w8 at *
            generalize w7.heap.size = pr at *
            clear I7 L7 N7 K7 br
            have r0 := CR.out.cell 0
            have r1 := CR.out.cell 1
            have r2 := CR.out.cell 2
            have r3 := CR.out.cell 3
            have r4 := CR.out.cell 4
            have r5 := CR.out.cell 5
            have r6 := CR.out.cell 6
            have r7 := CR.out.cell 7
            simp only [List.getElem?_cons_zero, List.getElem?_cons_succ] at r0 r1 r2 r3 r4 r5 r6 r7
            have HH := Lib.hid (hear_beat g _ gl 0 0 (qg : Int) w8 I8.out rfl rfl ⟨by omega, by omega⟩)
            simp only [respC] at HH
            rw [hcl, hnum] at HH
            go_wp2_with fail
            refine HH.out.mono ?_
            rintro e w9 ⟨rfl, hI9, hK9⟩
            simp only [saidC]
            try rw [hcl]
            try rw [hnum]
            have I9 := Lib.hid hI9
            have L9 := Lib.hid (Cl.keep L8.out hK9 (fun e => e.elim hne.1 hne.2.2.1))
            have N9 := Lib.hid (Cl.keep N8.out hK9 (fun e => e.elim hne.2.1 hne.2.2.2.1))
            have K9 : Hid (Keeps (fun j => j = g ∨ j = s.gens) w4 w9) := (K8.out.mono (fun _ _ e => .inl e)).trans hK9
            clear hI9 hK9 HH r0 r1 r2 r3 r4 r5 r6 r7 CR I8 L8 N8 K8
            have bs : Below w9.heap.size w9 (w9.alloc (.cells #[.int .i64 (1 + (qc : Int)), .int .i64 5, .int .i64 0, .int .i64 0, .int .i64 0, .string ⟨#[103]⟩, .slice a5 rl5.length c5, .int .i64 (1 + (qc : Int)), .int .i64 (2 * (i : Int) + 1), .int .i64 0, .int .i64 0, .int .i64 0, .int .i64 (qg : Int), .slice none 0 0, .slice none 0 0] 49)) := (Below.refl _ _).alloc (Nat.le_refl _) _
            have I10 := Lib.hid (I9.out.below bs)
            have L10 := Lib.hid (Cl.below L9.out bs)
            have N10 := Lib.hid (Cl.below N9.out bs)
            have K10 : Hid (Keeps (fun j => j = g ∨ j = s.gens) w4 (w9.alloc (.cells #[.int .i64 (1 + (qc : Int)), .int .i64 5, .int .i64 0, .int .i64 0, .int .i64 0, .string ⟨#[103]⟩, .slice a5 rl5.length c5, .int .i64 (1 + (qc : Int)), .int .i64 (2 * (i : Int) + 1), .int .i64 0, .int .i64 0, .int .i64 0, .int .i64 (qg : Int), .slice none 0 0, .slice none 0 0] 49))) := K9.out.trans (Keeps.alloc _ _ _)
            have BF : Hid (Below w.heap.size w (w9.alloc (.cells #[.int .i64 (1 + (qc : Int)), .int .i64 5, .int .i64 0, .int .i64 0, .int .i64 0, .string ⟨#[103]⟩, .slice a5 rl5.length c5, .int .i64 (1 + (qc : Int)), .int .i64 (2 * (i : Int) + 1), .int .i64 0, .int .i64 0, .int .i64 0, .int .i64 (qg : Int), .slice none 0 0, .slice none 0 0] 49))) := BB4.out.trans (K10.out.toBelow BB4.out.size (fun k hk e => by rcases e with e | e <;> omega))
            go_upto_region 33 with (fail)
            generalize w9.alloc (.cells #[.int .i64 (1 + (qc : Int)), .int .i64 5, .int .i64 0, .int .i64 0, .int .i64 0, .string ⟨#[103]⟩, .slice a5 rl5.length c5, .int .i64 (1 + (qc : Int)), .int .i64 (2 * (i : Int) + 1), .int .i64 0, .int .i64 0, .int .i64 0, .int .i64 (qg : Int), .slice none 0 0, .slice none 0 0] 49) = w10 at *
            clear I9 L9 N9 K9 bs
            by_cases hq : 0 < qg
            · have L11 := Lib.hid (Cl.set L10.out 0 (.int .i64 (qg : Int)))
              have KS : Keeps (fun j => j = pl) w10 (w10.setCell ⟨pl, 0, none⟩ (.int .i64 (qg : Int))) := Keeps.setCell _ _ _ _ rfl
              have I11 := Lib.hid (I10.out.other KS hne.1 hne.2.2.1 (fun j hj => by simp [Value.ownBlock] at hj) (fun j hj => by have := FR5.out j hj; omega))
              have N11 := Lib.hid (Cl.keep N10.out KS (fun e => hne.2.2.2.2 e.symm))
              have B11 : Hid (Below w.heap.size w (w10.setCell ⟨pl, 0, none⟩ (.int .i64 (qg : Int)))) := BF.out.trans (KS.toBelow BF.out.size (fun k hk e => by omega))
              have l9 := L10.out.cell 0
              have f9 := L10.out.free 0
              simp only [List.getElem?_cons_zero, List.getElem?_cons_succ] at l9
              simp only [List.set_cons_zero, List.set_cons_succ] at L11
              have GF := Lib.hid (GenW.mk (n := 2 * (i : Int) + 1) (c := 1 + (qc : Int)) I11.out rfl rfl (by first | rfl | exact hcl) (by first | rfl | (dsimp only; omega)) (by have := SQ4.out; dsimp only; omega) L11.out N11.out (genL_same gl [103] _ (by omega)) ((genL_other gl [103] [104] _ (by decide)).trans G1.out) hne hlo B11.out)
              clear KS L10 N10 I10 K10 BF L11 N11 I11 B11 G0 G1 FR5 SQ4 BB4
              go_wp2
              go_roundw
              case rel => exact ⟨1, _, _, (qg : Int), l1, rfl, by omega, by go_num, by omega, by omega, by omega, by omega, GF.out⟩
              case measure => simp [intOf]
            · have GF := Lib.hid (GenW.mk (n := 2 * (i : Int) + 1) (c := 1 + (qc : Int)) I10.out rfl rfl (by first | rfl | exact hcl) (by first | rfl | (dsimp only; omega)) (by have := SQ4.out; dsimp only; omega) L10.out N10.out (by rw [genL_zero _ _ (by omega)]; exact G0.out) (by rw [genL_zero _ _ (by omega)]; exact G1.out) hne hlo BF.out)
              clear L10 N10 I10 K10 BF G0 G1 FR5 SQ4 BB4
              go_wp2
              go_roundw
              case rel => exact ⟨1, _, _, l0, l1, rfl, by omega, by go_num, by omega, by omega, by omega, by omega, GF.out⟩
              case measure => simp [intOf]
          · have n9 := HG.out.N.cell 0
            have l9 := HG.out.L.cell 0
            simp only [List.getElem?_cons_zero, List.getElem?_cons_succ] at n9 l9
            have n9A := Cl.cell (Cl.alloc HG.out.N (.cells #[.int .i64 5, .int .i64 0, .int .i64 0, .int .i64 0, .string ⟨#[103]⟩, .slice none 0 0] 31)) 0
            simp only [List.getElem?_cons_zero, List.getElem?_cons_succ] at n9A
            have CX : Hid (Cl (wr.alloc (.cells #[.int .i64 6, .int .i64 1, .int .i64 (i : Int), .int .i64 0, .string ⟨#[103]⟩, .slice none 0 0] 31)) wr.heap.size [.int .i64 6, .int .i64 1, .int .i64 (i : Int), .int .i64 0, .string ⟨#[103]⟩, .slice none 0 0] 31) := Cl.new wr _ _
            have BX : Hid (Below wr.heap.size wr (wr.alloc (.cells #[.int .i64 6, .int .i64 1, .int .i64 (i : Int), .int .i64 0, .string ⟨#[103]⟩, .slice none 0 0] 31))) := (Below.refl _ _).alloc (Nat.le_refl _) _
            go_upto_region 21 with (fail)
            generalize wr.alloc (.cells #[.int .i64 6, .int .i64 1, .int .i64 (i : Int), .int .i64 0, .string ⟨#[103]⟩, .slice none 0 0] 31) = w4 at *
            clear n9A
            have G4 := Lib.hid (HG.out.below BX.out)
            clear HG BX n9 l9
            generalize wr.heap.size = px at *
            have x0 := CX.out.cell 0
            have x1 := CX.out.cell 1
            have x2 := CX.out.cell 2
            have x3 := CX.out.cell 3
            have x4 := CX.out.cell 4
            have x5 := CX.out.cell 5
            simp only [List.getElem?_cons_zero, List.getElem?_cons_succ] at x0 x1 x2 x3 x4 x5
            have HC := Lib.hid (call_commit g s gl [103] (i : Int) (by decide) (by simp [maxLen]) ⟨by omega, by omega⟩ w4 G4.out.I G4.out.b G4.out.o (by have := G4.out.num; omega))
            unfold callV callC commitX at HC
            go_wp2_with fail
            refine HC.out.mono ?_
            rintro e w5 ⟨rv, rq, v5, rv2, rfl, hI5, hrq, hO5, hK5, hfr5⟩
            subst hrq
            obtain ⟨rl5, h51, h52, h53⟩ := id hI5.cr
            obtain ⟨a5, c5, e5⟩ := h51.form
            dsimp only at e5
            subst e5
            have FR5 := Lib.hid hfr5
            clear hfr5
            have hpl4 := Cl.lt G4.out.L
            obtain ⟨b5, o5, cp5, hv5, hB5, hlt5, hcells⟩ := hO5.read
            subst hv5
            have hcl := G4.out.cl
            have hnum : s.n = 2 * (i : Int) + 1 := by have := G4.out.num; simpa using this
            have hne := G4.out.ne
            have hlo := G4.out.lo
            have hglt := Cl.lt G4.out.I.a
            have hbg : b5 ≠ g := by omega
            have hmlt := G4.out.I.M.lt
            have hbm : b5 ≠ s.gens := by omega
            have K6 : Hid (Keeps (fun j => j = g) w4 (w5.setCell ⟨g, 28, none⟩ (.slice none 0 0))) := hK5.trans (Keeps.setCell _ _ _ _ rfl)
            have I6 := Lib.hid hI5.taken
            have kk : Keeps (fun j => j = g) w5 (w5.setCell ⟨g, 28, none⟩ (.slice none 0 0)) := Keeps.setCell _ _ _ _ rfl
            have m26 := (kk.cell (a := ⟨b5, o5 + 26, none⟩) hlt5 hbg).trans (hcells 26 _ rfl)
            have m27 := (kk.cell (a := ⟨b5, o5 + 27, none⟩) hlt5 hbg).trans (hcells 27 _ rfl)
            have m28 := (kk.cell (a := ⟨b5, o5 + 28, none⟩) hlt5 hbg).trans (hcells 28 _ rfl)
            have HOut := Lib.hid (out_any g _ (some ⟨b5, o5, none⟩) 1 cp5 rfl w5 hI5.a)
            have L6 := Lib.hid (Cl.keep G4.out.L K6.out hne.1)
            have N6 := Lib.hid (Cl.keep G4.out.N K6.out hne.2.1)
            have G0 := Lib.hid G4.out.g0
            have G1 := Lib.hid G4.out.g1
            have SQ4 := Lib.hid G4.out.sq
            have BB4 := Lib.hid G4.out.B
            have hlk := G4.out.g0
            rw [hlk] at m26
            rw [hcl] at m28
            clear hI5 hO5 hK5 h51 h52 h53 hcells kk HC G4 x0 x1 x2 x3 x4 x5 CX hlk
            go_wp2_with fail
            refine HOut.out.mono ?_
            rintro e w6 ⟨rfl, rfl⟩
            generalize w5.setCell ⟨g, 28, none⟩ (.slice none 0 0) = w6 at *
            clear HOut
            have l9 := L6.out.cell 0
            have n9 := N6.out.cell 0
            simp only [List.getElem?_cons_zero, List.getElem?_cons_succ] at l9 n9
            have hcut := str_cut (P := Tryd.prog) [48, 49, 50, 51, 52] (1 + qc) (2 + qc) (1 + (qc : Int)) (1 + (qc : Int) + 1) .i64 .i64 (by omega) (by omega) (by omega) (by simp; omega) 9 Tryd.underlying9
            have hdig : (([48, 49, 50, 51, 52] : List UInt8).take (2 + qc)).drop (1 + qc) = [dig (1 + (qc : Int))] := by
              rcases (show qc = 0 ∨ qc = 1 ∨ qc = 2 ∨ qc = 3 by omega) with rfl | rfl | rfl | rfl <;> rfl
            rw [hdig] at hcut
            have hmm := mem_dig (1 + (qc : Int))
            clear hdig
            go_wp2
            go_quiet (fail)
            have bq : Below w6.heap.size w6 (w6.drewN nq) := below_drewN (Below.refl _ _) nq
            have I7 := Lib.hid (I6.out.below bq)
            have L7 := Lib.hid (Cl.below L6.out bq)
            have N7 := Lib.hid (Cl.below N6.out bq)
            have K7 : Hid (Keeps (fun j => j = g) w4 (w6.drewN nq)) := K6.out.trans (Keeps.drewN _ _ _)
            generalize w6.drewN nq = w7 at *
            clear I6 L6 N6 K6 m26 m27 m28 l9 n9 hcut hmm bq
            have CR : Hid (Cl (w7.alloc (.cells #[.int .i64 (1 + (qc : Int)), .int .i64 (2 * (i : Int) + 1 + 1), .int .i64 0, .int .i64 0, .int .i64 0, .int .i64 0, .slice none 0 0, .slice none 0 0] 45)) w7.heap.size [.int .i64 (1 + (qc : Int)), .int .i64 (2 * (i : Int) + 1 + 1), .int .i64 0, .int .i64 0, .int .i64 0, .int .i64 0, .slice none 0 0, .slice none 0 0] 45) := Cl.new w7 _ _
            have br : Below w7.heap.size w7 (w7.alloc (.cells #[.int .i64 (1 + (qc : Int)), .int .i64 (2 * (i : Int) + 1 + 1), .int .i64 0, .int .i64 0, .int .i64 0, .int .i64 0, .slice none 0 0, .slice none 0 0] 45)) := (Below.refl _ _).alloc (Nat.le_refl _) _
            have I8 := Lib.hid (I7.out.below br)
            have L8 := Lib.hid (Cl.below L7.out br)
            have N8 := Lib.hid (Cl.below N7.out br)
            have K8 : Hid (Keeps (fun j => j = g) w4 (w7.alloc (.cells #[.int .i64 (1 + (qc : Int)), .int .i64 (2 * (i : Int) + 1 + 1), .int .i64 0, .int .i64 0, .int .i64 0, .int .i64 0, .slice none 0 0, .slice none 0 0] 45))) := K7.out.trans (Keeps.alloc _ _ _)
            go_upto_region 30 with (fail)
            generalize w7.alloc (.cells #[.int .i64 (1 + (qc : Int)), .int .i64 (2 * (i : Int) + 1 + 1), .int .i64 0, .int .i64 0, .int .i64 0, .int .i64 0, .slice none 0 0, .slice none 0 0] 45) = w8 at *
            generalize w7.heap.size = pr at *
            clear I7 L7 N7 K7 br
            have r0 := CR.out.cell 0
            have r1 := CR.out.cell 1
            have r2 := CR.out.cell 2
            have r3 := CR.out.cell 3
            have r4 := CR.out.cell 4
            have r5 := CR.out.cell 5
            have r6 := CR.out.cell 6
            have r7 := CR.out.cell 7
            simp only [List.getElem?_cons_zero, List.getElem?_cons_succ] at r0 r1 r2 r3 r4 r5 r6 r7
            have HH := Lib.hid (hear_commit g _ gl 0 0 w8 I8.out rfl rfl (by have := SQ4.out; dsimp only; omega))
            simp only [respC] at HH
            rw [hcl, hnum] at HH
            go_wp2_with fail
            refine HH.out.mono ?_
            rintro e w9 ⟨rfl, hI9, hK9⟩
            simp only [saidC]
            try rw [hcl]
            try rw [hnum]
            have I9 := Lib.hid hI9
            have L9 := Lib.hid (Cl.keep L8.out hK9 (fun e => e.elim hne.1 hne.2.2.1))
            have N9 := Lib.hid (Cl.keep N8.out hK9 (fun e => e.elim hne.2.1 hne.2.2.2.1))
            have K9 : Hid (Keeps (fun j => j = g ∨ j = s.gens) w4 w9) := (K8.out.mono (fun _ _ e => .inl e)).trans hK9
            clear hI9 hK9 HH r0 r1 r2 r3 r4 r5 r6 r7 CR I8 L8 N8 K8
            have bs : Below w9.heap.size w9 (w9.alloc (.cells #[.int .i64 (1 + (qc : Int)), .int .i64 6, .int .i64 1, .int .i64 (i : Int), .int .i64 0, .string ⟨#[103]⟩, .slice a5 rl5.length c5, .int .i64 (1 + (qc : Int)), .int .i64 (2 * (i : Int) + 1 + 1), .int .i64 0, .int .i64 0, .int .i64 0, .int .i64 0, .slice none 0 0, .slice none 0 0] 49)) := (Below.refl _ _).alloc (Nat.le_refl _) _
            have I10 := Lib.hid (I9.out.below bs)
            have L10 := Lib.hid (Cl.below L9.out bs)
            have N10 := Lib.hid (Cl.below N9.out bs)
            have K10 : Hid (Keeps (fun j => j = g ∨ j = s.gens) w4 (w9.alloc (.cells #[.int .i64 (1 + (qc : Int)), .int .i64 6, .int .i64 1, .int .i64 (i : Int), .int .i64 0, .string ⟨#[103]⟩, .slice a5 rl5.length c5, .int .i64 (1 + (qc : Int)), .int .i64 (2 * (i : Int) + 1 + 1), .int .i64 0, .int .i64 0, .int .i64 0, .int .i64 0, .slice none 0 0, .slice none 0 0] 49))) := K9.out.trans (Keeps.alloc _ _ _)
            have BF : Hid (Below w.heap.size w (w9.alloc (.cells #[.int .i64 (1 + (qc : Int)), .int .i64 6, .int .i64 1, .int .i64 (i : Int), .int .i64 0, .string ⟨#[103]⟩, .slice a5 rl5.length c5, .int .i64 (1 + (qc : Int)), .int .i64 (2 * (i : Int) + 1 + 1), .int .i64 0, .int .i64 0, .int .i64 0, .int .i64 0, .slice none 0 0, .slice none 0 0] 49))) := BB4.out.trans (K10.out.toBelow BB4.out.size (fun k hk e => by rcases e with e | e <;> omega))
            go_upto_region 33 with (fail)
            generalize w9.alloc (.cells #[.int .i64 (1 + (qc : Int)), .int .i64 6, .int .i64 1, .int .i64 (i : Int), .int .i64 0, .string ⟨#[103]⟩, .slice a5 rl5.length c5, .int .i64 (1 + (qc : Int)), .int .i64 (2 * (i : Int) + 1 + 1), .int .i64 0, .int .i64 0, .int .i64 0, .int .i64 0, .slice none 0 0, .slice none 0 0] 49) = w10 at *
            clear I9 L9 N9 K9 bs
            have GF := Lib.hid (GenW.mk (n := 2 * (i : Int) + 2) (c := 1 + (qc : Int)) I10.out rfl rfl (by first | rfl | exact hcl) (by first | rfl | (dsimp only; omega)) (by have := SQ4.out; dsimp only; omega) L10.out N10.out G0.out G1.out hne hlo BF.out)
            clear L10 N10 I10 K10 BF G0 G1 FR5 SQ4 BB4
            go_wp2
            go_roundw
            case rel => exact ⟨2, _, _, l0, l1, rfl, by omega, by go_num, by omega, by omega, by omega, by omega, GF.out⟩
            case measure => simp [intOf]
          · go_wp2
            go_roundw
            case rel => exact ⟨i + 1, s, gl, l0, l1, by go_num, by omega, by omega, by go_num, hl0, hl0', hl1, hl1', by have := HG.out; simpa [Int.mul_add] using this⟩
            case measure => simp [intOf]; omega
      · rw [hk] at hk2
        go_upto_region 15 with (fail)
        have h37 : decide ((i : Int) < 40) = true := decide_eq_true (by omega)
        try simp only [h37]
        clear h37
        clear z1 tg hqg
        go_wp2
        go_loopw [8, 12] (fun tn tr wr2 => ∃ (r : Nat) (s2 : AgS) (gl2 : LM) (m0 m1 : Int), tr = .int .i64 r ∧ r ≤ 2 ∧ tn = .int .i64 (2 * (i : Int) + (r : Int)) ∧ 0 ≤ m0 ∧ m0 ≤ 8 ∧ 0 ≤ m1 ∧ m1 ≤ 8 ∧ GenW w wr2 g pl pn (1 + (qc : Int)) s2 gl2 m0 m1 (2 * (i : Int) + (r : Int))) (fun _ tr _ => 2 - (intOf tr).toNat)
        case atStart => exact ⟨0, s, gl, l0, l1, rfl, by omega, by simp, hl0, hl0', hl1, hl1', by simpa using HG.out⟩
        case round =>
          clear HG hl0 hl0' hl1 hl1'
          obtain ⟨r, s, gl, l0, l1, rfl, hr, rfl, hl0, hl0', hl1, hl1', hG⟩ := hrel
          have HG := Lib.hid hG
          clear hG
          rcases (show r = 0 ∨ r = 1 ∨ r = 2 by omega) with rfl | rfl | rfl
          · have n9 := HG.out.N.cell 1
            have l9 := HG.out.L.cell 1
            simp only [List.getElem?_cons_zero, List.getElem?_cons_succ] at n9 l9
            have CX : Hid (Cl (wr.alloc (.cells #[.int .i64 5, .int .i64 0, .int .i64 0, .int .i64 0, .string ⟨#[104]⟩, .slice none 0 0] 31)) wr.heap.size [.int .i64 5, .int .i64 0, .int .i64 0, .int .i64 0, .string ⟨#[104]⟩, .slice none 0 0] 31) := Cl.new wr _ _
            have BX : Hid (Below wr.heap.size wr (wr.alloc (.cells #[.int .i64 5, .int .i64 0, .int .i64 0, .int .i64 0, .string ⟨#[104]⟩, .slice none 0 0] 31))) := (Below.refl _ _).alloc (Nat.le_refl _) _
            go_upto_region 21 with (fail)
            generalize wr.alloc (.cells #[.int .i64 5, .int .i64 0, .int .i64 0, .int .i64 0, .string ⟨#[104]⟩, .slice none 0 0] 31) = w4 at *
            have G4 := Lib.hid (HG.out.below BX.out)
            clear HG BX n9 l9
            generalize wr.heap.size = px at *
            have x0 := CX.out.cell 0
            have x1 := CX.out.cell 1
            have x2 := CX.out.cell 2
            have x3 := CX.out.cell 3
            have x4 := CX.out.cell 4
            have x5 := CX.out.cell 5
            simp only [List.getElem?_cons_zero, List.getElem?_cons_succ] at x0 x1 x2 x3 x4 x5
            have HC := Lib.hid (call_beat g s gl [104] (by decide) (by simp [maxLen]) w4 G4.out.I G4.out.b G4.out.o (by have := G4.out.num; omega))
            unfold callV callC beatX at HC
            go_wp2_with fail
            refine HC.out.mono ?_
            rintro e w5 ⟨rv, rq, v5, rv2, rfl, hI5, hrq, hO5, hK5, hfr5⟩
            subst hrq
            obtain ⟨rl5, h51, h52, h53⟩ := id hI5.cr
            obtain ⟨a5, c5, e5⟩ := h51.form
            dsimp only at e5
            subst e5
            have FR5 := Lib.hid hfr5
            clear hfr5
            have hpl4 := Cl.lt G4.out.L
            obtain ⟨b5, o5, cp5, hv5, hB5, hlt5, hcells⟩ := hO5.read
            subst hv5
            have hcl := G4.out.cl
            have hnum : s.n = 2 * (i : Int) := by have := G4.out.num; simpa using this
            have hne := G4.out.ne
            have hlo := G4.out.lo
            have hglt := Cl.lt G4.out.I.a
            have hbg : b5 ≠ g := by omega
            have hmlt := G4.out.I.M.lt
            have hbm : b5 ≠ s.gens := by omega
            have K6 : Hid (Keeps (fun j => j = g) w4 (w5.setCell ⟨g, 28, none⟩ (.slice none 0 0))) := hK5.trans (Keeps.setCell _ _ _ _ rfl)
            have I6 := Lib.hid hI5.taken
            have kk : Keeps (fun j => j = g) w5 (w5.setCell ⟨g, 28, none⟩ (.slice none 0 0)) := Keeps.setCell _ _ _ _ rfl
            have m26 := (kk.cell (a := ⟨b5, o5 + 26, none⟩) hlt5 hbg).trans (hcells 26 _ rfl)
            have m27 := (kk.cell (a := ⟨b5, o5 + 27, none⟩) hlt5 hbg).trans (hcells 27 _ rfl)
            have m28 := (kk.cell (a := ⟨b5, o5 + 28, none⟩) hlt5 hbg).trans (hcells 28 _ rfl)
            have HOut := Lib.hid (out_any g _ (some ⟨b5, o5, none⟩) 1 cp5 rfl w5 hI5.a)
            have L6 := Lib.hid (Cl.keep G4.out.L K6.out hne.1)
            have N6 := Lib.hid (Cl.keep G4.out.N K6.out hne.2.1)
            have G0 := Lib.hid G4.out.g0
            have G1 := Lib.hid G4.out.g1
            have SQ4 := Lib.hid G4.out.sq
            have BB4 := Lib.hid G4.out.B
            have hlk := G4.out.g1
            rw [hlk] at m26
            rw [hcl] at m28
            clear hI5 hO5 hK5 h51 h52 h53 hcells kk HC G4 x0 x1 x2 x3 x4 x5 CX hlk
            go_wp2_with fail
            refine HOut.out.mono ?_
            rintro e w6 ⟨rfl, rfl⟩
            generalize w5.setCell ⟨g, 28, none⟩ (.slice none 0 0) = w6 at *
            clear HOut
            have l9 := L6.out.cell 1
            have n9 := N6.out.cell 1
            simp only [List.getElem?_cons_zero, List.getElem?_cons_succ] at l9 n9
            have hcut := str_cut (P := Tryd.prog) [48, 49, 50, 51, 52] (1 + qc) (2 + qc) (1 + (qc : Int)) (1 + (qc : Int) + 1) .i64 .i64 (by omega) (by omega) (by omega) (by simp; omega) 9 Tryd.underlying9
            have hdig : (([48, 49, 50, 51, 52] : List UInt8).take (2 + qc)).drop (1 + qc) = [dig (1 + (qc : Int))] := by
              rcases (show qc = 0 ∨ qc = 1 ∨ qc = 2 ∨ qc = 3 by omega) with rfl | rfl | rfl | rfl <;> rfl
            rw [hdig] at hcut
            have hmm := mem_dig (1 + (qc : Int))
            clear hdig
            go_wp2
            go_quiet (fail)
            have bq : Below w6.heap.size w6 (w6.drewN nq) := below_drewN (Below.refl _ _) nq
            have I7 := Lib.hid (I6.out.below bq)
            have L7 := Lib.hid (Cl.below L6.out bq)
            have N7 := Lib.hid (Cl.below N6.out bq)
            have K7 : Hid (Keeps (fun j => j = g) w4 (w6.drewN nq)) := K6.out.trans (Keeps.drewN _ _ _)
            generalize w6.drewN nq = w7 at *
            clear I6 L6 N6 K6 m26 m27 m28 l9 n9 hcut hmm bq
            have CR : Hid (Cl (w7.alloc (.cells #[.int .i64 (1 + (qc : Int)), .int .i64 (2 * (i : Int) + 1), .int .i64 0, .int .i64 0, .int .i64 0, .int .i64 (qg : Int), .slice none 0 0, .slice none 0 0] 45)) w7.heap.size [.int .i64 (1 + (qc : Int)), .int .i64 (2 * (i : Int) + 1), .int .i64 0, .int .i64 0, .int .i64 0, .int .i64 (qg : Int), .slice none 0 0, .slice none 0 0] 45) := Cl.new w7 _ _
            have br : Below w7.heap.size w7 (w7.alloc (.cells #[.int .i64 (1 + (qc : Int)), .int .i64 (2 * (i : Int) + 1), .int .i64 0, .int .i64 0, .int .i64 0, .int .i64 (qg : Int), .slice none 0 0, .slice none 0 0] 45)) := (Below.refl _ _).alloc (Nat.le_refl _) _
            have I8 := Lib.hid (I7.out.below br)
            have L8 := Lib.hid (Cl.below L7.out br)
            have N8 := Lib.hid (Cl.below N7.out br)
            have K8 : Hid (Keeps (fun j => j = g) w4 (w7.alloc (.cells #[.int .i64 (1 + (qc : Int)), .int .i64 (2 * (i : Int) + 1), .int .i64 0, .int .i64 0, .int .i64 0, .int .i64 (qg : Int), .slice none 0 0, .slice none 0 0] 45))) := K7.out.trans (Keeps.alloc _ _ _)
            go_upto_region 30 with (fail)
            generalize w7.alloc (.cells #[.int .i64 (1 + (qc : Int)), .int .i64 (2 * (i : Int) + 1), .int .i64 0, .int .i64 0, .int .i64 0, .int .i64 (qg : Int), .slice none 0 0, .slice none 0 0] 45) = w8 at *
            generalize w7.heap.size = pr at *
            clear I7 L7 N7 K7 br
            have r0 := CR.out.cell 0
            have r1 := CR.out.cell 1
            have r2 := CR.out.cell 2
            have r3 := CR.out.cell 3
            have r4 := CR.out.cell 4
            have r5 := CR.out.cell 5
            have r6 := CR.out.cell 6
            have r7 := CR.out.cell 7
            simp only [List.getElem?_cons_zero, List.getElem?_cons_succ] at r0 r1 r2 r3 r4 r5 r6 r7
            have HH := Lib.hid (hear_beat g _ gl 0 0 (qg : Int) w8 I8.out rfl rfl ⟨by omega, by omega⟩)
            simp only [respC] at HH
            rw [hcl, hnum] at HH
            go_wp2_with fail
            refine HH.out.mono ?_
            rintro e w9 ⟨rfl, hI9, hK9⟩
            simp only [saidC]
            try rw [hcl]
            try rw [hnum]
            have I9 := Lib.hid hI9
            have L9 := Lib.hid (Cl.keep L8.out hK9 (fun e => e.elim hne.1 hne.2.2.1))
            have N9 := Lib.hid (Cl.keep N8.out hK9 (fun e => e.elim hne.2.1 hne.2.2.2.1))
            have K9 : Hid (Keeps (fun j => j = g ∨ j = s.gens) w4 w9) := (K8.out.mono (fun _ _ e => .inl e)).trans hK9
            clear hI9 hK9 HH r0 r1 r2 r3 r4 r5 r6 r7 CR I8 L8 N8 K8
            have bs : Below w9.heap.size w9 (w9.alloc (.cells #[.int .i64 (1 + (qc : Int)), .int .i64 5, .int .i64 0, .int .i64 0, .int .i64 0, .string ⟨#[104]⟩, .slice a5 rl5.length c5, .int .i64 (1 + (qc : Int)), .int .i64 (2 * (i : Int) + 1), .int .i64 0, .int .i64 0, .int .i64 0, .int .i64 (qg : Int), .slice none 0 0, .slice none 0 0] 49)) := (Below.refl _ _).alloc (Nat.le_refl _) _
            have I10 := Lib.hid (I9.out.below bs)
            have L10 := Lib.hid (Cl.below L9.out bs)
            have N10 := Lib.hid (Cl.below N9.out bs)
            have K10 : Hid (Keeps (fun j => j = g ∨ j = s.gens) w4 (w9.alloc (.cells #[.int .i64 (1 + (qc : Int)), .int .i64 5, .int .i64 0, .int .i64 0, .int .i64 0, .string ⟨#[104]⟩, .slice a5 rl5.length c5, .int .i64 (1 + (qc : Int)), .int .i64 (2 * (i : Int) + 1), .int .i64 0, .int .i64 0, .int .i64 0, .int .i64 (qg : Int), .slice none 0 0, .slice none 0 0] 49))) := K9.out.trans (Keeps.alloc _ _ _)
            have BF : Hid (Below w.heap.size w (w9.alloc (.cells #[.int .i64 (1 + (qc : Int)), .int .i64 5, .int .i64 0, .int .i64 0, .int .i64 0, .string ⟨#[104]⟩, .slice a5 rl5.length c5, .int .i64 (1 + (qc : Int)), .int .i64 (2 * (i : Int) + 1), .int .i64 0, .int .i64 0, .int .i64 0, .int .i64 (qg : Int), .slice none 0 0, .slice none 0 0] 49))) := BB4.out.trans (K10.out.toBelow BB4.out.size (fun k hk e => by rcases e with e | e <;> omega))
            go_upto_region 33 with (fail)
            generalize w9.alloc (.cells #[.int .i64 (1 + (qc : Int)), .int .i64 5, .int .i64 0, .int .i64 0, .int .i64 0, .string ⟨#[104]⟩, .slice a5 rl5.length c5, .int .i64 (1 + (qc : Int)), .int .i64 (2 * (i : Int) + 1), .int .i64 0, .int .i64 0, .int .i64 0, .int .i64 (qg : Int), .slice none 0 0, .slice none 0 0] 49) = w10 at *
            clear I9 L9 N9 K9 bs
            by_cases hq : 0 < qg
            · have L11 := Lib.hid (Cl.set L10.out 1 (.int .i64 (qg : Int)))
              have KS : Keeps (fun j => j = pl) w10 (w10.setCell ⟨pl, 1, none⟩ (.int .i64 (qg : Int))) := Keeps.setCell _ _ _ _ rfl
              have I11 := Lib.hid (I10.out.other KS hne.1 hne.2.2.1 (fun j hj => by simp [Value.ownBlock] at hj) (fun j hj => by have := FR5.out j hj; omega))
              have N11 := Lib.hid (Cl.keep N10.out KS (fun e => hne.2.2.2.2 e.symm))
              have B11 : Hid (Below w.heap.size w (w10.setCell ⟨pl, 1, none⟩ (.int .i64 (qg : Int)))) := BF.out.trans (KS.toBelow BF.out.size (fun k hk e => by omega))
              have l9 := L10.out.cell 1
              have f9 := L10.out.free 1
              simp only [List.getElem?_cons_zero, List.getElem?_cons_succ] at l9
              simp only [List.set_cons_zero, List.set_cons_succ] at L11
              have GF := Lib.hid (GenW.mk (n := 2 * (i : Int) + 1) (c := 1 + (qc : Int)) I11.out rfl rfl (by first | rfl | exact hcl) (by first | rfl | (dsimp only; omega)) (by have := SQ4.out; dsimp only; omega) L11.out N11.out ((genL_other gl [104] [103] _ (by decide)).trans G0.out) (genL_same gl [104] _ (by omega)) hne hlo B11.out)
              clear KS L10 N10 I10 K10 BF L11 N11 I11 B11 G0 G1 FR5 SQ4 BB4
              go_wp2
              go_roundw
              case rel => exact ⟨1, _, _, l0, (qg : Int), rfl, by omega, by go_num, by omega, by omega, by omega, by omega, GF.out⟩
              case measure => simp [intOf]
            · have GF := Lib.hid (GenW.mk (n := 2 * (i : Int) + 1) (c := 1 + (qc : Int)) I10.out rfl rfl (by first | rfl | exact hcl) (by first | rfl | (dsimp only; omega)) (by have := SQ4.out; dsimp only; omega) L10.out N10.out (by rw [genL_zero _ _ (by omega)]; exact G0.out) (by rw [genL_zero _ _ (by omega)]; exact G1.out) hne hlo BF.out)
              clear L10 N10 I10 K10 BF G0 G1 FR5 SQ4 BB4
              go_wp2
              go_roundw
              case rel => exact ⟨1, _, _, l0, l1, rfl, by omega, by go_num, by omega, by omega, by omega, by omega, GF.out⟩
              case measure => simp [intOf]
          · have n9 := HG.out.N.cell 1
            have l9 := HG.out.L.cell 1
            simp only [List.getElem?_cons_zero, List.getElem?_cons_succ] at n9 l9
            have n9A := Cl.cell (Cl.alloc HG.out.N (.cells #[.int .i64 5, .int .i64 0, .int .i64 0, .int .i64 0, .string ⟨#[104]⟩, .slice none 0 0] 31)) 1
            simp only [List.getElem?_cons_zero, List.getElem?_cons_succ] at n9A
            have CX : Hid (Cl (wr.alloc (.cells #[.int .i64 6, .int .i64 1, .int .i64 (i : Int), .int .i64 0, .string ⟨#[104]⟩, .slice none 0 0] 31)) wr.heap.size [.int .i64 6, .int .i64 1, .int .i64 (i : Int), .int .i64 0, .string ⟨#[104]⟩, .slice none 0 0] 31) := Cl.new wr _ _
            have BX : Hid (Below wr.heap.size wr (wr.alloc (.cells #[.int .i64 6, .int .i64 1, .int .i64 (i : Int), .int .i64 0, .string ⟨#[104]⟩, .slice none 0 0] 31))) := (Below.refl _ _).alloc (Nat.le_refl _) _
            go_upto_region 21 with (fail)
            generalize wr.alloc (.cells #[.int .i64 6, .int .i64 1, .int .i64 (i : Int), .int .i64 0, .string ⟨#[104]⟩, .slice none 0 0] 31) = w4 at *
            clear n9A
            have G4 := Lib.hid (HG.out.below BX.out)
            clear HG BX n9 l9
            generalize wr.heap.size = px at *
            have x0 := CX.out.cell 0
            have x1 := CX.out.cell 1
            have x2 := CX.out.cell 2
            have x3 := CX.out.cell 3
            have x4 := CX.out.cell 4
            have x5 := CX.out.cell 5
            simp only [List.getElem?_cons_zero, List.getElem?_cons_succ] at x0 x1 x2 x3 x4 x5
            have HC := Lib.hid (call_commit g s gl [104] (i : Int) (by decide) (by simp [maxLen]) ⟨by omega, by omega⟩ w4 G4.out.I G4.out.b G4.out.o (by have := G4.out.num; omega))
            unfold callV callC commitX at HC
            go_wp2_with fail
            refine HC.out.mono ?_
            rintro e w5 ⟨rv, rq, v5, rv2, rfl, hI5, hrq, hO5, hK5, hfr5⟩
            subst hrq
            obtain ⟨rl5, h51, h52, h53⟩ := id hI5.cr
            obtain ⟨a5, c5, e5⟩ := h51.form
            dsimp only at e5
            subst e5
            have FR5 := Lib.hid hfr5
            clear hfr5
            have hpl4 := Cl.lt G4.out.L
            obtain ⟨b5, o5, cp5, hv5, hB5, hlt5, hcells⟩ := hO5.read
            subst hv5
            have hcl := G4.out.cl
            have hnum : s.n = 2 * (i : Int) + 1 := by have := G4.out.num; simpa using this
            have hne := G4.out.ne
            have hlo := G4.out.lo
            have hglt := Cl.lt G4.out.I.a
            have hbg : b5 ≠ g := by omega
            have hmlt := G4.out.I.M.lt
            have hbm : b5 ≠ s.gens := by omega
            have K6 : Hid (Keeps (fun j => j = g) w4 (w5.setCell ⟨g, 28, none⟩ (.slice none 0 0))) := hK5.trans (Keeps.setCell _ _ _ _ rfl)
            have I6 := Lib.hid hI5.taken
            have kk : Keeps (fun j => j = g) w5 (w5.setCell ⟨g, 28, none⟩ (.slice none 0 0)) := Keeps.setCell _ _ _ _ rfl
            have m26 := (kk.cell (a := ⟨b5, o5 + 26, none⟩) hlt5 hbg).trans (hcells 26 _ rfl)
            have m27 := (kk.cell (a := ⟨b5, o5 + 27, none⟩) hlt5 hbg).trans (hcells 27 _ rfl)
            have m28 := (kk.cell (a := ⟨b5, o5 + 28, none⟩) hlt5 hbg).trans (hcells 28 _ rfl)
            have HOut := Lib.hid (out_any g _ (some ⟨b5, o5, none⟩) 1 cp5 rfl w5 hI5.a)
            have L6 := Lib.hid (Cl.keep G4.out.L K6.out hne.1)
            have N6 := Lib.hid (Cl.keep G4.out.N K6.out hne.2.1)
            have G0 := Lib.hid G4.out.g0
            have G1 := Lib.hid G4.out.g1
            have SQ4 := Lib.hid G4.out.sq
            have BB4 := Lib.hid G4.out.B
            have hlk := G4.out.g1
            rw [hlk] at m26
            rw [hcl] at m28
            clear hI5 hO5 hK5 h51 h52 h53 hcells kk HC G4 x0 x1 x2 x3 x4 x5 CX hlk
            go_wp2_with fail
            refine HOut.out.mono ?_
            rintro e w6 ⟨rfl, rfl⟩
            generalize w5.setCell ⟨g, 28, none⟩ (.slice none 0 0) = w6 at *
            clear HOut
            have l9 := L6.out.cell 1
            have n9 := N6.out.cell 1
            simp only [List.getElem?_cons_zero, List.getElem?_cons_succ] at l9 n9
            have hcut := str_cut (P := Tryd.prog) [48, 49, 50, 51, 52] (1 + qc) (2 + qc) (1 + (qc : Int)) (1 + (qc : Int) + 1) .i64 .i64 (by omega) (by omega) (by omega) (by simp; omega) 9 Tryd.underlying9
            have hdig : (([48, 49, 50, 51, 52] : List UInt8).take (2 + qc)).drop (1 + qc) = [dig (1 + (qc : Int))] := by
              rcases (show qc = 0 ∨ qc = 1 ∨ qc = 2 ∨ qc = 3 by omega) with rfl | rfl | rfl | rfl <;> rfl
            rw [hdig] at hcut
            have hmm := mem_dig (1 + (qc : Int))
            clear hdig
            go_wp2
            go_quiet (fail)
            have bq : Below w6.heap.size w6 (w6.drewN nq) := below_drewN (Below.refl _ _) nq
            have I7 := Lib.hid (I6.out.below bq)
            have L7 := Lib.hid (Cl.below L6.out bq)
            have N7 := Lib.hid (Cl.below N6.out bq)
            have K7 : Hid (Keeps (fun j => j = g) w4 (w6.drewN nq)) := K6.out.trans (Keeps.drewN _ _ _)
            generalize w6.drewN nq = w7 at *
            clear I6 L6 N6 K6 m26 m27 m28 l9 n9 hcut hmm bq
            have CR : Hid (Cl (w7.alloc (.cells #[.int .i64 (1 + (qc : Int)), .int .i64 (2 * (i : Int) + 1 + 1), .int .i64 0, .int .i64 0, .int .i64 0, .int .i64 0, .slice none 0 0, .slice none 0 0] 45)) w7.heap.size [.int .i64 (1 + (qc : Int)), .int .i64 (2 * (i : Int) + 1 + 1), .int .i64 0, .int .i64 0, .int .i64 0, .int .i64 0, .slice none 0 0, .slice none 0 0] 45) := Cl.new w7 _ _
            have br : Below w7.heap.size w7 (w7.alloc (.cells #[.int .i64 (1 + (qc : Int)), .int .i64 (2 * (i : Int) + 1 + 1), .int .i64 0, .int .i64 0, .int .i64 0, .int .i64 0, .slice none 0 0, .slice none 0 0] 45)) := (Below.refl _ _).alloc (Nat.le_refl _) _
            have I8 := Lib.hid (I7.out.below br)
            have L8 := Lib.hid (Cl.below L7.out br)
            have N8 := Lib.hid (Cl.below N7.out br)
            have K8 : Hid (Keeps (fun j => j = g) w4 (w7.alloc (.cells #[.int .i64 (1 + (qc : Int)), .int .i64 (2 * (i : Int) + 1 + 1), .int .i64 0, .int .i64 0, .int .i64 0, .int .i64 0, .slice none 0 0, .slice none 0 0] 45))) := K7.out.trans (Keeps.alloc _ _ _)
            go_upto_region 30 with (fail)
            generalize w7.alloc (.cells #[.int .i64 (1 + (qc : Int)), .int .i64 (2 * (i : Int) + 1 + 1), .int .i64 0, .int .i64 0, .int .i64 0, .int .i64 0, .slice none 0 0, .slice none 0 0] 45) = w8 at *
            generalize w7.heap.size = pr at *
            clear I7 L7 N7 K7 br
            have r0 := CR.out.cell 0
            have r1 := CR.out.cell 1
            have r2 := CR.out.cell 2
            have r3 := CR.out.cell 3
            have r4 := CR.out.cell 4
            have r5 := CR.out.cell 5
            have r6 := CR.out.cell 6
            have r7 := CR.out.cell 7
            simp only [List.getElem?_cons_zero, List.getElem?_cons_succ] at r0 r1 r2 r3 r4 r5 r6 r7
            have HH := Lib.hid (hear_commit g _ gl 0 0 w8 I8.out rfl rfl (by have := SQ4.out; dsimp only; omega))
            simp only [respC] at HH
            rw [hcl, hnum] at HH
            go_wp2_with fail
            refine HH.out.mono ?_
            rintro e w9 ⟨rfl, hI9, hK9⟩
            simp only [saidC]
            try rw [hcl]
            try rw [hnum]
            have I9 := Lib.hid hI9
            have L9 := Lib.hid (Cl.keep L8.out hK9 (fun e => e.elim hne.1 hne.2.2.1))
            have N9 := Lib.hid (Cl.keep N8.out hK9 (fun e => e.elim hne.2.1 hne.2.2.2.1))
            have K9 : Hid (Keeps (fun j => j = g ∨ j = s.gens) w4 w9) := (K8.out.mono (fun _ _ e => .inl e)).trans hK9
            clear hI9 hK9 HH r0 r1 r2 r3 r4 r5 r6 r7 CR I8 L8 N8 K8
            have bs : Below w9.heap.size w9 (w9.alloc (.cells #[.int .i64 (1 + (qc : Int)), .int .i64 6, .int .i64 1, .int .i64 (i : Int), .int .i64 0, .string ⟨#[104]⟩, .slice a5 rl5.length c5, .int .i64 (1 + (qc : Int)), .int .i64 (2 * (i : Int) + 1 + 1), .int .i64 0, .int .i64 0, .int .i64 0, .int .i64 0, .slice none 0 0, .slice none 0 0] 49)) := (Below.refl _ _).alloc (Nat.le_refl _) _
            have I10 := Lib.hid (I9.out.below bs)
            have L10 := Lib.hid (Cl.below L9.out bs)
            have N10 := Lib.hid (Cl.below N9.out bs)
            have K10 : Hid (Keeps (fun j => j = g ∨ j = s.gens) w4 (w9.alloc (.cells #[.int .i64 (1 + (qc : Int)), .int .i64 6, .int .i64 1, .int .i64 (i : Int), .int .i64 0, .string ⟨#[104]⟩, .slice a5 rl5.length c5, .int .i64 (1 + (qc : Int)), .int .i64 (2 * (i : Int) + 1 + 1), .int .i64 0, .int .i64 0, .int .i64 0, .int .i64 0, .slice none 0 0, .slice none 0 0] 49))) := K9.out.trans (Keeps.alloc _ _ _)
            have BF : Hid (Below w.heap.size w (w9.alloc (.cells #[.int .i64 (1 + (qc : Int)), .int .i64 6, .int .i64 1, .int .i64 (i : Int), .int .i64 0, .string ⟨#[104]⟩, .slice a5 rl5.length c5, .int .i64 (1 + (qc : Int)), .int .i64 (2 * (i : Int) + 1 + 1), .int .i64 0, .int .i64 0, .int .i64 0, .int .i64 0, .slice none 0 0, .slice none 0 0] 49))) := BB4.out.trans (K10.out.toBelow BB4.out.size (fun k hk e => by rcases e with e | e <;> omega))
            go_upto_region 33 with (fail)
            generalize w9.alloc (.cells #[.int .i64 (1 + (qc : Int)), .int .i64 6, .int .i64 1, .int .i64 (i : Int), .int .i64 0, .string ⟨#[104]⟩, .slice a5 rl5.length c5, .int .i64 (1 + (qc : Int)), .int .i64 (2 * (i : Int) + 1 + 1), .int .i64 0, .int .i64 0, .int .i64 0, .int .i64 0, .slice none 0 0, .slice none 0 0] 49) = w10 at *
            clear I9 L9 N9 K9 bs
            have GF := Lib.hid (GenW.mk (n := 2 * (i : Int) + 2) (c := 1 + (qc : Int)) I10.out rfl rfl (by first | rfl | exact hcl) (by first | rfl | (dsimp only; omega)) (by have := SQ4.out; dsimp only; omega) L10.out N10.out G0.out G1.out hne hlo BF.out)
            clear L10 N10 I10 K10 BF G0 G1 FR5 SQ4 BB4
            go_wp2
            go_roundw
            case rel => exact ⟨2, _, _, l0, l1, rfl, by omega, by go_num, by omega, by omega, by omega, by omega, GF.out⟩
            case measure => simp [intOf]
          · go_wp2
            go_roundw
            case rel => exact ⟨i + 1, s, gl, l0, l1, by go_num, by omega, by omega, by go_num, hl0, hl0', hl1, hl1', by have := HG.out; simpa [Int.mul_add] using this⟩
            case measure => simp [intOf]; omega
    · have hgo3 : ¬ i < zs.length ∨ (i < zs.length ∧ ¬ i < 40) := by
        by_cases h : i < zs.length
        · right; exact ⟨h, fun h2 => hgo ⟨h, h2⟩⟩
        · exact .inl h
      clear hgo
      rcases hgo3 with hno | ⟨hyes, hno⟩
      all_goals
        go_wp2
        go_ret
        exact ⟨rfl, HG.out.B⟩


end Go.Proofs.YtkjbhkillkbcgaaDoor
