/-
  Crj: texts of one proof, one behind the other.
  Conditions: none of its own.
-/
import Derived.Test.YtjfpbeccpcbpcaaGreatDoorZbf
set_option linter.unusedVariables false
set_option linter.unusedSimpArgs false
set_option maxHeartbeats 60000000
set_option maxRecDepth 20000
namespace Go.Proofs.YtjfpbeccpcbpcaaGreatDoor
open Go.RowKit
theorem own_weak {w : World} {b b' : Nat} {e : TypeId} {size : Nat} {v : Value} {n : Nat} {xs : List Value} (h : w.ownsRow b e size v n xs) (hb : b' ≤ b) : w.ownsRow b' e size v n xs := by
 refine ⟨h.1, ?_⟩
 rcases h.2 with h2 | ⟨g, cap, cur, e1, hB, r⟩
 ·exact .inl h2
 ·exact .inr ⟨g, cap, cur, e1, Nat.le_trans hb hB, r⟩
def Uz (w : World) (p bb : Nat) (W : World) (l : List UInt8) (q : Bd.St) (cs : List Value) : Prop :=
 RU W p l q ∧ Kp w p W ∧ Cl W w.heap.size zeroCells 28 ∧ Cl W (w.heap.size + 1) zeroCells 28 ∧ Cl W bb cs 28 ∧ p = w.heap.size + 2 ∧ w.heap.size + 2 < bb
theorem Uz.call {w W W' : World} {p bb : Nat} {l : List UInt8} {q q' : Bd.St} {cs : List Value} (h : Uz w p bb W l q cs) (k : RUs W p l q' W') : Uz w p bb W' l q' cs := by
 obtain ⟨h1, h2, h3, h4, h5, h6, h7⟩ := h
 exact ⟨k.1, h2.trans (k.2.mono (fun j _ e => .inl e)), h3.keep k.2 (by omega), h4.keep k.2 (by omega), h5.keep k.2 (by omega), h6, h7⟩
theorem Uz.store {w W : World} {p bb : Nat} {l : List UInt8} {q : Bd.St} {cs : List Value} (h : Uz w p bb W l q cs) (k : Nat) (u : Value) : Uz w p bb (W.setCell ⟨bb, k, none⟩ u) l q (cs.set k u) := by
 obtain ⟨h1, h2, h3, h4, h5, h6, h7⟩ := h
 exact ⟨h1.keep (Keeps.setCell (fun j => j = bb) _ _ _ rfl) (by omega), h2.store _ _ (by simp only; omega), h3.other _ _ (by simp only; omega), h4.other _ _ (by simp only; omega), h5.set k u, h6, h7⟩
theorem Uz.other {w W : World} {p bb : Nat} {l : List UInt8} {q : Bd.St} {cs : List Value} (h : Uz w p bb W l q cs) (a : Addr) (u : Value) (ha : bb < a.block) : Uz w p bb (W.setCell a u) l q cs := by
 obtain ⟨h1, h2, h3, h4, h5, h6, h7⟩ := h
 exact ⟨h1.keep (Keeps.setCell (fun j => j = a.block) _ _ _ rfl) (by omega), h2.store _ _ (by omega), h3.other _ _ (by omega), h4.other _ _ (by omega), h5.other _ _ (by omega), h6, h7⟩
theorem Uz.keeps {w W W' : World} {p bb B : Nat} {l : List UInt8} {q : Bd.St} {cs : List Value} (h : Uz w p bb W l q cs) (k : Keeps (fun j => B ≤ j) W W') (hB : bb < B) : Uz w p bb W' l q cs := by
 obtain ⟨h1, h2, h3, h4, h5, h6, h7⟩ := h
 exact ⟨h1.keep k (by omega), Keeps.trans h2 (k.mono (fun j _ e => .inr (by have e2 : B ≤ j := e; omega))), h3.keep k (by omega), h4.keep k (by omega), h5.keep k (by omega), h6, h7⟩
theorem Uz.below {w W W' : World} {p bb : Nat} {l : List UInt8} {q : Bd.St} {cs : List Value} (h : Uz w p bb W l q cs) (k : Below W.heap.size W W') : Uz w p bb W' l q cs := by
 obtain ⟨h1, h2, h3, h4, h5, h6, h7⟩ := h
 exact ⟨h1.below k, h2.below k, h3.below k, h4.below k, h5.below k, h6, h7⟩
theorem Uz.bel {w W : World} {p bb : Nat} {l : List UInt8} {q : Bd.St} {cs : List Value} (h : Uz w p bb W l q cs) : Below w.heap.size w W := h.2.1.toBelow (Nat.le_refl _) (fun k hk e => by rcases e with e | e <;> (have := h.2.2.2.2.2.1; omega))
theorem rRecs_go (n : Nat) (acc : List Cr.Rec) (q : Bd.St) (hm : Bd.sMore q = true) (hl : acc.length < 9) : Cr.rRecs (n + 1) acc q = if (Cr.sRec q).2.1 then Cr.rRecs n (acc ++ [(Cr.sRec q).1]) (Cr.sRec q).2.2 else none := by
 rw [Cr.rRecs, if_pos (by rw [hm, decide_eq_true hl]; rfl)]
theorem rRecs_end (n : Nat) (acc : List Cr.Rec) (q : Bd.St) (h : Bd.sMore q = false ∨ 9 ≤ acc.length) : Cr.rRecs (n + 1) acc q = some (acc, q) := by
 rw [Cr.rRecs, if_neg]
 rcases h with h | h
 ·rw [h]; simp
 ·rw [decide_eq_false (by omega)]; simp
theorem mark_iff (g : Int) : (g == Cr.flag (g == 1)) = decide (0 ≤ g ∧ g ≤ 1) := by
 by_cases h1 : g = 1
 ·subst h1; rfl
 ·by_cases h0 : g = 0
  ·subst h0; rfl
  ·have e1 : (g == 1) = false := by simpa using h1
   rw [e1, show Cr.flag false = 0 from rfl, show (g == 0) = false from by simpa using h0, decide_eq_false (by omega)]
theorem own_far {w : World} {base x k : Nat} {e : TypeId} {size : Nat} {v : Value} {n : Nat} {xs : List Value} (h : w.ownsRow base e size v n xs) (u : Value) (hx : True) (hv : ∀ g', v.ownBlock = some g' → g' < x) : (w.setCell ⟨x, k, none⟩ u).ownsRow base e size v n xs := by
 have kp : Keeps (fun i => i = x) w (w.setCell ⟨x, k, none⟩ u) := Keeps.setCell _ _ _ _ rfl
 refine World.ownsRow.kept (row := some x) h ⟨kp.os, kp.tape, kp.output, kp.size, fun i hi hne => kp.block i hi (fun e => hne (by rw [e]))⟩ ?_
 rcases hq : v.ownBlock with _ | g
 ·exact .inl rfl
 ·right
  intro e
  have := hv g hq
  injection e with e
  omega
theorem refdecode_own (s : List UInt8) (hs : s.length < 4294967281) (w : World) :
  Calls Tryz.prog 72 #[.string ⟨s.toArray⟩] w (BatO w (Cr.dec s) 3) := by
 have hl : s.length ≤ 4294967296 := by omega
 have s1 := World.size_alloc w (.cells #[.int .i64 0, .int .i64 0, .int .i64 0, .int .i64 0, .int .i64 0, .slice none 0 0] 28)
 have s2 := World.size_alloc (w.alloc (.cells #[.int .i64 0, .int .i64 0, .int .i64 0, .int .i64 0, .int .i64 0, .slice none 0 0] 28)) (.cells #[.int .i64 0, .int .i64 0, .int .i64 0, .int .i64 0, .int .i64 0, .slice none 0 0] 28)
 have U0 : Hid (RU (((w.alloc (.cells #[.int .i64 0, .int .i64 0, .int .i64 0, .int .i64 0, .int .i64 0, .slice none 0 0] 28)).alloc (.cells #[.int .i64 0, .int .i64 0, .int .i64 0, .int .i64 0, .int .i64 0, .slice none 0 0] 28)).alloc (.cells #[.string ⟨s.toArray⟩, .int .i64 0, .bool false] 93)) (w.heap.size + 2) s (s, false)) := by
  have := RU.new s ((w.alloc (.cells #[.int .i64 0, .int .i64 0, .int .i64 0, .int .i64 0, .int .i64 0, .slice none 0 0] 28)).alloc (.cells #[.int .i64 0, .int .i64 0, .int .i64 0, .int .i64 0, .int .i64 0, .slice none 0 0] 28))
  rwa [s2, s1] at this
 have K0 : Hid (Kp w (w.heap.size + 2) (((w.alloc (.cells #[.int .i64 0, .int .i64 0, .int .i64 0, .int .i64 0, .int .i64 0, .slice none 0 0] 28)).alloc (.cells #[.int .i64 0, .int .i64 0, .int .i64 0, .int .i64 0, .int .i64 0, .slice none 0 0] 28)).alloc (.cells #[.string ⟨s.toArray⟩, .int .i64 0, .bool false] 93))) := ((Keeps.alloc _ _ _).trans (Keeps.alloc _ _ _)).trans (Keeps.alloc _ _ _)
 have R0 : Hid (Cl (((w.alloc (.cells #[.int .i64 0, .int .i64 0, .int .i64 0, .int .i64 0, .int .i64 0, .slice none 0 0] 28)).alloc (.cells #[.int .i64 0, .int .i64 0, .int .i64 0, .int .i64 0, .int .i64 0, .slice none 0 0] 28)).alloc (.cells #[.string ⟨s.toArray⟩, .int .i64 0, .bool false] 93)) w.heap.size zeroCells 28) := ((Cl.new w zeroCells 28).alloc _).alloc _
 have Z0 : Hid (Cl (((w.alloc (.cells #[.int .i64 0, .int .i64 0, .int .i64 0, .int .i64 0, .int .i64 0, .slice none 0 0] 28)).alloc (.cells #[.int .i64 0, .int .i64 0, .int .i64 0, .int .i64 0, .int .i64 0, .slice none 0 0] 28)).alloc (.cells #[.string ⟨s.toArray⟩, .int .i64 0, .bool false] 93)) (w.heap.size + 1) zeroCells 28) := by
  have := (Cl.new (w.alloc (.cells #[.int .i64 0, .int .i64 0, .int .i64 0, .int .i64 0, .int .i64 0, .slice none 0 0] 28)) zeroCells 28).alloc (.cells #[.string ⟨s.toArray⟩, .int .i64 0, .bool false] 93)
  rwa [s1] at this
 have HD : Hid (Cr.dec s = Cr.fin (Cr.sNums (Bd.sSign 108 (s, false))) (Cr.rRecs 11 [] (Cr.sNums (Bd.sSign 108 (s, false))).2.2.2.2.2)) := by
  rw [Hid, ← Cr.rdec_eq]
  rfl
 have HOP := hq' (refopen_any (w.heap.size + 2) s (s, false) _ hl U0.out)
 have hq : (Bd.sSign 108 (s, false)).1.length ≤ s.length := sSign_len 108 (s, false)
 generalize Bd.sSign 108 (s, false) = q at *
 rw [sNums_N] at HD
 clear s1 s2
 go_enter Tryz.func72, Tryz.ntmps72
 go_wp2_with fail
 refine HOP.out.mono ?_
 rintro e w1 ⟨rfl, h1⟩
 have hws := h1.1.lt
 have X1 : Hid (Uz w (w.heap.size + 2) w1.heap.size (w1.alloc (.cells #[.int .i64 0, .int .i64 0, .int .i64 0, .int .i64 0, .int .i64 0, .slice none 0 0] 28)) s (stN q 0) zeroCells) :=
  ⟨h1.1.keep (S := fun _ => False) (Keeps.alloc _ _ _) id, (K0.out.trans (h1.2.mono (fun j _ e => .inl e))).trans (Keeps.alloc _ _ _), (R0.out.keep h1.2 (by omega)).alloc _, (Z0.out.keep h1.2 (by omega)).alloc _, Cl.new _ _ _, rfl, hws⟩
 clear U0 K0 R0 Z0 HOP h1
 generalize hp : w.heap.size + 2 = p at *
 generalize hbb : w1.heap.size = bb at *
 have hq0 := stN_len q 5
 have HDN : Hid (Cr.rRecs 11 [] (stN q 5) = none → Cr.dec s = none) := fun h => by rw [HD.out, h]; rfl
 have HDS : Hid (∀ rs qz, Cr.rRecs 11 [] (stN q 5) = some (rs, qz) → Cr.dec s = if (decide (Bd.sDone (Bd.sSign 101 qz) = 0) && Cr.good ⟨vN q 0, vN q 1, vN q 2, vN q 3, vN q 4, rs⟩) then some ⟨vN q 0, vN q 1, vN q 2, vN q 3, vN q 4, rs⟩ else none) := fun rs qz h => by rw [HD.out, h]; rfl
 have HV : Hid (Bd.inR (vN q 0) ∧ Bd.inR (vN q 1) ∧ Bd.inR (vN q 2) ∧ Bd.inR (vN q 3) ∧ Bd.inR (vN q 4)) := ⟨sInt_inR _, sInt_inR _, sInt_inR _, sInt_inR _, sInt_inR _⟩
 clear HD
 have N0 : Hid (Calls Tryz.prog 68 #[.pointer (some ⟨p, 0, none⟩)] (w1.alloc (.cells #[.int .i64 0, .int .i64 0, .int .i64 0, .int .i64 0, .int .i64 0, .slice none 0 0] 28)) fun e w' => e = .returned (.int .i64 (vN q 0)) ∧ RUs (w1.alloc (.cells #[.int .i64 0, .int .i64 0, .int .i64 0, .int .i64 0, .int .i64 0, .slice none 0 0] 28)) p s (stN q 1) w') := refint_any p s (stN q 0) _ hl X1.out.1
 go_wp2_with fail
 refine N0.out.mono ?_
 rintro e wa ⟨rfl, ha⟩
 have Y := hq' (X1.out.call ha)
 clear ha X1 N0
 obtain ⟨c0, c1, c2, c3, c4, c5⟩ := Y.out.2.2.2.2.1.cell6
 have f0 := Y.out.2.2.2.2.1.free 0
 have X2 : Hid (Uz w p bb (wa.setCell ⟨bb, 0, none⟩ (.int .i64 (vN q 0))) s (stN q 1) [.int .i64 (vN q 0), .int .i64 0, .int .i64 0, .int .i64 0, .int .i64 0, .slice none 0 0]) := Y.out.store 0 _
 generalize vN q 0 = n0 at *
 go_upto_region 6 with (fail)
 clear c0 c1 c2 c3 c4 c5 f0 Y
 generalize wa.setCell ⟨bb, 0, none⟩ (.int .i64 n0) = w2 at *
 have N1 : Hid (Calls Tryz.prog 68 #[.pointer (some ⟨p, 0, none⟩)] w2 fun e w' => e = .returned (.int .i64 (vN q 1)) ∧ RUs w2 p s (stN q 2) w') := refint_any p s (stN q 1) _ hl X2.out.1
 go_wp2_with fail
 refine N1.out.mono ?_
 rintro e wa ⟨rfl, ha⟩
 have Y := hq' (X2.out.call ha)
 clear ha X2 N1
 obtain ⟨c0, c1, c2, c3, c4, c5⟩ := Y.out.2.2.2.2.1.cell6
 have f0 := Y.out.2.2.2.2.1.free 1
 have X3 : Hid (Uz w p bb (wa.setCell ⟨bb, 1, none⟩ (.int .i64 (vN q 1))) s (stN q 2) [.int .i64 n0, .int .i64 (vN q 1), .int .i64 0, .int .i64 0, .int .i64 0, .slice none 0 0]) := Y.out.store 1 _
 generalize vN q 1 = n1 at *
 go_upto_region 7 with (fail)
 clear c0 c1 c2 c3 c4 c5 f0 Y
 generalize wa.setCell ⟨bb, 1, none⟩ (.int .i64 n1) = w3 at *
 have N2 : Hid (Calls Tryz.prog 68 #[.pointer (some ⟨p, 0, none⟩)] w3 fun e w' => e = .returned (.int .i64 (vN q 2)) ∧ RUs w3 p s (stN q 3) w') := refint_any p s (stN q 2) _ hl X3.out.1
 go_wp2_with fail
 refine N2.out.mono ?_
 rintro e wa ⟨rfl, ha⟩
 have Y := hq' (X3.out.call ha)
 clear ha X3 N2
 obtain ⟨c0, c1, c2, c3, c4, c5⟩ := Y.out.2.2.2.2.1.cell6
 have f0 := Y.out.2.2.2.2.1.free 2
 have X4 : Hid (Uz w p bb (wa.setCell ⟨bb, 2, none⟩ (.int .i64 (vN q 2))) s (stN q 3) [.int .i64 n0, .int .i64 n1, .int .i64 (vN q 2), .int .i64 0, .int .i64 0, .slice none 0 0]) := Y.out.store 2 _
 generalize vN q 2 = n2 at *
 go_upto_region 8 with (fail)
 clear c0 c1 c2 c3 c4 c5 f0 Y
 generalize wa.setCell ⟨bb, 2, none⟩ (.int .i64 n2) = w4 at *
 have N3 : Hid (Calls Tryz.prog 68 #[.pointer (some ⟨p, 0, none⟩)] w4 fun e w' => e = .returned (.int .i64 (vN q 3)) ∧ RUs w4 p s (stN q 4) w') := refint_any p s (stN q 3) _ hl X4.out.1
 go_wp2_with fail
 refine N3.out.mono ?_
 rintro e wa ⟨rfl, ha⟩
 have Y := hq' (X4.out.call ha)
 clear ha X4 N3
 obtain ⟨c0, c1, c2, c3, c4, c5⟩ := Y.out.2.2.2.2.1.cell6
 have f0 := Y.out.2.2.2.2.1.free 3
 have X5 : Hid (Uz w p bb (wa.setCell ⟨bb, 3, none⟩ (.int .i64 (vN q 3))) s (stN q 4) [.int .i64 n0, .int .i64 n1, .int .i64 n2, .int .i64 (vN q 3), .int .i64 0, .slice none 0 0]) := Y.out.store 3 _
 generalize vN q 3 = n3 at *
 go_upto_region 9 with (fail)
 clear c0 c1 c2 c3 c4 c5 f0 Y
 generalize wa.setCell ⟨bb, 3, none⟩ (.int .i64 n3) = w5 at *
 have N4 : Hid (Calls Tryz.prog 68 #[.pointer (some ⟨p, 0, none⟩)] w5 fun e w' => e = .returned (.int .i64 (vN q 4)) ∧ RUs w5 p s (stN q 5) w') := refint_any p s (stN q 4) _ hl X5.out.1
 go_wp2_with fail
 refine N4.out.mono ?_
 rintro e wa ⟨rfl, ha⟩
 have Y := hq' (X5.out.call ha)
 clear ha X5 N4
 obtain ⟨c0, c1, c2, c3, c4, c5⟩ := Y.out.2.2.2.2.1.cell6
 have f0 := Y.out.2.2.2.2.1.free 4
 have X6 : Hid (Uz w p bb (wa.setCell ⟨bb, 4, none⟩ (.int .i64 (vN q 4))) s (stN q 5) [.int .i64 n0, .int .i64 n1, .int .i64 n2, .int .i64 n3, .int .i64 (vN q 4), .slice none 0 0]) := Y.out.store 4 _
 generalize vN q 4 = n4 at *
 go_upto_region 10 with (fail)
 clear c0 c1 c2 c3 c4 c5 f0 Y
 generalize wa.setCell ⟨bb, 4, none⟩ (.int .i64 n4) = w6 at *
 generalize stN q 5 = q5 at *
 have hB := X6.out.2.2.2.2.1.lt
 go_wp2_with fail
 go_loopw [32] (fun _ wr => ∃ (acc : List Cr.Rec) (qq : Bd.St) (v : Value), Uz w p bb wr s qq [.int .i64 n0, .int .i64 n1, .int .i64 n2, .int .i64 n3, .int .i64 n4, v] ∧ wr.ownsRow w6.heap.size 107 4 v acc.length (recCells acc) ∧ acc.length ≤ 9 ∧
  Cr.rRecs 11 [] q5 = Cr.rRecs (11 - acc.length) acc qq ∧ qq.1.length ≤ q5.1.length ∧ (∀ x ∈ acc, RecOk x) ∧ w6.heap.size ≤ wr.heap.size) (fun _ W => 10 - lenAt W bb)
 case atStart => exact ⟨[], q5, .slice none 0 0, X6.out, ⟨rfl, .inl ⟨rfl, rfl⟩⟩, by simp, rfl, Nat.le_refl _, by simp, Nat.le_refl _⟩
 case round =>
  obtain ⟨acc, qq, v, hrx, hown, hal, hsr, hql, hao, hbs⟩ := hrel
  have X7 := hq' hrx
  have O7 := hq' hown
  have HSR := hq' hsr
  have HAO := hq' hao
  have hpw1 : p < bb := by have := hrx.2.2.2.2.2; omega
  have hpw2 : w.heap.size < p := by have := hrx.2.2.2.2.2; omega
  obtain ⟨av, capv, hve⟩ : ∃ a c, v = .slice a acc.length c := by
   rcases hown.2 with ⟨rfl, h0⟩ | ⟨g, cap, cur, rfl, _⟩
   ·exact ⟨none, 0, by rw [h0]⟩
   ·exact ⟨_, _, rfl⟩
  subst hve
  have hn11 : 11 - acc.length = (10 - acc.length) + 1 := by omega
  rw [hn11] at HSR
  have HM := hq' (refmore_any p s qq wr hl X7.out.1)
  have HGO := hq' (rRecs_go (10 - acc.length) acc qq)
  have HEN := hq' (rRecs_end (10 - acc.length) acc qq)
  clear hrx hown hsr hao X6
  go_wp2_with fail
  refine HM.out.mono ?_
  rintro e w8 ⟨rfl, nm, rfl⟩
  have X8 := hq' (X7.out.below (below_drewN (Below.refl _ _) nm))
  have O8 := hq' (ownsRow_below O7.out (below_drewN (Below.refl _ _) nm))
  have HL0 := hq' (lenAt_of X7.out.2.2.2.2.1)
  have hs8 : w6.heap.size ≤ (wr.drewN nm).heap.size := hbs
  clear X7 O7 HM
  generalize wr.drewN nm = w8 at *
  obtain ⟨c0, c1, c2, c3, c4, c5⟩ := X8.out.2.2.2.2.1.cell6
  cases hm : Bd.sMore qq with
  | false =>
   have HEND := hq' (HEN.out (.inl hm))
   clear hm HGO HEN
   have HFN := hq' (HDS.out acc qq (by rw [HSR.out, HEND.out]))
   have HCL := hq' (fun W (h : RU W p s qq) => refclose_any p s qq W hl h)
   clear HSR HEND HDN HDS
   generalize Bd.sSign 101 qq = qa at *
   go_wp2_with fail
   refine (HCL.out _ X8.out.1).mono ?_
   rintro e w9 ⟨rfl, h9⟩
   have X9 := hq' (X8.out.call h9)
   have O9 := hq' (ownsRow_keeps O8.out h9.2 (by omega))
   clear h9 X8 O8 HCL c0 c1 c2 c3 c4 c5
   have HDN9 := hq' (refdone_any p s qa w9 hl X9.out.1)
   go_wp2_with fail
   refine HDN9.out.mono ?_
   rintro e wd ⟨rfl, nd, rfl⟩
   have XD := hq' (X9.out.below (below_drewN (Below.refl _ _) nd))
   have OD := hq' (ownsRow_below O9.out (below_drewN (Below.refl _ _) nd))
   clear X9 O9 HDN9
   generalize w9.drewN nd = wd at *
   obtain ⟨c0, c1, c2, c3, c4, c5⟩ := XD.out.2.2.2.2.1.cell6
   by_cases hd : Bd.sDone qa = 0
   ·have HG := hq' (refgood_any ⟨n0, n1, n2, n3, n4, acc⟩ ⟨HV.out.1, HV.out.2.1, HV.out.2.2.1, HV.out.2.2.2.1, HV.out.2.2.2.2, by unfold maxLen; show acc.length ≤ _; omega, HAO.out⟩ (.slice av acc.length capv) wd (Sl.ofOwn OD.out).recs)
    unfold batV at HG
    dsimp only at HG
    rw [decide_eq_true hd] at HFN
    rw [hd]
    cases hgd : Cr.good ⟨n0, n1, n2, n3, n4, acc⟩ with
    | true =>
     rw [hgd] at HG HFN
     clear hgd hd
     go_wp2_with fail
     refine HG.out.mono ?_
     rintro e wA ⟨rfl, hbA⟩
     have XA := hq' (XD.out.below hbA)
     have OA := hq' (ownsRow_below OD.out hbA)
     clear hbA XD OD HG c0 c1 c2 c3 c4 c5
     obtain ⟨c0, c1, c2, c3, c4, c5⟩ := XA.out.2.2.2.2.1.cell6
     obtain ⟨r0, r1, r2, r3, r4, r5⟩ := XA.out.2.2.1.cell6
     obtain ⟨rf0, rf1, rf2, rf3, rf4, rf5⟩ := XA.out.2.2.1.free6
     obtain ⟨z0, z1, z2, z3, z4, z5⟩ := XA.out.2.2.2.1.cell6
     go_wp2
     have V := (((((Cl.set XA.out.2.2.1 0 (.int .i64 n0)).set 1 (.int .i64 n1)).set 2 (.int .i64 n2)).set 3 (.int .i64 n3)).set 4 (.int .i64 n4)).set 5 (.slice av acc.length capv)
     have O := ownsRow_cell (ownsRow_cell (ownsRow_cell (ownsRow_cell (ownsRow_cell (ownsRow_cell OA.out ⟨w.heap.size, 0, none⟩ (.int .i64 n0) (by simp only; omega)) ⟨w.heap.size, 1, none⟩ (.int .i64 n1) (by simp only; omega)) ⟨w.heap.size, 2, none⟩ (.int .i64 n2) (by simp only; omega)) ⟨w.heap.size, 3, none⟩ (.int .i64 n3) (by simp only; omega)) ⟨w.heap.size, 4, none⟩ (.int .i64 n4) (by simp only; omega)) ⟨w.heap.size, 5, none⟩ (.slice av acc.length capv) (by simp only; omega)
     refine bodyPost_ret (results_cl_tmp rfl _ _ _ _ _ _ rfl V Tryz.underlying28 rfl (by kernel_rfl)) rfl ?_
     rw [HFN.out]
     exact ⟨.slice av acc.length capv, rfl, own_weak O (by omega), ⟨HV.out.1, HV.out.2.1, HV.out.2.2.1, HV.out.2.2.2.1, HV.out.2.2.2.2, by unfold maxLen; show acc.length ≤ _; omega, HAO.out⟩, (((((XA.out.bel.setCell (p := ⟨w.heap.size, 0, none⟩) (Nat.le_refl _) _).setCell (p := ⟨w.heap.size, 1, none⟩) (Nat.le_refl _) _).setCell (p := ⟨w.heap.size, 2, none⟩) (Nat.le_refl _) _).setCell (p := ⟨w.heap.size, 3, none⟩) (Nat.le_refl _) _).setCell (p := ⟨w.heap.size, 4, none⟩) (Nat.le_refl _) _).setCell (p := ⟨w.heap.size, 5, none⟩) (Nat.le_refl _) _⟩
    | false =>
     rw [hgd] at HG HFN
     clear hgd hd
     have HNO : Hid (Cr.dec s = none) := HFN.out
     go_wp2_with fail
     refine HG.out.mono ?_
     rintro e wA ⟨rfl, hbA⟩
     have XA := hq' (XD.out.below hbA)
     clear hbA XD OD HG c0 c1 c2 c3 c4 c5
     obtain ⟨r0, r1, r2, r3, r4, r5⟩ := XA.out.2.2.1.cell6
     obtain ⟨rf0, rf1, rf2, rf3, rf4, rf5⟩ := XA.out.2.2.1.free6
     obtain ⟨z0, z1, z2, z3, z4, z5⟩ := XA.out.2.2.2.1.cell6
     go_wp2
     have V := (((((Cl.set XA.out.2.2.1 0 (.int .i64 0)).set 1 (.int .i64 0)).set 2 (.int .i64 0)).set 3 (.int .i64 0)).set 4 (.int .i64 0)).set 5 (.slice none 0 0)
     refine bodyPost_ret (results_cl_tmp rfl _ _ _ _ _ _ rfl V Tryz.underlying28 rfl (by kernel_rfl)) rfl ?_
     rw [HNO.out]
     exact BatO.no ((((((XA.out.bel.setCell (p := ⟨w.heap.size, 0, none⟩) (Nat.le_refl _) _).setCell (p := ⟨w.heap.size, 1, none⟩) (Nat.le_refl _) _).setCell (p := ⟨w.heap.size, 2, none⟩) (Nat.le_refl _) _).setCell (p := ⟨w.heap.size, 3, none⟩) (Nat.le_refl _) _).setCell (p := ⟨w.heap.size, 4, none⟩) (Nat.le_refl _) _).setCell (p := ⟨w.heap.size, 5, none⟩) (Nat.le_refl _) _)
   ·have HNO : Hid (Cr.dec s = none) := by rw [Hid, HFN.out, decide_eq_false hd]; rfl
    have hd2 : (Bd.sDone qa != 0) = true := by simpa using hd
    generalize Bd.sDone qa = dn at *
    obtain ⟨r0, r1, r2, r3, r4, r5⟩ := XD.out.2.2.1.cell6
    obtain ⟨rf0, rf1, rf2, rf3, rf4, rf5⟩ := XD.out.2.2.1.free6
    obtain ⟨z0, z1, z2, z3, z4, z5⟩ := XD.out.2.2.2.1.cell6
    go_wp2
    have V := (((((Cl.set XD.out.2.2.1 0 (.int .i64 0)).set 1 (.int .i64 0)).set 2 (.int .i64 0)).set 3 (.int .i64 0)).set 4 (.int .i64 0)).set 5 (.slice none 0 0)
    refine bodyPost_ret (results_cl_tmp rfl _ _ _ _ _ _ rfl V Tryz.underlying28 rfl (by kernel_rfl)) rfl ?_
    rw [HNO.out]
    exact BatO.no ((((((XD.out.bel.setCell (p := ⟨w.heap.size, 0, none⟩) (Nat.le_refl _) _).setCell (p := ⟨w.heap.size, 1, none⟩) (Nat.le_refl _) _).setCell (p := ⟨w.heap.size, 2, none⟩) (Nat.le_refl _) _).setCell (p := ⟨w.heap.size, 3, none⟩) (Nat.le_refl _) _).setCell (p := ⟨w.heap.size, 4, none⟩) (Nat.le_refl _) _).setCell (p := ⟨w.heap.size, 5, none⟩) (Nat.le_refl _) _)
  | true =>
   by_cases hl9 : acc.length < 9
   ·have HS2 := hq' (HGO.out hm hl9)
    have hrl := sRec_len qq
    have HRO := hq' (sRec_ok qq (by omega))
    have HSD : Hid (Cr.sRec qq = (⟨(Bd.sInt (Bd.sSign 108 qq)).1, (Bd.sText 16 (Bd.sInt (Bd.sSign 108 qq)).2).1, (Bd.sText 64 (Bd.sText 16 (Bd.sInt (Bd.sSign 108 qq)).2).2).1, (Bd.sInt (Bd.sText 64 (Bd.sText 16 (Bd.sInt (Bd.sSign 108 qq)).2).2).2).1 == 1⟩, (Bd.sInt (Bd.sText 64 (Bd.sText 16 (Bd.sInt (Bd.sSign 108 qq)).2).2).2).1 == Cr.flag ((Bd.sInt (Bd.sText 64 (Bd.sText 16 (Bd.sInt (Bd.sSign 108 qq)).2).2).2).1 == 1), Bd.sSign 101 (Bd.sInt (Bd.sText 64 (Bd.sText 16 (Bd.sInt (Bd.sSign 108 qq)).2).2).2).2)) := rfl
    have HO1 := hq' (refopen_any p s qq w8 hl X8.out.1)
    clear hm HGO HEN HDS
    generalize Bd.sSign 108 qq = g1 at *
    generalize hi1 : Bd.sInt g1 = j1 at *
    obtain ⟨x0, g2⟩ := j1
    generalize hi2 : Bd.sText 16 g2 = j2 at *
    obtain ⟨xk, g3⟩ := j2
    generalize hi3 : Bd.sText 64 g3 = j3 at *
    obtain ⟨xv, g4⟩ := j3
    generalize hi4 : Bd.sInt g4 = j4 at *
    obtain ⟨gn, g5⟩ := j4
    generalize hi5 : Bd.sSign 101 g5 = g6 at *
    dsimp only at *
    have I1 := hq' hi1
    have I2 := hq' hi2
    have I3 := hq' hi3
    have I4 := hq' hi4
    have I5 := hq' hi5
    rw [HSD.out] at HS2 HRO hrl
    dsimp only at HS2 HRO hrl
    rw [mark_iff] at HS2
    clear hi1 hi2 hi3 hi4 hi5 HSD
    go_wp2_with fail
    refine HO1.out.mono ?_
    rintro e w9 ⟨rfl, h9⟩
    have X9 := hq' (X8.out.call h9)
    have O9 := hq' (ownsRow_keeps O8.out h9.2 (by omega))
    have hs9 := h9.2.size
    have XA := hq' (X9.out.below ((Below.refl _ _).alloc (Nat.le_refl _) (.cells #[.int .i64 0, .string ⟨#[]⟩, .string ⟨#[]⟩, .bool false] 107)))
    have OA := hq' (World.ownsRow.alloc O9.out (.cells #[.int .i64 0, .string ⟨#[]⟩, .string ⟨#[]⟩, .bool false] 107))
    have CA : Hid (Cl (w9.alloc (.cells #[.int .i64 0, .string ⟨#[]⟩, .string ⟨#[]⟩, .bool false] 107)) w9.heap.size [.int .i64 0, .string ⟨#[]⟩, .string ⟨#[]⟩, .bool false] 107) := Cl.new _ _ _
    have OLT := hq' (fun g' hv => (O9.out.lt g' hv).2)
    clear h9 X8 O8 X9 O9 HO1 c0 c1 c2 c3 c4 c5
    go_upto_region 13 with (fail)
    generalize w9.alloc (.cells #[.int .i64 0, .string ⟨#[]⟩, .string ⟨#[]⟩, .bool false] 107) = wA at *
    have hsA : w6.heap.size ≤ w9.heap.size := by omega
    have hxA := CA.out.lt
    have hxo : ∀ g', (Value.slice av acc.length capv).ownBlock = some g' → g' < w9.heap.size := fun g' hv => by
     have := OLT.out g' hv
     omega
    generalize w9.heap.size = xb at *
    have M := hq' (refint_any p s g1 _ hl XA.out.1)
    unfold RIV at M
    rw [I1.out] at M
    go_wp2_with fail
    refine M.out.mono ?_
    rintro e wb ⟨rfl, hb⟩
    have UB := hq' (XA.out.call hb)
    have OB := hq' (ownsRow_keeps OA.out hb.2 (by omega))
    have CB := hq' (CA.out.keep hb.2 (by omega))
    have hsb := hb.2.size
    clear hb XA OA CA M
    obtain ⟨t0, t1, t2, t3⟩ := CB.out.cell4
    have tf := CB.out.free 0
    have UC0 := hq' (UB.out.other ⟨xb, 0, none⟩ (.int .i64 x0) (by simp only; omega))
    have CC0 : Hid (Cl (wb.setCell ⟨xb, 0, none⟩ (.int .i64 x0)) xb [.int .i64 x0, .string ⟨#[]⟩, .string ⟨#[]⟩, .bool false] 107) := CB.out.set 0 _
    have OC0 : Hid ((wb.setCell ⟨xb, 0, none⟩ (.int .i64 x0)).ownsRow w6.heap.size 107 4 (.slice av acc.length capv) acc.length (recCells acc)) := own_far OB.out _ trivial hxo
    have hz0 : (wb.setCell ⟨xb, 0, none⟩ (.int .i64 x0)).heap.size = wb.heap.size := by simp [World.setCell]
    go_upto_region 14 with (fail)
    clear UB OB CB t0 t1 t2 t3 tf
    generalize wb.setCell ⟨xb, 0, none⟩ (.int .i64 x0) = wc0 at *
    have hzz0 : xb < wc0.heap.size := CC0.out.lt
    clear hsb hz0
    have M := hq' (reftext_any p 16 (by omega) (by omega) s g2 _ hl UC0.out.1)
    unfold RTV at M
    rw [I2.out] at M
    go_wp2_with fail
    refine M.out.mono ?_
    rintro e wb ⟨rfl, hb⟩
    have UB := hq' (UC0.out.call hb)
    have OB := hq' (ownsRow_keeps OC0.out hb.2 (by omega))
    have CB := hq' (CC0.out.keep hb.2 (by omega))
    have hsb := hb.2.size
    clear hb UC0 OC0 CC0 M
    obtain ⟨t0, t1, t2, t3⟩ := CB.out.cell4
    have tf := CB.out.free 1
    have UC1 := hq' (UB.out.other ⟨xb, 1, none⟩ (.string ⟨xk.toArray⟩) (by simp only; omega))
    have CC1 : Hid (Cl (wb.setCell ⟨xb, 1, none⟩ (.string ⟨xk.toArray⟩)) xb [.int .i64 x0, .string ⟨xk.toArray⟩, .string ⟨#[]⟩, .bool false] 107) := CB.out.set 1 _
    have OC1 : Hid ((wb.setCell ⟨xb, 1, none⟩ (.string ⟨xk.toArray⟩)).ownsRow w6.heap.size 107 4 (.slice av acc.length capv) acc.length (recCells acc)) := own_far OB.out _ trivial hxo
    have hz1 : (wb.setCell ⟨xb, 1, none⟩ (.string ⟨xk.toArray⟩)).heap.size = wb.heap.size := by simp [World.setCell]
    go_upto_region 15 with (fail)
    clear UB OB CB t0 t1 t2 t3 tf
    generalize wb.setCell ⟨xb, 1, none⟩ (.string ⟨xk.toArray⟩) = wc1 at *
    have hzz1 : xb < wc1.heap.size := CC1.out.lt
    clear hsb hz1
    have M := hq' (reftext_any p 64 (by omega) (by omega) s g3 _ hl UC1.out.1)
    unfold RTV at M
    rw [I3.out] at M
    go_wp2_with fail
    refine M.out.mono ?_
    rintro e wb ⟨rfl, hb⟩
    have UB := hq' (UC1.out.call hb)
    have OB := hq' (ownsRow_keeps OC1.out hb.2 (by omega))
    have CB := hq' (CC1.out.keep hb.2 (by omega))
    have hsb := hb.2.size
    clear hb UC1 OC1 CC1 M
    obtain ⟨t0, t1, t2, t3⟩ := CB.out.cell4
    have tf := CB.out.free 2
    have UC2 := hq' (UB.out.other ⟨xb, 2, none⟩ (.string ⟨xv.toArray⟩) (by simp only; omega))
    have CC2 : Hid (Cl (wb.setCell ⟨xb, 2, none⟩ (.string ⟨xv.toArray⟩)) xb [.int .i64 x0, .string ⟨xk.toArray⟩, .string ⟨xv.toArray⟩, .bool false] 107) := CB.out.set 2 _
    have OC2 : Hid ((wb.setCell ⟨xb, 2, none⟩ (.string ⟨xv.toArray⟩)).ownsRow w6.heap.size 107 4 (.slice av acc.length capv) acc.length (recCells acc)) := own_far OB.out _ trivial hxo
    have hz2 : (wb.setCell ⟨xb, 2, none⟩ (.string ⟨xv.toArray⟩)).heap.size = wb.heap.size := by simp [World.setCell]
    go_upto_region 16 with (fail)
    clear UB OB CB t0 t1 t2 t3 tf
    generalize wb.setCell ⟨xb, 2, none⟩ (.string ⟨xv.toArray⟩) = wc2 at *
    have hzz2 : xb < wc2.heap.size := CC2.out.lt
    clear hsb hz2
    have M := hq' (refint_any p s g4 _ hl UC2.out.1)
    unfold RIV at M
    rw [I4.out] at M
    go_wp2_with fail
    refine M.out.mono ?_
    rintro e wb ⟨rfl, hb⟩
    have UB := hq' (UC2.out.call hb)
    have OB := hq' (ownsRow_keeps OC2.out hb.2 (by omega))
    have CB := hq' (CC2.out.keep hb.2 (by omega))
    clear hb UC2 OC2 CC2 M
    have M := hq' (refclose_any p s g5 _ hl UB.out.1)
    rw [I5.out] at M
    go_wp2_with fail
    refine M.out.mono ?_
    rintro e wd ⟨rfl, hd⟩
    have UD := hq' (UB.out.call hd)
    have OD := hq' (ownsRow_keeps OB.out hd.2 (by omega))
    have CD := hq' (CB.out.keep hd.2 (by omega))
    clear hd UB OB CB M
    obtain ⟨t0, t1, t2, t3⟩ := CD.out.cell4
    have tf := CD.out.free 3
    have UE := hq' (UD.out.other ⟨xb, 3, none⟩ (.bool (gn == 1)) (by simp only; omega))
    have CE : Hid (Cl (wd.setCell ⟨xb, 3, none⟩ (.bool (gn == 1))) xb [.int .i64 x0, .string ⟨xk.toArray⟩, .string ⟨xv.toArray⟩, .bool (gn == 1)] 107) := CD.out.set 3 _
    have OE : Hid ((wd.setCell ⟨xb, 3, none⟩ (.bool (gn == 1))).ownsRow w6.heap.size 107 4 (.slice av acc.length capv) acc.length (recCells acc)) := own_far OD.out _ trivial hxo
    go_upto_region 19 with (fail)
    clear UD OD CD t0 t1 t2 t3 tf
    generalize wd.setCell ⟨xb, 3, none⟩ (.bool (gn == 1)) = we at *
    have hxe := CE.out.lt
    obtain ⟨t0, t1, t2, t3⟩ := CE.out.cell4
    obtain ⟨c0, c1, c2, c3, c4, c5⟩ := UE.out.2.2.2.2.1.cell6
    by_cases hgn : 0 ≤ gn ∧ gn ≤ 1
    ·have HS3 : Hid (Cr.rRecs 11 [] q5 = Cr.rRecs (10 - acc.length) (acc ++ [⟨x0, xk, xv, gn == 1⟩]) g6) := by rw [Hid, HSR.out, HS2.out, decide_eq_true hgn]; rfl
     obtain ⟨hgn0, hgn1⟩ := hgn
     generalize (gn == 1) = gb at *
     obtain ⟨i0, hi, hz0, hz1, hz2⟩ := info_parts recInfo
     have hone : ∀ u ∈ [Value.int .i64 x0, .string ⟨xk.toArray⟩, .string ⟨xv.toArray⟩, .bool gb], u.oneCell' = true := by simp [Value.oneCell']
     have hba : w6.heap.size ≤ we.heap.size := by omega
     clear HS2 HSR
     go_wp2_with (at_builtin; refine wpList_append_own _ rfl (.tmp 66) (.tmp 68) 26 rfl w6.heap.size 107 i0 _ 4 48 Tryz.underlying26 hi hz0 hz1 hz2 rfl (by decide) _ _ _ rfl (World.ownsRow.alloc OE.out _) ⟨we.heap.size, 0, none⟩ 1 1 [.int .i64 x0, .string ⟨xk.toArray⟩, .string ⟨xv.toArray⟩, .bool gb] rfl rfl (World.news_of_block (cs := #[.int .i64 x0, .string ⟨xk.toArray⟩, .string ⟨xv.toArray⟩, .bool gb]) (t := 107) (fr := (0, 0)) (heap_alloc_new we _)) hone ?_ ?_ ?_ ?_)
     ·unfold maxLen; omega
     ·omega
     ·first | omega | (rw [World.size_alloc]; omega) | (simp; omega)
     intro v' wB hownB hgB _
     have OB : Hid (wB.ownsRow w6.heap.size 107 4 v' (acc ++ [(⟨x0, xk, xv, gb⟩ : Cr.Rec)]).length (recCells (acc ++ [⟨x0, xk, xv, gb⟩]))) := by
      rw [Hid, recCells_app, List.length_append]
      exact hownB
     have KB : Hid (Keeps (fun j => w6.heap.size ≤ j) we wB) := (Keeps.alloc _ _ _).trans (Keeps.grown hgB (fun j hj => (OE.out.lt j hj).1))
     have XB := hq' (UE.out.keeps KB.out hB)
     have hsB := KB.out.size
     obtain ⟨av', capv', hve'⟩ : ∃ a c, v' = .slice a (acc.length + 1) c := by
      rcases hownB.2 with ⟨_, h0⟩ | ⟨g, cap, cur, rfl, _⟩
      ·omega
      ·exact ⟨_, _, rfl⟩
     subst hve'
     clear hownB hgB KB c0 c1 c2 c3 c4 c5 t0 t1 t2 t3 UE OE CE
     obtain ⟨c0, c1, c2, c3, c4, c5⟩ := XB.out.2.2.2.2.1.cell6
     have f5 := XB.out.2.2.2.2.1.free 5
     have XC : Hid (Uz w p bb (wB.setCell ⟨bb, 5, none⟩ (.slice av' (acc.length + 1) capv')) s g6 [.int .i64 n0, .int .i64 n1, .int .i64 n2, .int .i64 n3, .int .i64 n4, .slice av' (acc.length + 1) capv']) := XB.out.store 5 _
     have OC := hq' (ownsRow_cell OB.out ⟨bb, 5, none⟩ (.slice av' (acc.length + 1) capv') hB)
     have hsC : w6.heap.size ≤ (wB.setCell ⟨bb, 5, none⟩ (.slice av' (acc.length + 1) capv')).heap.size := by
      have : (wB.setCell ⟨bb, 5, none⟩ (.slice av' (acc.length + 1) capv')).heap.size = wB.heap.size := by simp [World.setCell]
      omega
     have HL1 := hq' (lenAt_of XC.out.2.2.2.2.1)
     go_wp2
     go_roundw
     case rel =>
      refine ⟨acc ++ [(⟨x0, xk, xv, gb⟩ : Cr.Rec)], g6, _, XC.out, OC.out, by rw [List.length_append, List.length_singleton]; omega, ?_, by omega, ?_, hsC⟩
      ·rw [HS3.out, List.length_append, List.length_singleton, show 11 - (acc.length + 1) = 10 - acc.length by omega]
      ·intro y hy
       rcases List.mem_append.1 hy with hy | hy
       ·exact HAO.out y hy
       ·rw [List.mem_singleton.1 hy]; exact HRO.out
     case measure =>
      rw [HL1.out, HL0.out]
      omega
    ·have HNO : Hid (Cr.dec s = none) := HDN.out (by rw [HSR.out, HS2.out, decide_eq_false hgn]; rfl)
     obtain ⟨r0, r1, r2, r3, r4, r5⟩ := UE.out.2.2.1.cell6
     obtain ⟨rf0, rf1, rf2, rf3, rf4, rf5⟩ := UE.out.2.2.1.free6
     obtain ⟨z0, z1, z2, z3, z4, z5⟩ := UE.out.2.2.2.1.cell6
     by_cases hg0 : gn < 0
     ·clear hgn
      go_wp2
      have V := (((((Cl.set UE.out.2.2.1 0 (.int .i64 0)).set 1 (.int .i64 0)).set 2 (.int .i64 0)).set 3 (.int .i64 0)).set 4 (.int .i64 0)).set 5 (.slice none 0 0)
      refine bodyPost_ret (results_cl_tmp rfl _ _ _ _ _ _ rfl V Tryz.underlying28 rfl (by kernel_rfl)) rfl ?_
      rw [HNO.out]
      exact BatO.no ((((((UE.out.bel.setCell (p := ⟨w.heap.size, 0, none⟩) (Nat.le_refl _) _).setCell (p := ⟨w.heap.size, 1, none⟩) (Nat.le_refl _) _).setCell (p := ⟨w.heap.size, 2, none⟩) (Nat.le_refl _) _).setCell (p := ⟨w.heap.size, 3, none⟩) (Nat.le_refl _) _).setCell (p := ⟨w.heap.size, 4, none⟩) (Nat.le_refl _) _).setCell (p := ⟨w.heap.size, 5, none⟩) (Nat.le_refl _) _)
     ·have hg1 : 1 < gn := by omega
      clear hgn
      go_wp2
      have V := (((((Cl.set UE.out.2.2.1 0 (.int .i64 0)).set 1 (.int .i64 0)).set 2 (.int .i64 0)).set 3 (.int .i64 0)).set 4 (.int .i64 0)).set 5 (.slice none 0 0)
      refine bodyPost_ret (results_cl_tmp rfl _ _ _ _ _ _ rfl V Tryz.underlying28 rfl (by kernel_rfl)) rfl ?_
      rw [HNO.out]
      exact BatO.no ((((((UE.out.bel.setCell (p := ⟨w.heap.size, 0, none⟩) (Nat.le_refl _) _).setCell (p := ⟨w.heap.size, 1, none⟩) (Nat.le_refl _) _).setCell (p := ⟨w.heap.size, 2, none⟩) (Nat.le_refl _) _).setCell (p := ⟨w.heap.size, 3, none⟩) (Nat.le_refl _) _).setCell (p := ⟨w.heap.size, 4, none⟩) (Nat.le_refl _) _).setCell (p := ⟨w.heap.size, 5, none⟩) (Nat.le_refl _) _)
   ·have HEND := hq' (HEN.out (.inr (by omega)))
    clear hm HGO HEN
    have HFN := hq' (HDS.out acc qq (by rw [HSR.out, HEND.out]))
    have HCL := hq' (fun W (h : RU W p s qq) => refclose_any p s qq W hl h)
    clear HSR HEND HDN HDS
    generalize Bd.sSign 101 qq = qa at *
    go_wp2_with fail
    refine (HCL.out _ X8.out.1).mono ?_
    rintro e w9 ⟨rfl, h9⟩
    have X9 := hq' (X8.out.call h9)
    have O9 := hq' (ownsRow_keeps O8.out h9.2 (by omega))
    clear h9 X8 O8 HCL c0 c1 c2 c3 c4 c5
    have HDN9 := hq' (refdone_any p s qa w9 hl X9.out.1)
    go_wp2_with fail
    refine HDN9.out.mono ?_
    rintro e wd ⟨rfl, nd, rfl⟩
    have XD := hq' (X9.out.below (below_drewN (Below.refl _ _) nd))
    have OD := hq' (ownsRow_below O9.out (below_drewN (Below.refl _ _) nd))
    clear X9 O9 HDN9
    generalize w9.drewN nd = wd at *
    obtain ⟨c0, c1, c2, c3, c4, c5⟩ := XD.out.2.2.2.2.1.cell6
    by_cases hd : Bd.sDone qa = 0
    ·have HG := hq' (refgood_any ⟨n0, n1, n2, n3, n4, acc⟩ ⟨HV.out.1, HV.out.2.1, HV.out.2.2.1, HV.out.2.2.2.1, HV.out.2.2.2.2, by unfold maxLen; show acc.length ≤ _; omega, HAO.out⟩ (.slice av acc.length capv) wd (Sl.ofOwn OD.out).recs)
     unfold batV at HG
     dsimp only at HG
     rw [decide_eq_true hd] at HFN
     rw [hd]
     cases hgd : Cr.good ⟨n0, n1, n2, n3, n4, acc⟩ with
     | true =>
      rw [hgd] at HG HFN
      clear hgd hd
      go_wp2_with fail
      refine HG.out.mono ?_
      rintro e wA ⟨rfl, hbA⟩
      have XA := hq' (XD.out.below hbA)
      have OA := hq' (ownsRow_below OD.out hbA)
      clear hbA XD OD HG c0 c1 c2 c3 c4 c5
      obtain ⟨c0, c1, c2, c3, c4, c5⟩ := XA.out.2.2.2.2.1.cell6
      obtain ⟨r0, r1, r2, r3, r4, r5⟩ := XA.out.2.2.1.cell6
      obtain ⟨rf0, rf1, rf2, rf3, rf4, rf5⟩ := XA.out.2.2.1.free6
      obtain ⟨z0, z1, z2, z3, z4, z5⟩ := XA.out.2.2.2.1.cell6
      go_wp2
      have V := (((((Cl.set XA.out.2.2.1 0 (.int .i64 n0)).set 1 (.int .i64 n1)).set 2 (.int .i64 n2)).set 3 (.int .i64 n3)).set 4 (.int .i64 n4)).set 5 (.slice av acc.length capv)
      have O := ownsRow_cell (ownsRow_cell (ownsRow_cell (ownsRow_cell (ownsRow_cell (ownsRow_cell OA.out ⟨w.heap.size, 0, none⟩ (.int .i64 n0) (by simp only; omega)) ⟨w.heap.size, 1, none⟩ (.int .i64 n1) (by simp only; omega)) ⟨w.heap.size, 2, none⟩ (.int .i64 n2) (by simp only; omega)) ⟨w.heap.size, 3, none⟩ (.int .i64 n3) (by simp only; omega)) ⟨w.heap.size, 4, none⟩ (.int .i64 n4) (by simp only; omega)) ⟨w.heap.size, 5, none⟩ (.slice av acc.length capv) (by simp only; omega)
      refine bodyPost_ret (results_cl_tmp rfl _ _ _ _ _ _ rfl V Tryz.underlying28 rfl (by kernel_rfl)) rfl ?_
      rw [HFN.out]
      exact ⟨.slice av acc.length capv, rfl, own_weak O (by omega), ⟨HV.out.1, HV.out.2.1, HV.out.2.2.1, HV.out.2.2.2.1, HV.out.2.2.2.2, by unfold maxLen; show acc.length ≤ _; omega, HAO.out⟩, (((((XA.out.bel.setCell (p := ⟨w.heap.size, 0, none⟩) (Nat.le_refl _) _).setCell (p := ⟨w.heap.size, 1, none⟩) (Nat.le_refl _) _).setCell (p := ⟨w.heap.size, 2, none⟩) (Nat.le_refl _) _).setCell (p := ⟨w.heap.size, 3, none⟩) (Nat.le_refl _) _).setCell (p := ⟨w.heap.size, 4, none⟩) (Nat.le_refl _) _).setCell (p := ⟨w.heap.size, 5, none⟩) (Nat.le_refl _) _⟩
     | false =>
      rw [hgd] at HG HFN
      clear hgd hd
      have HNO : Hid (Cr.dec s = none) := HFN.out
      go_wp2_with fail
      refine HG.out.mono ?_
      rintro e wA ⟨rfl, hbA⟩
      have XA := hq' (XD.out.below hbA)
      clear hbA XD OD HG c0 c1 c2 c3 c4 c5
      obtain ⟨r0, r1, r2, r3, r4, r5⟩ := XA.out.2.2.1.cell6
      obtain ⟨rf0, rf1, rf2, rf3, rf4, rf5⟩ := XA.out.2.2.1.free6
      obtain ⟨z0, z1, z2, z3, z4, z5⟩ := XA.out.2.2.2.1.cell6
      go_wp2
      have V := (((((Cl.set XA.out.2.2.1 0 (.int .i64 0)).set 1 (.int .i64 0)).set 2 (.int .i64 0)).set 3 (.int .i64 0)).set 4 (.int .i64 0)).set 5 (.slice none 0 0)
      refine bodyPost_ret (results_cl_tmp rfl _ _ _ _ _ _ rfl V Tryz.underlying28 rfl (by kernel_rfl)) rfl ?_
      rw [HNO.out]
      exact BatO.no ((((((XA.out.bel.setCell (p := ⟨w.heap.size, 0, none⟩) (Nat.le_refl _) _).setCell (p := ⟨w.heap.size, 1, none⟩) (Nat.le_refl _) _).setCell (p := ⟨w.heap.size, 2, none⟩) (Nat.le_refl _) _).setCell (p := ⟨w.heap.size, 3, none⟩) (Nat.le_refl _) _).setCell (p := ⟨w.heap.size, 4, none⟩) (Nat.le_refl _) _).setCell (p := ⟨w.heap.size, 5, none⟩) (Nat.le_refl _) _)
    ·have HNO : Hid (Cr.dec s = none) := by rw [Hid, HFN.out, decide_eq_false hd]; rfl
     have hd2 : (Bd.sDone qa != 0) = true := by simpa using hd
     generalize Bd.sDone qa = dn at *
     obtain ⟨r0, r1, r2, r3, r4, r5⟩ := XD.out.2.2.1.cell6
     obtain ⟨rf0, rf1, rf2, rf3, rf4, rf5⟩ := XD.out.2.2.1.free6
     obtain ⟨z0, z1, z2, z3, z4, z5⟩ := XD.out.2.2.2.1.cell6
     go_wp2
     have V := (((((Cl.set XD.out.2.2.1 0 (.int .i64 0)).set 1 (.int .i64 0)).set 2 (.int .i64 0)).set 3 (.int .i64 0)).set 4 (.int .i64 0)).set 5 (.slice none 0 0)
     refine bodyPost_ret (results_cl_tmp rfl _ _ _ _ _ _ rfl V Tryz.underlying28 rfl (by kernel_rfl)) rfl ?_
     rw [HNO.out]
     exact BatO.no ((((((XD.out.bel.setCell (p := ⟨w.heap.size, 0, none⟩) (Nat.le_refl _) _).setCell (p := ⟨w.heap.size, 1, none⟩) (Nat.le_refl _) _).setCell (p := ⟨w.heap.size, 2, none⟩) (Nat.le_refl _) _).setCell (p := ⟨w.heap.size, 3, none⟩) (Nat.le_refl _) _).setCell (p := ⟨w.heap.size, 4, none⟩) (Nat.le_refl _) _).setCell (p := ⟨w.heap.size, 5, none⟩) (Nat.le_refl _) _)
end Go.Proofs.YtjfpbeccpcbpcaaGreatDoor
