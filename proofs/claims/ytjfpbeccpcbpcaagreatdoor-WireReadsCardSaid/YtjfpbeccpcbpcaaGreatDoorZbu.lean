/-
  Ys1: texts of one proof, one behind the other.
  Conditions: none of its own.
-/
import Derived.Test.YtjfpbeccpcbpcaaGreatDoorZbt
set_option linter.unusedVariables false
set_option linter.unusedSimpArgs false
set_option maxHeartbeats 51200000
set_option maxRecDepth 20000
namespace Go.Proofs.YtjfpbeccpcbpcaaGreatDoor
open Go.RowKit
theorem refdec14_any (s : List UInt8) (hs : s.length ≤ maxLen) (w : World) :
  Calls Tryz.prog 18 #[.string ⟨s.toArray⟩] w (DecR w (refM s)) := by
 have HN : Hid (∀ W, Calls Tryz.prog 66 #[.string ⟨s.toArray⟩, .int .i64 0] W fun e w' => e = .returned (.tuple #[.string ⟨(Frm.next s 0).1.toArray⟩, .int .i64 (Frm.next s 0).2.1, .int .i64 (Frm.next s 0).2.2]) ∧ Below W.heap.size W w') := fun W => refnext_any s 0 W hs
 have HD : Hid (refM s = if (Frm.next s 0).2.2 ≠ 0 then (none, (Frm.next s 0).2.2) else
  if (Wi.tTail (Wi.sHead (Bd.sSign 108 ((Frm.next s 0).1, false))).1 (Wi.sHead (Bd.sSign 108 ((Frm.next s 0).1, false))).2).1.2 && (decide (Bd.sDone (Bd.sSign 101 (Wi.tTail (Wi.sHead (Bd.sSign 108 ((Frm.next s 0).1, false))).1 (Wi.sHead (Bd.sSign 108 ((Frm.next s 0).1, false))).2).2) = 0) && (decide ((Frm.next s 0).2.1 = s.length) && Wi.good (Wi.tTail (Wi.sHead (Bd.sSign 108 ((Frm.next s 0).1, false))).1 (Wi.sHead (Bd.sSign 108 ((Frm.next s 0).1, false))).2).1.1))
  then (some (Wi.tTail (Wi.sHead (Bd.sSign 108 ((Frm.next s 0).1, false))).1 (Wi.sHead (Bd.sSign 108 ((Frm.next s 0).1, false))).2).1.1, 0) else (none, 3)) := rfl
 have hs9 : s.length ≤ 9223372036854775807 := hs
 clear hs
 have hbl : (Frm.next s 0).2.2 = 0 → (Frm.next s 0).1.length ≤ 16384 := next_most s
 obtain ⟨w1, hw1, C1, B1⟩ := oneBox (w := w) (.int .i64 0 :: .int .i64 0 :: .int .i64 0 :: .int .i64 0 :: .int .i64 0 :: .int .i64 0 :: .int .i64 0 :: .int .i64 0 :: .int .i64 0 :: .slice none 0 0 :: .int .i64 0 :: .slice none 0 0 :: .int .i64 0 :: .int .i64 0 :: .int .i64 0 :: .int .i64 0 :: .int .i64 0 :: .slice none 0 0 :: .slice none 0 0 :: .int .i64 0 :: .int .i64 0 :: .int .i64 0 :: .int .i64 0 :: .int .i64 0 :: .int .i64 0 :: .int .i64 0 :: .int .i64 0 :: .string ⟨#[]⟩ :: .string ⟨#[]⟩ :: .slice none 0 0 :: .int .i64 0 :: .int .i64 0 :: .int .i64 0 :: .int .i64 0 :: .int .i64 0 :: .int .i64 0 :: .slice none 0 0 :: .slice none 0 0 :: []) 36
 obtain ⟨w2, hw2, C2n, B2n, Q2⟩ := new_row w1 (.int .i64 0 :: .int .i64 0 :: .int .i64 0 :: .int .i64 0 :: .int .i64 0 :: .int .i64 0 :: .int .i64 0 :: .int .i64 0 :: .int .i64 0 :: .slice none 0 0 :: .int .i64 0 :: .slice none 0 0 :: .int .i64 0 :: .int .i64 0 :: .int .i64 0 :: .int .i64 0 :: .int .i64 0 :: .slice none 0 0 :: .slice none 0 0 :: .int .i64 0 :: .int .i64 0 :: .int .i64 0 :: .int .i64 0 :: .int .i64 0 :: .int .i64 0 :: .int .i64 0 :: .int .i64 0 :: .string ⟨#[]⟩ :: .string ⟨#[]⟩ :: .slice none 0 0 :: .int .i64 0 :: .int .i64 0 :: .int .i64 0 :: .int .i64 0 :: .int .i64 0 :: .int .i64 0 :: .slice none 0 0 :: .slice none 0 0 :: []) 36
 have HIA0 : Hid ((Tryz.prog.info? 36).map (·.size) = some ((zt0).toArray : Array Value).size) := by rw [Hid]; kernel_rfl
 have HONE0 : Hid (((zt0).toArray : Array Value).all (·.oneCell') = true) := by simp [Hid, Value.oneCell']
 have HW1 := hq' hw1
 have HW2 := hq' hw2
 clear hw1 hw2
 generalize (Frm.next s 0).2.2 = er at *
 generalize (Frm.next s 0).2.1 = pos at *
 generalize (Frm.next s 0).1 = bb at *
 go_enter Tryz.func18, Tryz.ntmps18
 obtain ⟨BP, hBP⟩ : ∃ BP, BP = bodyPost Tryz.prog Tryz.f18 (DecR w (refM s)) := ⟨_, rfl⟩
 rw [← hBP]
 have HBP := hq' hBP
 clear hBP
 let zBP : Exit → Act → World → Prop := bodyPost Tryz.prog Tryz.f18 (fun _ _ => True)
 go_upto_region 1 with (fail)
 rw [HW1.out]
 obtain ⟨pr, hpr⟩ : ∃ pr, pr = w.heap.size := ⟨_, rfl⟩
 rw [← hpr] at C1 ⊢
 have HPR := hq' hpr
 have hp1 : w.heap.size ≤ pr := Nat.le_of_eq hpr.symm
 clear hpr HW1
 go_upto_region 2 with (refine wpList_store_row (by rfl) _ _ _ (by rfl) w1.heap.size (.int .i64 0 :: .int .i64 0 :: .int .i64 0 :: .int .i64 0 :: .int .i64 0 :: .int .i64 0 :: .int .i64 0 :: .int .i64 0 :: .int .i64 0 :: .slice none 0 0 :: .int .i64 0 :: .slice none 0 0 :: .int .i64 0 :: .int .i64 0 :: .int .i64 0 :: .int .i64 0 :: .int .i64 0 :: .slice none 0 0 :: .slice none 0 0 :: .int .i64 0 :: .int .i64 0 :: .int .i64 0 :: .int .i64 0 :: .int .i64 0 :: .int .i64 0 :: .int .i64 0 :: .int .i64 0 :: .string ⟨#[]⟩ :: .string ⟨#[]⟩ :: .slice none 0 0 :: .int .i64 0 :: .int .i64 0 :: .int .i64 0 :: .int .i64 0 :: .int .i64 0 :: .int .i64 0 :: .slice none 0 0 :: .slice none 0 0 :: []).toArray (by rfl) (by rfl) 36 _ Q2.out HIA0.out rfl HONE0.out ?_)
 rw [HW2.out]
 have C2 := hq' (C1.out.below B2n.out)
 have B2 := hq' (bt B1.out B2n.out)
 have hpn : pr < w1.heap.size := C1.out.lt
 clear HW2 Q2 B2n B1 C1
 generalize w1.heap.size = pn at *
 obtain ⟨zc, hzc⟩ : ∃ zc : List Value, zc = (.int .i64 0 :: .int .i64 0 :: .int .i64 0 :: .int .i64 0 :: .int .i64 0 :: .int .i64 0 :: .int .i64 0 :: .int .i64 0 :: .int .i64 0 :: .slice none 0 0 :: .int .i64 0 :: .slice none 0 0 :: .int .i64 0 :: .int .i64 0 :: .int .i64 0 :: .int .i64 0 :: .int .i64 0 :: .slice none 0 0 :: .slice none 0 0 :: .int .i64 0 :: .int .i64 0 :: .int .i64 0 :: .int .i64 0 :: .int .i64 0 :: .int .i64 0 :: .int .i64 0 :: .int .i64 0 :: .string ⟨#[]⟩ :: .string ⟨#[]⟩ :: .slice none 0 0 :: .int .i64 0 :: .int .i64 0 :: .int .i64 0 :: .int .i64 0 :: .int .i64 0 :: .int .i64 0 :: .slice none 0 0 :: .slice none 0 0 :: []) := ⟨_, rfl⟩
 have HZC := hq' hzc
 have hlz : zc.length = 38 := by rw [hzc]; rfl
 have HIL : Hid ((Tryz.prog.info? 36).map (·.size) = some zc.length) := by rw [Hid, hzc]; kernel_rfl
 have HIA : Hid ((Tryz.prog.info? 36).map (·.size) = some (zc.toArray : Array Value).size) := by rw [Hid, hzc]; kernel_rfl
 have HONE : Hid ((zc.toArray : Array Value).all (·.oneCell') = true) := by rw [Hid, hzc]; exact HONE0.out
 rw [← hzc] at C2 C2n
 clear hzc HONE0 HIA0
 go_wp2_with fail
 refine (HN.out _).mono ?_
 rintro e w3 ⟨rfl, hb⟩
 have C3 := hq' (C2.out.below hb)
 have C3n := hq' (C2n.out.below hb)
 have B3 := hq' (bt B2.out hb)
 clear hb C2 C2n B2 HN
 by_cases her : er = 0
 rotate_left
 ·have HR : Hid (refM s = (none, er)) := by rw [Hid, HD.out, if_pos her]
  have her2 : (er != 0) = true := by simpa using her
  clear HD hbl her
  have RN := hq' C3n.out.range
  have CQ : Hid (w3.heap[pr]? = some (.cells zc.toArray 36 (0, 0))) := C3.out
  obtain ⟨wf, hwf, CF, BF⟩ := ret_row C3.out B3.out hp1 zc
  have HWF := hq' hwf
  clear hwf
  go_wp2_with (first
   | (refine wpList_load_mid (by rfl) _ _ (by rfl) pn 0 (by rfl) zc _ RN.out Tryz.underlying36 (by rfl) HIL.out ?_)
   | (refine wpList_store_row (by rfl) _ _ _ (by rfl) pr zc.toArray (by rfl) (by rfl) 36 _ CQ.out HIA.out rfl HONE.out ?_)
   | fail)
  first | rw [HWF.out] | skip
  rw [HBP.out]
  refine bodyPost_ret (results_cl_tmp rfl _ _ _ _ _ _ rfl CF.out Tryz.underlying36 rfl HIL.out) rfl ?_
  rw [HR.out, HZC.out]
  exact DecR.no BF.out
 subst her
 have hbl2 := hbl rfl
 have hl : bb.length ≤ 4294967296 := by omega
 have HD1 : Hid (refM s = if (Wi.tTail (Wi.sHead (Bd.sSign 108 (bb, false))).1 (Wi.sHead (Bd.sSign 108 (bb, false))).2).1.2 && (decide (Bd.sDone (Bd.sSign 101 (Wi.tTail (Wi.sHead (Bd.sSign 108 (bb, false))).1 (Wi.sHead (Bd.sSign 108 (bb, false))).2).2) = 0) && (decide (pos = s.length) && Wi.good (Wi.tTail (Wi.sHead (Bd.sSign 108 (bb, false))).1 (Wi.sHead (Bd.sSign 108 (bb, false))).2).1.1))
  then (some (Wi.tTail (Wi.sHead (Bd.sSign 108 (bb, false))).1 (Wi.sHead (Bd.sSign 108 (bb, false))).2).1.1, 0) else (none, 3)) := by rw [Hid, HD.out, if_neg (by simp)]
 have hq1 := sSign_len 108 (bb, false)
 have hq2 := sHead_len (Bd.sSign 108 (bb, false))
 have hq3 : (Wi.sHead (Bd.sSign 108 (bb, false))).2.1.length < 4294967281 := by simp only at hq1; omega
 clear HD hbl hq1 hq2
 obtain ⟨w4, hw4, R4, B4⟩ := new_reader bb w3
 obtain ⟨w5, hw5, C5, B5, Q5⟩ := new_row w4 zc 36
 have HW4 := hq' hw4
 have HW5 := hq' hw5
 clear hw4 hw5
 go_upto_region 6 with (fail)
 rw [HW4.out]
 have C4 := hq' (C3.out.below B4.out)
 have C4n := hq' (C3n.out.below B4.out)
 have B4w := hq' (bt B3.out B4.out)
 have hz1 := C3.out.lt
 have hz2 := C3n.out.lt
 have hz3 := B3.out.size
 have hz4 := R4.out.lt
 clear HW4 C3 C3n B3 B4
 generalize w3.heap.size = p at *
 have HQZ : Hid ((w4.alloc (.cells zc.toArray 36)).heap[w4.heap.size]? = some (.cells zc.toArray 36 (0, 0))) := Q5.out
 rw [HZC.out] at HQZ
 have HIA1 := hq' HIA.out
 have HONE1 := hq' HONE.out
 rw [HZC.out] at HIA1 HONE1
 go_upto_region 7 with (refine wpList_store_row (by rfl) _ _ _ (by rfl) w4.heap.size (.int .i64 0 :: .int .i64 0 :: .int .i64 0 :: .int .i64 0 :: .int .i64 0 :: .int .i64 0 :: .int .i64 0 :: .int .i64 0 :: .int .i64 0 :: .slice none 0 0 :: .int .i64 0 :: .slice none 0 0 :: .int .i64 0 :: .int .i64 0 :: .int .i64 0 :: .int .i64 0 :: .int .i64 0 :: .slice none 0 0 :: .slice none 0 0 :: .int .i64 0 :: .int .i64 0 :: .int .i64 0 :: .int .i64 0 :: .int .i64 0 :: .int .i64 0 :: .int .i64 0 :: .int .i64 0 :: .string ⟨#[]⟩ :: .string ⟨#[]⟩ :: .slice none 0 0 :: .int .i64 0 :: .int .i64 0 :: .int .i64 0 :: .int .i64 0 :: .int .i64 0 :: .int .i64 0 :: .slice none 0 0 :: .slice none 0 0 :: []).toArray (by rfl) (by rfl) 36 _ HQZ.out HIA1.out rfl HONE1.out ?_)
 rw [← HZC.out, HW5.out]
 have X0 : Hid (RM w p bb pr pn w4.heap.size zc (bb, false) zc w5) := ⟨R4.out.below B5.out, C5.out, C4n.out.below B5.out, C4.out.below B5.out, bt B4w.out B5.out, ⟨hp1, by omega, by omega, by omega, by omega, by omega, by omega, by omega, by omega⟩⟩
 clear HW5 C4 C4n B4w R4 C5 B5 Q5 HQZ HIA1 HONE1 hz1 hz2 hz3 hz4
 generalize w4.heap.size = mb at *
 have HOP := hq' (refopen_any p bb (bb, false) w5 hl X0.out.r)
 generalize Bd.sSign 108 (bb, false) = q at *
 go_wp2_with fail
 refine HOP.out.mono ?_
 rintro e w6 ⟨rfl, h6⟩
 have X1 : Hid (RM w p bb pr pn mb zc (stN q 0) zc w6) := X0.out.call h6
 clear h6 X0 HOP
 have hnn : ∃ n0 n1 n2, n0 = vN q 0 ∧ n1 = vN q 1 ∧ n2 = vN q 2 := ⟨_, _, _, rfl, rfl, rfl⟩
 obtain ⟨n0, n1, n2, hn0, hn1, hn2⟩ := hnn
 have HN0 := hq' hn0
 have HN1 := hq' hn1
 have HN2 := hq' hn2
 clear hn0 hn1 hn2
 have N := hq' (refint_any p bb (stN q 0) _ hl X1.out.r)
 unfold RIV at N
 rw [show (Bd.sInt (stN q 0)).1 = vN q 0 from rfl, show (Bd.sInt (stN q 0)).2 = stN q 1 from rfl, ← HN0.out] at N
 go_wp2_with fail
 refine N.out.mono ?_
 rintro e u2 ⟨rfl, ha⟩
 have Y1 := hq' (X1.out.call ha)
 clear ha X1 N
 have cc := (Y1.out.c.cell 0).trans (show zc[0]? = some (.int .i64 0) by rw [HZC.out]; rfl)
 have cf := Y1.out.c.free 0
 have X3 : Hid (RM w p bb pr pn mb zc (stN q 1) (zc.set 0 (.int .i64 n0)) (u2.setCell ⟨mb, 0, none⟩ (.int .i64 n0))) := Y1.out.set 0 _
 go_upto_region 9 with (fail)
 clear cc cf Y1
 generalize u2.setCell ⟨mb, 0, none⟩ (.int .i64 n0) = v4 at *
 have N := hq' (refint_any p bb (stN q 1) _ hl X3.out.r)
 unfold RIV at N
 rw [show (Bd.sInt (stN q 1)).1 = vN q 1 from rfl, show (Bd.sInt (stN q 1)).2 = stN q 2 from rfl, ← HN1.out] at N
 go_wp2_with fail
 refine N.out.mono ?_
 rintro e u6 ⟨rfl, ha⟩
 have Y5 := hq' (X3.out.call ha)
 clear ha X3 N
 have cc := (Y5.out.c.cell 1).trans (show (zc.set 0 (.int .i64 n0))[1]? = some (.int .i64 0) by rw [HZC.out]; rfl)
 have cf := Y5.out.c.free 1
 have X7 : Hid (RM w p bb pr pn mb zc (stN q 2) ((zc.set 0 (.int .i64 n0)).set 1 (.int .i64 n1)) (u6.setCell ⟨mb, 1, none⟩ (.int .i64 n1))) := Y5.out.set 1 _
 go_upto_region 10 with (fail)
 clear cc cf Y5
 generalize u6.setCell ⟨mb, 1, none⟩ (.int .i64 n1) = v8 at *
 have N := hq' (refint_any p bb (stN q 2) _ hl X7.out.r)
 unfold RIV at N
 rw [show (Bd.sInt (stN q 2)).1 = vN q 2 from rfl, show (Bd.sInt (stN q 2)).2 = stN q 3 from rfl, ← HN2.out] at N
 go_wp2_with fail
 refine N.out.mono ?_
 rintro e u10 ⟨rfl, ha⟩
 have Y9 := hq' (X7.out.call ha)
 clear ha X7 N
 have cc := (Y9.out.c.cell 2).trans (show ((zc.set 0 (.int .i64 n0)).set 1 (.int .i64 n1))[2]? = some (.int .i64 0) by rw [HZC.out]; rfl)
 have cf := Y9.out.c.free 2
 have X11 : Hid (RM w p bb pr pn mb zc (stN q 3) (((zc.set 0 (.int .i64 n0)).set 1 (.int .i64 n1)).set 2 (.int .i64 n2)) (u10.setCell ⟨mb, 2, none⟩ (.int .i64 n2))) := Y9.out.set 2 _
 go_upto_region 11 with (fail)
 clear cc cf Y9
 generalize u10.setCell ⟨mb, 2, none⟩ (.int .i64 n2) = v12 at *
 have k0 := (X11.out.c.cell 0).trans (show (((zc.set 0 (.int .i64 n0)).set 1 (.int .i64 n1)).set 2 (.int .i64 n2))[0]? = some (.int .i64 n0) by rw [HZC.out]; rfl)
 go_upto_if 45 with (fail)
 go_cut [] (fun wz => RM w p bb pr pn mb zc (Wi.sHead q).2 (msgC (Wi.sHead q).1 zeroV) wz)
 case first =>
  clear HD1 hq3
  by_cases h4 : 4 ≤ n0
  ·have hv4 : 4 ≤ vN q 0 := by rw [← HN0.out]; exact h4
   have HH := hq' (sHead_hi q hv4)
   obtain ⟨n3, hn3⟩ : ∃ n3, n3 = vN q 3 := ⟨_, rfl⟩
   obtain ⟨n4, hn4⟩ : ∃ n4, n4 = vN q 4 := ⟨_, rfl⟩
   have HN3 := hq' hn3
   have HN4 := hq' hn4
   clear hn3 hn4 hv4
   have N := hq' (refint_any p bb (stN q 3) _ hl X11.out.r)
   unfold RIV at N
   rw [show (Bd.sInt (stN q 3)).1 = vN q 3 from rfl, show (Bd.sInt (stN q 3)).2 = stN q 4 from rfl, ← HN3.out] at N
   go_wp2_with fail
   refine N.out.mono ?_
   rintro e u14 ⟨rfl, ha⟩
   have Y13 := hq' (X11.out.call ha)
   clear ha X11 N
   have cc := (Y13.out.c.cell 3).trans (show (((zc.set 0 (.int .i64 n0)).set 1 (.int .i64 n1)).set 2 (.int .i64 n2))[3]? = some (.int .i64 0) by rw [HZC.out]; rfl)
   have cf := Y13.out.c.free 3
   have X15 : Hid (RM w p bb pr pn mb zc (stN q 4) ((((zc.set 0 (.int .i64 n0)).set 1 (.int .i64 n1)).set 2 (.int .i64 n2)).set 3 (.int .i64 n3)) (u14.setCell ⟨mb, 3, none⟩ (.int .i64 n3))) := Y13.out.set 3 _
   go_upto_region 13 with (fail)
   clear cc cf Y13
   generalize u14.setCell ⟨mb, 3, none⟩ (.int .i64 n3) = v16 at *
   have N := hq' (refint_any p bb (stN q 4) _ hl X15.out.r)
   unfold RIV at N
   rw [show (Bd.sInt (stN q 4)).1 = vN q 4 from rfl, show (Bd.sInt (stN q 4)).2 = stN q 5 from rfl, ← HN4.out] at N
   go_wp2_with fail
   refine N.out.mono ?_
   rintro e u18 ⟨rfl, ha⟩
   have Y17 := hq' (X15.out.call ha)
   clear ha X15 N
   have cc := (Y17.out.c.cell 4).trans (show ((((zc.set 0 (.int .i64 n0)).set 1 (.int .i64 n1)).set 2 (.int .i64 n2)).set 3 (.int .i64 n3))[4]? = some (.int .i64 0) by rw [HZC.out]; rfl)
   have cf := Y17.out.c.free 4
   have X19 : Hid (RM w p bb pr pn mb zc (stN q 5) (((((zc.set 0 (.int .i64 n0)).set 1 (.int .i64 n1)).set 2 (.int .i64 n2)).set 3 (.int .i64 n3)).set 4 (.int .i64 n4)) (u18.setCell ⟨mb, 4, none⟩ (.int .i64 n4))) := Y17.out.set 4 _
   go_wp2
   go_meet
   case rel =>
    have h := X19.out
    rw [show (((((zc.set 0 (.int .i64 n0)).set 1 (.int .i64 n1)).set 2 (.int .i64 n2)).set 3 (.int .i64 n3)).set 4 (.int .i64 n4)) = msgC (Wi.sHead q).1 zeroV from by rw [HH.out, ← HN0.out, ← HN1.out, ← HN2.out, ← HN3.out, ← HN4.out, HZC.out]; rfl] at h
    rw [HH.out] at h ⊢
    exact h
  ·have hv4 : ¬ 4 ≤ vN q 0 := by rw [← HN0.out]; exact h4
   have HH := hq' (sHead_lo q hv4)
   clear hv4
   go_wp2
   go_meet
   case rel =>
    have h := X11.out
    rw [show (((zc.set 0 (.int .i64 n0)).set 1 (.int .i64 n1)).set 2 (.int .i64 n2)) = msgC (Wi.sHead q).1 zeroV from by rw [HH.out, ← HN0.out, ← HN1.out, ← HN2.out, HZC.out]; rfl] at h
    rw [HH.out] at h ⊢
    exact h
 case rest =>
  have XH := hq' hcut
  clear hcut k0 X11 HN0 HN1 HN2
  generalize wc = w8 at *
  obtain ⟨k, f, t, pa, ep, hm0, hin⟩ := sHead_form q
  rw [hm0] at HD1 XH
  generalize (Wi.sHead q).2 = q0 at *
  have HIN := hq' hin
  clear hm0 hin
  obtain ⟨cs0, hcs0⟩ : ∃ cs0, cs0 = msgC (hdMsg k f t pa ep) zeroV := ⟨_, rfl⟩
  rw [← hcs0] at XH
  have HCS0 := hq' hcs0
  clear hcs0
  have k0 := (XH.out.c.cell 0).trans (show cs0[0]? = some (.int .i64 k) by rw [HCS0.out]; rfl)
  go_upto_block 0 with (fail)
  go_cut [] (fun wz => TailOk w p bb pr pn mb zc (hdMsg k f t pa ep) q0 wz)
  case first =>
   have HNO : Hid ((Wi.tTail (hdMsg k f t pa ep) q0).1.2 = false → refM s = (none, 3)) := fun h => by rw [HD1.out, h]; rfl
   clear HD1 k0
   obtain ⟨i1, i2, i3, i4, i5⟩ : Bd.inR k ∧ Bd.inR f ∧ Bd.inR t ∧ Bd.inR pa ∧ Bd.inR ep := by
    have := HIN.out
    simpa only [List.mem_cons, List.not_mem_nil, or_false, forall_eq_or_imp, forall_eq] using this
   have I1 := hq' i1
   have I2 := hq' i2
   have I3 := hq' i3
   have I4 := hq' i4
   have I5 := hq' i5
   clear HIN i1 i2 i3 i4 i5
   by_cases e3 : k = 3
   ·as_aux_lemma =>
     subst e3
     have k0 := (XH.out.c.cell 0).trans (show cs0[0]? = some (.int .i64 3) by rw [HCS0.out]; rfl)
     have XZ : Hid (RM w p bb pr pn mb zc (stN q0 0) cs0 w8) := XH.out
     clear XH
     have HT : Hid (Wi.tTail (hdMsg 3 f t pa ep) q0 = ((⟨3, f, t, pa, ep, 0, 0, vN q0 0, 0, [], 0, [], Wi.zBatch, [], Wi.zReq, Wi.zResp⟩, true), stN q0 1)) := by rfl
     have r0 : Bd.inR (vN q0 0) := sInt_inR _
     clear HNO
     have N := hq' (refint_any p bb (stN q0 0) _ hl XZ.out.r)
     unfold RIV at N
     rw [show (Bd.sInt (stN q0 0)).1 = vN q0 0 from rfl, show (Bd.sInt (stN q0 0)).2 = stN q0 1 from rfl] at N
     go_wp2_with fail
     refine N.out.mono ?_
     rintro e u22 ⟨rfl, ha⟩
     have Y21 := hq' (XZ.out.call ha)
     clear ha XZ N 
     have cc := (Y21.out.c.cell 7).trans (show cs0[7]? = some (.int .i64 0) by rw [HCS0.out]; rfl)
     have cf := Y21.out.c.free 7
     have X23 : Hid (RM w p bb pr pn mb zc (stN q0 1) (cs0.set 7 (.int .i64 (vN q0 0))) (u22.setCell ⟨mb, 7, none⟩ (.int .i64 (vN q0 0)))) := Y21.out.set 7 _
     generalize vN q0 0 = x0 at *
     go_wp2
     go_meet
     case rel =>
      have h := X23.out
      rw [show (cs0.set 7 (.int .i64 x0)) = msgC ⟨3, f, t, pa, ep, 0, 0, x0, 0, [], 0, [], Wi.zBatch, [], Wi.zReq, Wi.zResp⟩ ⟨.slice none 0 0, .slice none 0 0, .slice none 0 0, .slice none 0 0, .slice none 0 0, .slice none 0 0, .slice none 0 0⟩ from by rw [HCS0.out]; rfl] at h
      exact ⟨⟨3, f, t, pa, ep, 0, 0, x0, 0, [], 0, [], Wi.zBatch, [], Wi.zReq, Wi.zResp⟩, ⟨.slice none 0 0, .slice none 0 0, .slice none 0 0, .slice none 0 0, .slice none 0 0, .slice none 0 0, .slice none 0 0⟩, (stN q0 1), h, ⟨own_nil _ _ _ _, own_nil _ _ _ _, own_nil _ _ _ _, tab_nil _ _, own_nil _ _ _ _, own_nil _ _ _ _, own_nil _ _ _ _⟩, msgOk_of (by simp only [List.mem_cons, List.not_mem_nil, or_false, forall_eq_or_imp, forall_eq]; exact ⟨I1.out, I2.out, I3.out, I4.out, I5.out, ⟨by decide, by decide⟩, ⟨by decide, by decide⟩, r0, ⟨by decide, by decide⟩, ⟨by decide, by decide⟩⟩) ⟨Nat.zero_le _, fun x hx => by cases hx⟩ ⟨Nat.zero_le _, fun x hx => by cases hx⟩ zBat_ok zTab_ok zReq_ok zResp_ok, HT.out⟩
   by_cases e9 : k = 9
   ·as_aux_lemma =>
     subst e9
     have k0 := (XH.out.c.cell 0).trans (show cs0[0]? = some (.int .i64 9) by rw [HCS0.out]; rfl)
     have XZ : Hid (RM w p bb pr pn mb zc (stN q0 0) cs0 w8) := XH.out
     clear XH
     have HT : Hid (Wi.tTail (hdMsg 9 f t pa ep) q0 = ((⟨9, f, t, pa, ep, vN q0 0, 0, 0, 0, [], 0, [], Wi.zBatch, [], Wi.zReq, Wi.zResp⟩, true), stN q0 1)) := by rfl
     have r0 : Bd.inR (vN q0 0) := sInt_inR _
     clear HNO
     have N := hq' (refint_any p bb (stN q0 0) _ hl XZ.out.r)
     unfold RIV at N
     rw [show (Bd.sInt (stN q0 0)).1 = vN q0 0 from rfl, show (Bd.sInt (stN q0 0)).2 = stN q0 1 from rfl] at N
     go_wp2_with fail
     refine N.out.mono ?_
     rintro e u26 ⟨rfl, ha⟩
     have Y25 := hq' (XZ.out.call ha)
     clear ha XZ N 
     have cc := (Y25.out.c.cell 5).trans (show cs0[5]? = some (.int .i64 0) by rw [HCS0.out]; rfl)
     have cf := Y25.out.c.free 5
     have X27 : Hid (RM w p bb pr pn mb zc (stN q0 1) (cs0.set 5 (.int .i64 (vN q0 0))) (u26.setCell ⟨mb, 5, none⟩ (.int .i64 (vN q0 0)))) := Y25.out.set 5 _
     generalize vN q0 0 = x0 at *
     go_wp2
     go_meet
     case rel =>
      have h := X27.out
      rw [show (cs0.set 5 (.int .i64 x0)) = msgC ⟨9, f, t, pa, ep, x0, 0, 0, 0, [], 0, [], Wi.zBatch, [], Wi.zReq, Wi.zResp⟩ ⟨.slice none 0 0, .slice none 0 0, .slice none 0 0, .slice none 0 0, .slice none 0 0, .slice none 0 0, .slice none 0 0⟩ from by rw [HCS0.out]; rfl] at h
      exact ⟨⟨9, f, t, pa, ep, x0, 0, 0, 0, [], 0, [], Wi.zBatch, [], Wi.zReq, Wi.zResp⟩, ⟨.slice none 0 0, .slice none 0 0, .slice none 0 0, .slice none 0 0, .slice none 0 0, .slice none 0 0, .slice none 0 0⟩, (stN q0 1), h, ⟨own_nil _ _ _ _, own_nil _ _ _ _, own_nil _ _ _ _, tab_nil _ _, own_nil _ _ _ _, own_nil _ _ _ _, own_nil _ _ _ _⟩, msgOk_of (by simp only [List.mem_cons, List.not_mem_nil, or_false, forall_eq_or_imp, forall_eq]; exact ⟨I1.out, I2.out, I3.out, I4.out, I5.out, r0, ⟨by decide, by decide⟩, ⟨by decide, by decide⟩, ⟨by decide, by decide⟩, ⟨by decide, by decide⟩⟩) ⟨Nat.zero_le _, fun x hx => by cases hx⟩ ⟨Nat.zero_le _, fun x hx => by cases hx⟩ zBat_ok zTab_ok zReq_ok zResp_ok, HT.out⟩
   by_cases e6 : k = 6
   ·as_aux_lemma =>
     subst e6
     have k0 := (XH.out.c.cell 0).trans (show cs0[0]? = some (.int .i64 6) by rw [HCS0.out]; rfl)
     have XZ : Hid (RM w p bb pr pn mb zc (stN q0 0) cs0 w8) := XH.out
     clear XH
     have HT : Hid (Wi.tTail (hdMsg 6 f t pa ep) q0 = ((⟨6, f, t, pa, ep, vN q0 0, vN q0 1, 0, 0, [], 0, [], Wi.zBatch, [], Wi.zReq, Wi.zResp⟩, true), stN q0 2)) := by rfl
     have r0 : Bd.inR (vN q0 0) := sInt_inR _
     have r1 : Bd.inR (vN q0 1) := sInt_inR _
     clear HNO
     have N := hq' (refint_any p bb (stN q0 0) _ hl XZ.out.r)
     unfold RIV at N
     rw [show (Bd.sInt (stN q0 0)).1 = vN q0 0 from rfl, show (Bd.sInt (stN q0 0)).2 = stN q0 1 from rfl] at N
     go_wp2_with fail
     refine N.out.mono ?_
     rintro e u30 ⟨rfl, ha⟩
     have Y29 := hq' (XZ.out.call ha)
     clear ha XZ N 
     have cc := (Y29.out.c.cell 5).trans (show cs0[5]? = some (.int .i64 0) by rw [HCS0.out]; rfl)
     have cf := Y29.out.c.free 5
     have X31 : Hid (RM w p bb pr pn mb zc (stN q0 1) (cs0.set 5 (.int .i64 (vN q0 0))) (u30.setCell ⟨mb, 5, none⟩ (.int .i64 (vN q0 0)))) := Y29.out.set 5 _
     generalize vN q0 0 = x0 at *
     go_upto_region 49 with (fail)
     clear cc cf Y29
     generalize u30.setCell ⟨mb, 5, none⟩ (.int .i64 x0) = v32 at *
     have N := hq' (refint_any p bb (stN q0 1) _ hl X31.out.r)
     unfold RIV at N
     rw [show (Bd.sInt (stN q0 1)).1 = vN q0 1 from rfl, show (Bd.sInt (stN q0 1)).2 = stN q0 2 from rfl] at N
     go_wp2_with fail
     refine N.out.mono ?_
     rintro e u34 ⟨rfl, ha⟩
     have Y33 := hq' (X31.out.call ha)
     clear ha X31 N 
     have cc := (Y33.out.c.cell 6).trans (show (cs0.set 5 (.int .i64 x0))[6]? = some (.int .i64 0) by rw [HCS0.out]; rfl)
     have cf := Y33.out.c.free 6
     have X35 : Hid (RM w p bb pr pn mb zc (stN q0 2) ((cs0.set 5 (.int .i64 x0)).set 6 (.int .i64 (vN q0 1))) (u34.setCell ⟨mb, 6, none⟩ (.int .i64 (vN q0 1)))) := Y33.out.set 6 _
     generalize vN q0 1 = x1 at *
     go_wp2
     go_meet
     case rel =>
      have h := X35.out
      rw [show ((cs0.set 5 (.int .i64 x0)).set 6 (.int .i64 x1)) = msgC ⟨6, f, t, pa, ep, x0, x1, 0, 0, [], 0, [], Wi.zBatch, [], Wi.zReq, Wi.zResp⟩ ⟨.slice none 0 0, .slice none 0 0, .slice none 0 0, .slice none 0 0, .slice none 0 0, .slice none 0 0, .slice none 0 0⟩ from by rw [HCS0.out]; rfl] at h
      exact ⟨⟨6, f, t, pa, ep, x0, x1, 0, 0, [], 0, [], Wi.zBatch, [], Wi.zReq, Wi.zResp⟩, ⟨.slice none 0 0, .slice none 0 0, .slice none 0 0, .slice none 0 0, .slice none 0 0, .slice none 0 0, .slice none 0 0⟩, (stN q0 2), h, ⟨own_nil _ _ _ _, own_nil _ _ _ _, own_nil _ _ _ _, tab_nil _ _, own_nil _ _ _ _, own_nil _ _ _ _, own_nil _ _ _ _⟩, msgOk_of (by simp only [List.mem_cons, List.not_mem_nil, or_false, forall_eq_or_imp, forall_eq]; exact ⟨I1.out, I2.out, I3.out, I4.out, I5.out, r0, r1, ⟨by decide, by decide⟩, ⟨by decide, by decide⟩, ⟨by decide, by decide⟩⟩) ⟨Nat.zero_le _, fun x hx => by cases hx⟩ ⟨Nat.zero_le _, fun x hx => by cases hx⟩ zBat_ok zTab_ok zReq_ok zResp_ok, HT.out⟩
   by_cases e1 : k = 1
   ·as_aux_lemma =>
     subst e1
     have k0 := (XH.out.c.cell 0).trans (show cs0[0]? = some (.int .i64 1) by rw [HCS0.out]; rfl)
     have XZ : Hid (RM w p bb pr pn mb zc (stN q0 0) cs0 w8) := XH.out
     clear XH
     have HT : Hid (Wi.tTail (hdMsg 1 f t pa ep) q0 = ((⟨1, f, t, pa, ep, 0, 0, 0, 0, [], 0, [], Wi.zBatch, [], (Wi.tReq q0).1, Wi.zResp⟩, true), (Wi.tReq q0).2)) := by rfl
     have HRK := hq' (tReq_ok q0)
     have HRQ := hq' (refreadReq_any p bb (stN q0 0) w8 hl XZ.out.r)
     rw [show stN q0 0 = q0 from rfl] at HRQ
     clear HNO
     generalize (Wi.tReq q0).2 = qz at *
     generalize (Wi.tReq q0).1 = rq at *
     go_wp2_with fail
     refine HRQ.out.mono ?_
     rintro e w9 ⟨v9, rfl, ho, hr, hk⟩
     have Y := hq' (XZ.out.own hr hk)
     have hmb := XZ.out.c.lt
     obtain ⟨a0, cp0, he0⟩ := own_form ho
     subst he0
     have O0 : Hid (w9.ownsRow (mb + 1) 107 4 (.slice a0 rq.recs.length cp0) rq.recs.length (recCells rq.recs)) := ownsRow_weaken ho hmb
     clear ho hr hk XZ HRQ hmb
     have X9 := hq' (Y.out.mid 19 (wreqC rq (.slice a0 rq.recs.length cp0)))
     have TH : Hid (w9.there mb 19 (wreqC rq (.slice a0 rq.recs.length cp0)).toArray.size) := Y.out.c.there 19 11 (by rw [HCS0.out]; exact Nat.le_of_ble_eq_true rfl)
     have HI11 : Hid ((Tryz.prog.info? 31).map (·.size) = some ((wreqC rq (.slice a0 rq.recs.length cp0)).toArray : Array Value).size) := by rw [Hid]; kernel_rfl
     have HO11 : Hid (((wreqC rq (.slice a0 rq.recs.length cp0)).toArray : Array Value).all (·.oneCell') = true) := by simp [Hid, wreqC, Value.oneCell']
     have KM := hq' (keeps_mid mb (wreqC rq (.slice a0 rq.recs.length cp0)) 19 w9)
     have O9 := hq' (ownsRow_keepsS O0.out KM.out (fun j hj e => by have := (O0.out.lt j hj).1; omega))
     have HX9 : Hid (RM w p bb pr pn mb zc qz (setAll cs0 19 (wreqC rq (.slice a0 rq.recs.length cp0))) (w9.setCells mb 19 (wreqC rq (.slice a0 rq.recs.length cp0)).toArray.toList)) := X9.out
     have HC2 : Hid (setAll cs0 19 (wreqC rq (.slice a0 rq.recs.length cp0)) = msgC ⟨1, f, t, pa, ep, 0, 0, 0, 0, [], 0, [], Wi.zBatch, [], rq, Wi.zResp⟩ ⟨.slice none 0 0, .slice none 0 0, .slice none 0 0, .slice none 0 0, .slice a0 rq.recs.length cp0, .slice none 0 0, .slice none 0 0⟩) := by rw [Hid, HCS0.out]; rfl
     rw [HC2.out] at HX9
     clear X9 KM O0 Y HC2
     generalize hrc : wreqC rq (.slice a0 rq.recs.length cp0) = rc at *
     clear hrc
     go_wp2_with (refine wpList_store_mid (by rfl) _ _ _ (by rfl) mb 19 rc.toArray (by rfl) (by rfl) TH.out HI11.out HO11.out ?_)
     go_meet
     case rel => exact ⟨⟨1, f, t, pa, ep, 0, 0, 0, 0, [], 0, [], Wi.zBatch, [], rq, Wi.zResp⟩, ⟨.slice none 0 0, .slice none 0 0, .slice none 0 0, .slice none 0 0, .slice a0 rq.recs.length cp0, .slice none 0 0, .slice none 0 0⟩, qz, HX9.out, ⟨own_nil _ _ _ _, own_nil _ _ _ _, own_nil _ _ _ _, tab_nil _ _, O9.out, own_nil _ _ _ _, own_nil _ _ _ _⟩, msgOk_of (by simp only [List.mem_cons, List.not_mem_nil, or_false, forall_eq_or_imp, forall_eq]; exact ⟨I1.out, I2.out, I3.out, I4.out, I5.out, ⟨by decide, by decide⟩, ⟨by decide, by decide⟩, ⟨by decide, by decide⟩, ⟨by decide, by decide⟩, ⟨by decide, by decide⟩⟩) ⟨Nat.zero_le _, fun x hx => by cases hx⟩ ⟨Nat.zero_le _, fun x hx => by cases hx⟩ zBat_ok zTab_ok HRK.out zResp_ok, HT.out⟩
   by_cases e7 : k = 7
   ·as_aux_lemma =>
     subst e7
     have k0 := (XH.out.c.cell 0).trans (show cs0[0]? = some (.int .i64 7) by rw [HCS0.out]; rfl)
     have XZ : Hid (RM w p bb pr pn mb zc (stN q0 0) cs0 w8) := XH.out
     clear XH
     have HT : Hid (Wi.tTail (hdMsg 7 f t pa ep) q0 = ((⟨7, f, t, pa, ep, 0, 0, 0, 0, [], 0, [], Wi.zBatch, [], (Wi.tReq q0).1, Wi.zResp⟩, true), (Wi.tReq q0).2)) := by rfl
     have HRK := hq' (tReq_ok q0)
     have HRQ := hq' (refreadReq_any p bb (stN q0 0) w8 hl XZ.out.r)
     rw [show stN q0 0 = q0 from rfl] at HRQ
     clear HNO
     generalize (Wi.tReq q0).2 = qz at *
     generalize (Wi.tReq q0).1 = rq at *
     go_wp2_with fail
     refine HRQ.out.mono ?_
     rintro e w9 ⟨v9, rfl, ho, hr, hk⟩
     have Y := hq' (XZ.out.own hr hk)
     have hmb := XZ.out.c.lt
     obtain ⟨a0, cp0, he0⟩ := own_form ho
     subst he0
     have O0 : Hid (w9.ownsRow (mb + 1) 107 4 (.slice a0 rq.recs.length cp0) rq.recs.length (recCells rq.recs)) := ownsRow_weaken ho hmb
     clear ho hr hk XZ HRQ hmb
     have X9 := hq' (Y.out.mid 19 (wreqC rq (.slice a0 rq.recs.length cp0)))
     have TH : Hid (w9.there mb 19 (wreqC rq (.slice a0 rq.recs.length cp0)).toArray.size) := Y.out.c.there 19 11 (by rw [HCS0.out]; exact Nat.le_of_ble_eq_true rfl)
     have HI11 : Hid ((Tryz.prog.info? 31).map (·.size) = some ((wreqC rq (.slice a0 rq.recs.length cp0)).toArray : Array Value).size) := by rw [Hid]; kernel_rfl
     have HO11 : Hid (((wreqC rq (.slice a0 rq.recs.length cp0)).toArray : Array Value).all (·.oneCell') = true) := by simp [Hid, wreqC, Value.oneCell']
     have KM := hq' (keeps_mid mb (wreqC rq (.slice a0 rq.recs.length cp0)) 19 w9)
     have O9 := hq' (ownsRow_keepsS O0.out KM.out (fun j hj e => by have := (O0.out.lt j hj).1; omega))
     have HX9 : Hid (RM w p bb pr pn mb zc qz (setAll cs0 19 (wreqC rq (.slice a0 rq.recs.length cp0))) (w9.setCells mb 19 (wreqC rq (.slice a0 rq.recs.length cp0)).toArray.toList)) := X9.out
     have HC2 : Hid (setAll cs0 19 (wreqC rq (.slice a0 rq.recs.length cp0)) = msgC ⟨7, f, t, pa, ep, 0, 0, 0, 0, [], 0, [], Wi.zBatch, [], rq, Wi.zResp⟩ ⟨.slice none 0 0, .slice none 0 0, .slice none 0 0, .slice none 0 0, .slice a0 rq.recs.length cp0, .slice none 0 0, .slice none 0 0⟩) := by rw [Hid, HCS0.out]; rfl
     rw [HC2.out] at HX9
     clear X9 KM O0 Y HC2
     generalize hrc : wreqC rq (.slice a0 rq.recs.length cp0) = rc at *
     clear hrc
     go_wp2_with (refine wpList_store_mid (by rfl) _ _ _ (by rfl) mb 19 rc.toArray (by rfl) (by rfl) TH.out HI11.out HO11.out ?_)
     go_meet
     case rel => exact ⟨⟨7, f, t, pa, ep, 0, 0, 0, 0, [], 0, [], Wi.zBatch, [], rq, Wi.zResp⟩, ⟨.slice none 0 0, .slice none 0 0, .slice none 0 0, .slice none 0 0, .slice a0 rq.recs.length cp0, .slice none 0 0, .slice none 0 0⟩, qz, HX9.out, ⟨own_nil _ _ _ _, own_nil _ _ _ _, own_nil _ _ _ _, tab_nil _ _, O9.out, own_nil _ _ _ _, own_nil _ _ _ _⟩, msgOk_of (by simp only [List.mem_cons, List.not_mem_nil, or_false, forall_eq_or_imp, forall_eq]; exact ⟨I1.out, I2.out, I3.out, I4.out, I5.out, ⟨by decide, by decide⟩, ⟨by decide, by decide⟩, ⟨by decide, by decide⟩, ⟨by decide, by decide⟩, ⟨by decide, by decide⟩⟩) ⟨Nat.zero_le _, fun x hx => by cases hx⟩ ⟨Nat.zero_le _, fun x hx => by cases hx⟩ zBat_ok zTab_ok HRK.out zResp_ok, HT.out⟩
   by_cases e0 : k ≤ 0 ∨ 10 ≤ k
   ·as_aux_lemma =>
     have hq1 : (k == 1) = false := by simp; omega
     have hq7 : (k == 7) = false := by simp; omega
     have hq2 : (k == 2) = false := by simp; omega
     have hq3 : (k == 3) = false := by simp; omega
     have hq4 : (k == 4) = false := by simp; omega
     have hq5 : (k == 5) = false := by simp; omega
     have hq6 : (k == 6) = false := by simp; omega
     have hq8 : (k == 8) = false := by simp; omega
     have hq9 : (k == 9) = false := by simp; omega
     have HT : Hid (Wi.tTail (hdMsg k f t pa ep) q0 = ((hdMsg k f t pa ep, true), q0)) := by
      rw [Hid]
      unfold Wi.tTail hdMsg
      dsimp only
      rw [if_neg (by omega), if_neg (by omega), if_neg (by omega), if_neg (by omega), if_neg (by omega), if_neg (by omega), if_neg (by omega), if_neg (by omega)]
     have k0 := (XH.out.c.cell 0).trans (show cs0[0]? = some (.int .i64 k) by rw [HCS0.out]; rfl)
     have HE0 := hq' e0
     clear e0 HNO
     go_wp2
     go_meet
     case rel =>
      have h := XH.out
      rw [HCS0.out] at h
      exact ⟨hdMsg k f t pa ep, zeroV, q0, h, own0 _ _ _ _ _ _ _, hdMsg_ok (by simp only [List.mem_cons, List.not_mem_nil, or_false, forall_eq_or_imp, forall_eq]; exact ⟨I1.out, I2.out, I3.out, I4.out, I5.out⟩), HT.out⟩
   by_cases e5 : k = 5
   ·as_aux_lemma =>
     subst e5
     have k0 := (XH.out.c.cell 0).trans (show cs0[0]? = some (.int .i64 5) by rw [HCS0.out]; rfl)
     have XZ : Hid (RM w p bb pr pn mb zc (stN q0 0) cs0 w8) := XH.out
     clear XH
     have HT : Hid (Wi.tTail (hdMsg 5 f t pa ep) q0 = ((⟨5, f, t, pa, ep, 0, 0, 0, 0, [], 0, [], (Cr.dec (Bd.sText 16384 (stN q0 0)).1).getD Wi.zBatch, [], Wi.zReq, Wi.zResp⟩, (Cr.dec (Bd.sText 16384 (stN q0 0)).1).isSome), (Bd.sText 16384 (stN q0 0)).2)) := by rfl
     have hlt : (Bd.sText 16384 (stN q0 0)).1.length ≤ 16384 := sText_most 16384 (stN q0 0)
     have HTX := hq' (fun W (h : RU W p bb (stN q0 0)) => reftext_any p 16384 (by omega) (by omega) bb (stN q0 0) W hl h)
     unfold RTV at HTX
     have HDC := hq' (fun W => refdecode_own (Bd.sText 16384 (stN q0 0)).1 (by omega) W)
     generalize (Bd.sText 16384 (stN q0 0)).2 = qz at *
     generalize (Bd.sText 16384 (stN q0 0)).1 = tx at *
     generalize Cr.dec tx = od at *
     clear hlt
     go_wp2_with fail
     refine (HTX.out _ XZ.out.r).mono ?_
     rintro e wb ⟨rfl, hr⟩
     have XB := hq' (XZ.out.call hr)
     have hbs := XB.out.c.lt
     clear hr XZ HTX
     have HD9 := hq' (HDC.out wb)
     clear HDC
     obtain ⟨ee, hee⟩ : ∃ ee : Int, ee = if od.isSome then 0 else 3 := ⟨_, rfl⟩
     unfold BatO at HD9
     rw [← hee] at HD9
     have HEE := hq' hee
     clear hee
     obtain ⟨ob, hob⟩ : ∃ ob : Cr.Batch, ob = od.getD zeroBat := ⟨_, rfl⟩
     rw [← hob] at HD9
     have HOB : Hid (od.getD Wi.zBatch = ob) := hob.symm
     clear hob
     go_wp2_with fail
     refine HD9.out.mono ?_
     rintro e uc ⟨rv, rfl, ho, hbok, hb9⟩
     have XC := hq' (XB.out.below hb9)
     have BK := hq' hbok
     obtain ⟨a0, cp0, he0⟩ := own_form ho
     subst he0
     have O0 : Hid (uc.ownsRow (mb + 1) 107 4 (.slice a0 ob.recs.length cp0) ob.recs.length (recCells ob.recs)) := ownsRow_weaken ho hbs
     clear ho hbok hb9 HD9 XB hbs
     rw [HOB.out] at HT
     obtain ⟨bc, hbc⟩ : ∃ bc : List Value, bc = [.int .i64 ob.base, .int .i64 ob.count, .int .i64 ob.prod, .int .i64 ob.seq, .int .i64 ob.time, .slice a0 ob.recs.length cp0] := ⟨_, rfl⟩
     rw [show batV ob (.slice a0 ob.recs.length cp0) = .agg bc.toArray from by rw [hbc]; rfl]
     have HI6 : Hid ((Tryz.prog.info? 28).map (·.size) = some bc.length) := by rw [Hid, hbc]; kernel_rfl
     have HI6A : Hid ((Tryz.prog.info? 28).map (·.size) = some (bc.toArray : Array Value).size) := by rw [Hid, hbc]; kernel_rfl
     have HO6 : Hid ((bc.toArray : Array Value).all (·.oneCell') = true) := by rw [Hid, hbc]; simp [Value.oneCell']
     have HZ6 : Hid ((zeroCells.toArray : Array Value).size = (bc.toArray : Array Value).size) := by rw [Hid, hbc]; rfl
     have hc6 := hbc
     have HC6 := hq' hbc
     have hl6 : bc.length = 6 := by rw [hbc]; rfl
     clear hbc hc6
     obtain ⟨ud, hud, CB, BB, QB⟩ := new_row2 uc zeroCells bc 28
     have HUD := hq' hud
     have hxb := XC.out.c.lt
     have XD := hq' (XC.out.below BB.out)
     have OD := hq' (ownsRow_below O0.out BB.out)
     clear hud O0
     go_upto_region 44 with (refine wpList_store_row (by rfl) _ _ _ (by rfl) uc.heap.size bc.toArray (by rfl) (by rfl) 28 _ QB.out HI6A.out HZ6.out HO6.out ?_)
     first | rw [show uc.alloc (.cells #[.int .i64 0, .int .i64 0, .int .i64 0, .int .i64 0, .int .i64 0, .slice none 0 0] 28) = uc.alloc (.cells zeroCells.toArray 28) from rfl] | skip
     rw [HUD.out]
     clear HUD QB BB XC HZ6
     generalize uc.heap.size = xb at *
     cases hod : od.isSome with
     | false =>
      rw [hod] at HT HEE
      have HR : Hid (refM s = (none, 3)) := HNO.out (by rw [HT.out])
      have hee : ee = 3 := HEE.out
      subst hee
      clear HT HNO HEE HOB hod OD BK
      have RN := hq' (XD.out.n).range
      have CQ : Hid (ud.heap[pr]? = some (.cells zc.toArray 36 (0, 0))) := XD.out.z
      obtain ⟨wf, hwf, CF, BF⟩ := ret_row XD.out.z XD.out.b XD.out.o.1 zc
      have HWF := hq' hwf
      clear hwf
      go_wp2_with (first
       | (refine wpList_load_mid (by rfl) _ _ (by rfl) pn 0 (by rfl) zc _ RN.out Tryz.underlying36 (by rfl) HIL.out ?_)
       | (refine wpList_store_row (by rfl) _ _ _ (by rfl) pr zc.toArray (by rfl) (by rfl) 36 _ CQ.out HIA.out rfl HONE.out ?_)
       | fail)
      first | rw [HWF.out] | skip
      rw [HBP.out]
      refine bodyPost_ret (results_cl_tmp rfl _ _ _ _ _ _ rfl CF.out Tryz.underlying36 rfl HIL.out) rfl ?_
      rw [HR.out, HZC.out]
      exact DecR.no BF.out
     | true =>
      rw [hod] at HT HEE
      have hee : ee = 0 := HEE.out
      subst hee
      have RB := hq' CB.out.range
      have X9 := hq' (XD.out.mid 12 bc)
      have TH : Hid (ud.there mb 12 (bc.toArray : Array Value).size) := XD.out.c.there 12 _ (by rw [HCS0.out]; simp only [List.size_toArray, hl6]; exact Nat.le_of_ble_eq_true rfl)
      have O9 := hq' (ownsRow_keepsS OD.out (keeps_mid mb bc 12 ud) (fun j hj e => by have := (OD.out.lt j hj).1; omega))
      have HC2 : Hid (setAll cs0 12 bc = msgC ⟨5, f, t, pa, ep, 0, 0, 0, 0, [], 0, [], ob, [], Wi.zReq, Wi.zResp⟩ ⟨.slice none 0 0, .slice none 0 0, .slice a0 ob.recs.length cp0, .slice none 0 0, .slice none 0 0, .slice none 0 0, .slice none 0 0⟩) := by rw [Hid, HC6.out, HCS0.out]; rfl
      rw [HC2.out] at X9
      have HX9 : Hid (RM w p bb pr pn mb zc qz (msgC ⟨5, f, t, pa, ep, 0, 0, 0, 0, [], 0, [], ob, [], Wi.zReq, Wi.zResp⟩ ⟨.slice none 0 0, .slice none 0 0, .slice a0 ob.recs.length cp0, .slice none 0 0, .slice none 0 0, .slice none 0 0, .slice none 0 0⟩) (ud.setCells mb 12 (bc.toArray : Array Value).toList)) := X9.out
      have HO9 : Hid ((ud.setCells mb 12 (bc.toArray : Array Value).toList).ownsRow (mb + 1) 107 4 (.slice a0 ob.recs.length cp0) ob.recs.length (recCells ob.recs)) := O9.out
      clear HNO HEE HOB hod OD X9 O9 XD HC2
      go_wp2_with (first
       | (refine wpList_load_mid (by rfl) _ _ (by rfl) xb 0 (by rfl) bc _ RB.out Tryz.underlying28 (by rfl) HI6.out ?_)
       | (refine wpList_store_mid (by rfl) _ _ _ (by rfl) mb 12 bc.toArray (by rfl) (by rfl) TH.out HI6A.out HO6.out ?_)
       | fail)
      go_meet
      case rel => exact ⟨⟨5, f, t, pa, ep, 0, 0, 0, 0, [], 0, [], ob, [], Wi.zReq, Wi.zResp⟩, ⟨.slice none 0 0, .slice none 0 0, .slice a0 ob.recs.length cp0, .slice none 0 0, .slice none 0 0, .slice none 0 0, .slice none 0 0⟩, qz, HX9.out, ⟨own_nil _ _ _ _, own_nil _ _ _ _, HO9.out, tab_nil _ _, own_nil _ _ _ _, own_nil _ _ _ _, own_nil _ _ _ _⟩, msgOk_of (by simp only [List.mem_cons, List.not_mem_nil, or_false, forall_eq_or_imp, forall_eq]; exact ⟨I1.out, I2.out, I3.out, I4.out, I5.out, ⟨by decide, by decide⟩, ⟨by decide, by decide⟩, ⟨by decide, by decide⟩, ⟨by decide, by decide⟩, ⟨by decide, by decide⟩⟩) ⟨Nat.zero_le _, fun x hx => by cases hx⟩ ⟨Nat.zero_le _, fun x hx => by cases hx⟩ BK.out zTab_ok zReq_ok zResp_ok, HT.out⟩
   by_cases e8 : k = 8
   ·as_aux_lemma =>
     subst e8
     have k0 := (XH.out.c.cell 0).trans (show cs0[0]? = some (.int .i64 8) by rw [HCS0.out]; rfl)
     have XZ : Hid (RM w p bb pr pn mb zc (stN q0 0) cs0 w8) := XH.out
     clear XH
     have HT : Hid (Wi.tTail (hdMsg 8 f t pa ep) q0 = ((⟨8, f, t, pa, ep, vN q0 0, 0, 0, 0, [], 0, [], Wi.zBatch, (Wi.tTable (Bd.sText 16384 (stN q0 1)).1).getD [], Wi.zReq, Wi.zResp⟩, (Wi.tTable (Bd.sText 16384 (stN q0 1)).1).isSome), (Bd.sText 16384 (stN q0 1)).2)) := by rfl
     have hlt : (Bd.sText 16384 (stN q0 1)).1.length ≤ 16384 := sText_most 16384 (stN q0 1)
     have HTX := hq' (fun W (h : RU W p bb (stN q0 1)) => reftext_any p 16384 (by omega) (by omega) bb (stN q0 1) W hl h)
     unfold RTV at HTX
     have HDC := hq' (fun W => refldec_any (Bd.sText 16384 (stN q0 1)).1 (by omega) W)
     have r0 : Bd.inR (vN q0 0) := sInt_inR _
     generalize (Bd.sText 16384 (stN q0 1)).2 = qz at *
     generalize (Bd.sText 16384 (stN q0 1)).1 = tx at *
     generalize Wi.tTable tx = od at *
     clear hlt
     have N := hq' (refint_any p bb (stN q0 0) _ hl XZ.out.r)
     unfold RIV at N
     rw [show (Bd.sInt (stN q0 0)).1 = vN q0 0 from rfl, show (Bd.sInt (stN q0 0)).2 = stN q0 1 from rfl] at N
     go_wp2_with fail
     refine N.out.mono ?_
     rintro e u38 ⟨rfl, ha⟩
     have Y37 := hq' (XZ.out.call ha)
     clear ha XZ N 
     have cc := (Y37.out.c.cell 5).trans (show cs0[5]? = some (.int .i64 0) by rw [HCS0.out]; rfl)
     have cf := Y37.out.c.free 5
     have X39 : Hid (RM w p bb pr pn mb zc (stN q0 1) (cs0.set 5 (.int .i64 (vN q0 0))) (u38.setCell ⟨mb, 5, none⟩ (.int .i64 (vN q0 0)))) := Y37.out.set 5 _
     generalize vN q0 0 = x0 at *
     go_upto_region 52 with (fail)
     clear cc cf Y37
     generalize u38.setCell ⟨mb, 5, none⟩ (.int .i64 x0) = v40 at *
     go_wp2_with fail
     refine (HTX.out _ X39.out.r).mono ?_
     rintro e wb ⟨rfl, hr⟩
     have XB := hq' (X39.out.call hr)
     have hbs := XB.out.c.lt
     clear hr X39 HTX
     have HD9 := hq' (HDC.out wb)
     clear HDC
     obtain ⟨ee, hee⟩ : ∃ ee : Int, ee = if od.isSome then 0 else 3 := ⟨_, rfl⟩
     unfold LedR at HD9
     rw [← hee] at HD9
     have HEE := hq' hee
     clear hee
     obtain ⟨tb, htb⟩ : ∃ tb : List Wi.Seen, tb = od.getD [] := ⟨_, rfl⟩
     rw [← htb] at HD9
     have HOB : Hid (od.getD [] = tb) := htb.symm
     clear htb
     go_wp2_with fail
     refine HD9.out.mono ?_
     rintro e uc ⟨rv, rfl, ho, hbok, hb9⟩
     have XC := hq' (XB.out.below hb9)
     have O0 : Hid (TabO uc (mb + 1) rv tb) := ho.weaken hbs
     have BK := hq' hbok
     obtain ⟨a0, cp0, he0⟩ := ho.tbl.form
     subst he0
     clear ho hbok hb9 HD9 XB hbs
     rw [HOB.out] at HT
     cases hod : od.isSome with
     | false =>
      rw [hod] at HT HEE
      have HR : Hid (refM s = (none, 3)) := HNO.out (by rw [HT.out])
      have hee : ee = 3 := HEE.out
      subst hee
      clear HT HNO HEE HOB hod O0 BK r0
      have RN := hq' (XC.out.n).range
      have CQ : Hid (uc.heap[pr]? = some (.cells zc.toArray 36 (0, 0))) := XC.out.z
      obtain ⟨wf, hwf, CF, BF⟩ := ret_row XC.out.z XC.out.b XC.out.o.1 zc
      have HWF := hq' hwf
      clear hwf
      go_wp2_with (first
       | (refine wpList_load_mid (by rfl) _ _ (by rfl) pn 0 (by rfl) zc _ RN.out Tryz.underlying36 (by rfl) HIL.out ?_)
       | (refine wpList_store_row (by rfl) _ _ _ (by rfl) pr zc.toArray (by rfl) (by rfl) 36 _ CQ.out HIA.out rfl HONE.out ?_)
       | fail)
      first | rw [HWF.out] | skip
      rw [HBP.out]
      refine bodyPost_ret (results_cl_tmp rfl _ _ _ _ _ _ rfl CF.out Tryz.underlying36 rfl HIL.out) rfl ?_
      rw [HR.out, HZC.out]
      exact DecR.no BF.out
     | true =>
      rw [hod] at HT HEE
      have hee : ee = 0 := HEE.out
      subst hee
      have cc := (XC.out.c.cell 18).trans (show (cs0.set 5 (.int .i64 x0))[18]? = some (.slice none 0 0) by rw [HCS0.out]; rfl)
      have cf := XC.out.c.free 18
      have X9 := hq' (XC.out.set 18 (.slice a0 tb.length cp0))
      have O9 : Hid (TabO (uc.setCell ⟨mb, 18, none⟩ (.slice a0 tb.length cp0)) (mb + 1) (.slice a0 tb.length cp0) tb) := TabO.keepsS O0.out (Keeps.setCell (fun j => j = mb) _ _ _ rfl) (fun j hj e => by omega)
      clear HNO HEE HOB hod O0
      go_wp2
      go_meet
      case rel =>
       have h := X9.out
       rw [show ((cs0.set 5 (.int .i64 x0)).set 18 (.slice a0 tb.length cp0)) = msgC ⟨8, f, t, pa, ep, x0, 0, 0, 0, [], 0, [], Wi.zBatch, tb, Wi.zReq, Wi.zResp⟩ ⟨.slice none 0 0, .slice none 0 0, .slice none 0 0, .slice a0 tb.length cp0, .slice none 0 0, .slice none 0 0, .slice none 0 0⟩ from by rw [HCS0.out]; rfl] at h
       exact ⟨⟨8, f, t, pa, ep, x0, 0, 0, 0, [], 0, [], Wi.zBatch, tb, Wi.zReq, Wi.zResp⟩, ⟨.slice none 0 0, .slice none 0 0, .slice none 0 0, .slice a0 tb.length cp0, .slice none 0 0, .slice none 0 0, .slice none 0 0⟩, qz, h, ⟨own_nil _ _ _ _, own_nil _ _ _ _, own_nil _ _ _ _, O9.out, own_nil _ _ _ _, own_nil _ _ _ _, own_nil _ _ _ _⟩, msgOk_of (by simp only [List.mem_cons, List.not_mem_nil, or_false, forall_eq_or_imp, forall_eq]; exact ⟨I1.out, I2.out, I3.out, I4.out, I5.out, r0, ⟨by decide, by decide⟩, ⟨by decide, by decide⟩, ⟨by decide, by decide⟩, ⟨by decide, by decide⟩⟩) ⟨Nat.zero_le _, fun x hx => by cases hx⟩ ⟨Nat.zero_le _, fun x hx => by cases hx⟩ zBat_ok BK.out zReq_ok zResp_ok, HT.out⟩
   by_cases e2 : k = 2
   ·as_aux_lemma =>
     subst e2
     have k0 := (XH.out.c.cell 0).trans (show cs0[0]? = some (.int .i64 2) by rw [HCS0.out]; rfl)
     have XZ : Hid (RM w p bb pr pn mb zc (stN q0 0) cs0 w8) := XH.out
     clear XH
     have HT : Hid (Wi.tTail (hdMsg 2 f t pa ep) q0 = ((⟨2, f, t, pa, ep, 0, 0, 0, 0, [], 0, [], Wi.zBatch, [], Wi.zReq, ⟨vN q0 0, vN q0 1, vN q0 2, vN q0 3, vN q0 4, vN q0 5, (Wi.tInts (stN q0 6)).1, (Wi.tRecs (Wi.tInts (stN q0 6)).2).1⟩⟩, true), (Wi.tRecs (Wi.tInts (stN q0 6)).2).2)) := by rfl
     have HPK := hq' (tInts_ok (stN q0 6))
     have HRK := hq' (tRecs_ok (Wi.tInts (stN q0 6)).2)
     have HIN6 := hq' (fun W (h : RU W p bb (stN q0 6)) => refreadInts_any p bb (stN q0 6) W hl h)
     have HRE6 := hq' (fun W (h : RU W p bb (Wi.tInts (stN q0 6)).2) => refreadRecs_any p bb (Wi.tInts (stN q0 6)).2 W hl h)
     generalize (Wi.tRecs (Wi.tInts (stN q0 6)).2).2 = qz at *
     generalize (Wi.tRecs (Wi.tInts (stN q0 6)).2).1 = rr at *
     generalize (Wi.tInts (stN q0 6)).2 = qp at *
     generalize (Wi.tInts (stN q0 6)).1 = pp at *
     clear HNO
     have r0 : Bd.inR (vN q0 0) := sInt_inR _
     have r1 : Bd.inR (vN q0 1) := sInt_inR _
     have r2 : Bd.inR (vN q0 2) := sInt_inR _
     have r3 : Bd.inR (vN q0 3) := sInt_inR _
     have r4 : Bd.inR (vN q0 4) := sInt_inR _
     have r5 : Bd.inR (vN q0 5) := sInt_inR _
     obtain ⟨wa0, hwa0, CA0, BA0, QA0⟩ := new_row w8 (.int .i64 0 :: .int .i64 0 :: .int .i64 0 :: .int .i64 0 :: .int .i64 0 :: .int .i64 0 :: .slice none 0 0 :: .slice none 0 0 :: []) 34
     have HWA0 := hq' hwa0
     have HI8Z : Hid ((Tryz.prog.info? 34).map (·.size) = some ((.int .i64 0 :: .int .i64 0 :: .int .i64 0 :: .int .i64 0 :: .int .i64 0 :: .int .i64 0 :: .slice none 0 0 :: .slice none 0 0 :: []).toArray : Array Value).size) := by rw [Hid]; kernel_rfl
     have HO8Z : Hid (((.int .i64 0 :: .int .i64 0 :: .int .i64 0 :: .int .i64 0 :: .int .i64 0 :: .int .i64 0 :: .slice none 0 0 :: .slice none 0 0 :: []).toArray : Array Value).all (·.oneCell') = true) := by simp [Hid, Value.oneCell']
     have hmbl := XZ.out.c.lt
     have XA0 : Hid (RA w p bb pr pn mb zc (stN q0 0) cs0 w8.heap.size (.int .i64 0 :: .int .i64 0 :: .int .i64 0 :: .int .i64 0 :: .int .i64 0 :: .int .i64 0 :: .slice none 0 0 :: .slice none 0 0 :: []) wa0) := ⟨XZ.out.below BA0.out, CA0.out, hmbl⟩
     clear hwa0 CA0 BA0 XZ
     go_upto_region 20 with (refine wpList_store_row (by rfl) _ _ _ (by rfl) w8.heap.size (.int .i64 0 :: .int .i64 0 :: .int .i64 0 :: .int .i64 0 :: .int .i64 0 :: .int .i64 0 :: .slice none 0 0 :: .slice none 0 0 :: []).toArray (by rfl) (by rfl) 34 _ QA0.out HI8Z.out rfl HO8Z.out ?_)
     first | rw [HWA0.out] | skip
     clear HWA0 QA0 HI8Z HO8Z k0
     generalize w8.heap.size = ab at *
     have N := hq' (refint_any p bb (stN q0 0) _ hl XA0.out.m.r)
     unfold RIV at N
     rw [show (Bd.sInt (stN q0 0)).1 = vN q0 0 from rfl, show (Bd.sInt (stN q0 0)).2 = stN q0 1 from rfl] at N
     go_wp2_with fail
     refine N.out.mono ?_
     rintro e u41 ⟨rfl, ha⟩
     have Y42 := hq' (XA0.out.call ha)
     clear ha XA0 N
     have cc : u41.cell? ⟨ab, 0, none⟩ = some (.int .i64 0) := Y42.out.a.cell 0
     have cf := Y42.out.a.free 0
     have XA43 : Hid (RA w p bb pr pn mb zc (stN q0 1) cs0 ab [.int .i64 (vN q0 0), .int .i64 0, .int .i64 0, .int .i64 0, .int .i64 0, .int .i64 0, .slice none 0 0, .slice none 0 0] (u41.setCell ⟨ab, 0, none⟩ (.int .i64 (vN q0 0)))) := Y42.out.set 0 _
     generalize vN q0 0 = x0 at *
     go_upto_region 21 with (fail)
     clear cc cf Y42
     generalize u41.setCell ⟨ab, 0, none⟩ (.int .i64 x0) = v44 at *
     have N := hq' (refint_any p bb (stN q0 1) _ hl XA43.out.m.r)
     unfold RIV at N
     rw [show (Bd.sInt (stN q0 1)).1 = vN q0 1 from rfl, show (Bd.sInt (stN q0 1)).2 = stN q0 2 from rfl] at N
     go_wp2_with fail
     refine N.out.mono ?_
     rintro e u45 ⟨rfl, ha⟩
     have Y46 := hq' (XA43.out.call ha)
     clear ha XA43 N
     have cc : u45.cell? ⟨ab, 1, none⟩ = some (.int .i64 0) := Y46.out.a.cell 1
     have cf := Y46.out.a.free 1
     have XA47 : Hid (RA w p bb pr pn mb zc (stN q0 2) cs0 ab [.int .i64 x0, .int .i64 (vN q0 1), .int .i64 0, .int .i64 0, .int .i64 0, .int .i64 0, .slice none 0 0, .slice none 0 0] (u45.setCell ⟨ab, 1, none⟩ (.int .i64 (vN q0 1)))) := Y46.out.set 1 _
     generalize vN q0 1 = x1 at *
     go_upto_region 22 with (fail)
     clear cc cf Y46
     generalize u45.setCell ⟨ab, 1, none⟩ (.int .i64 x1) = v48 at *
     have N := hq' (refint_any p bb (stN q0 2) _ hl XA47.out.m.r)
     unfold RIV at N
     rw [show (Bd.sInt (stN q0 2)).1 = vN q0 2 from rfl, show (Bd.sInt (stN q0 2)).2 = stN q0 3 from rfl] at N
     go_wp2_with fail
     refine N.out.mono ?_
     rintro e u49 ⟨rfl, ha⟩
     have Y50 := hq' (XA47.out.call ha)
     clear ha XA47 N
     have cc : u49.cell? ⟨ab, 2, none⟩ = some (.int .i64 0) := Y50.out.a.cell 2
     have cf := Y50.out.a.free 2
     have XA51 : Hid (RA w p bb pr pn mb zc (stN q0 3) cs0 ab [.int .i64 x0, .int .i64 x1, .int .i64 (vN q0 2), .int .i64 0, .int .i64 0, .int .i64 0, .slice none 0 0, .slice none 0 0] (u49.setCell ⟨ab, 2, none⟩ (.int .i64 (vN q0 2)))) := Y50.out.set 2 _
     generalize vN q0 2 = x2 at *
     go_upto_region 23 with (fail)
     clear cc cf Y50
     generalize u49.setCell ⟨ab, 2, none⟩ (.int .i64 x2) = v52 at *
     have N := hq' (refint_any p bb (stN q0 3) _ hl XA51.out.m.r)
     unfold RIV at N
     rw [show (Bd.sInt (stN q0 3)).1 = vN q0 3 from rfl, show (Bd.sInt (stN q0 3)).2 = stN q0 4 from rfl] at N
     go_wp2_with fail
     refine N.out.mono ?_
     rintro e u53 ⟨rfl, ha⟩
     have Y54 := hq' (XA51.out.call ha)
     clear ha XA51 N
     have cc : u53.cell? ⟨ab, 3, none⟩ = some (.int .i64 0) := Y54.out.a.cell 3
     have cf := Y54.out.a.free 3
     have XA55 : Hid (RA w p bb pr pn mb zc (stN q0 4) cs0 ab [.int .i64 x0, .int .i64 x1, .int .i64 x2, .int .i64 (vN q0 3), .int .i64 0, .int .i64 0, .slice none 0 0, .slice none 0 0] (u53.setCell ⟨ab, 3, none⟩ (.int .i64 (vN q0 3)))) := Y54.out.set 3 _
     generalize vN q0 3 = x3 at *
     go_upto_region 24 with (fail)
     clear cc cf Y54
     generalize u53.setCell ⟨ab, 3, none⟩ (.int .i64 x3) = v56 at *
     have N := hq' (refint_any p bb (stN q0 4) _ hl XA55.out.m.r)
     unfold RIV at N
     rw [show (Bd.sInt (stN q0 4)).1 = vN q0 4 from rfl, show (Bd.sInt (stN q0 4)).2 = stN q0 5 from rfl] at N
     go_wp2_with fail
     refine N.out.mono ?_
     rintro e u57 ⟨rfl, ha⟩
     have Y58 := hq' (XA55.out.call ha)
     clear ha XA55 N
     have cc : u57.cell? ⟨ab, 4, none⟩ = some (.int .i64 0) := Y58.out.a.cell 4
     have cf := Y58.out.a.free 4
     have XA59 : Hid (RA w p bb pr pn mb zc (stN q0 5) cs0 ab [.int .i64 x0, .int .i64 x1, .int .i64 x2, .int .i64 x3, .int .i64 (vN q0 4), .int .i64 0, .slice none 0 0, .slice none 0 0] (u57.setCell ⟨ab, 4, none⟩ (.int .i64 (vN q0 4)))) := Y58.out.set 4 _
     generalize vN q0 4 = x4 at *
     go_upto_region 25 with (fail)
     clear cc cf Y58
     generalize u57.setCell ⟨ab, 4, none⟩ (.int .i64 x4) = v60 at *
     have N := hq' (refint_any p bb (stN q0 5) _ hl XA59.out.m.r)
     unfold RIV at N
     rw [show (Bd.sInt (stN q0 5)).1 = vN q0 5 from rfl, show (Bd.sInt (stN q0 5)).2 = stN q0 6 from rfl] at N
     go_wp2_with fail
     refine N.out.mono ?_
     rintro e u61 ⟨rfl, ha⟩
     have Y62 := hq' (XA59.out.call ha)
     clear ha XA59 N
     have cc : u61.cell? ⟨ab, 5, none⟩ = some (.int .i64 0) := Y62.out.a.cell 5
     have cf := Y62.out.a.free 5
     have XA63 : Hid (RA w p bb pr pn mb zc (stN q0 6) cs0 ab [.int .i64 x0, .int .i64 x1, .int .i64 x2, .int .i64 x3, .int .i64 x4, .int .i64 (vN q0 5), .slice none 0 0, .slice none 0 0] (u61.setCell ⟨ab, 5, none⟩ (.int .i64 (vN q0 5)))) := Y62.out.set 5 _
     generalize vN q0 5 = x5 at *
     go_upto_region 26 with (fail)
     clear cc cf Y62
     generalize u61.setCell ⟨ab, 5, none⟩ (.int .i64 x5) = v64 at *
     go_wp2_with fail
     refine (HIN6.out _ XA63.out.m.r).mono ?_
     rintro e ua ⟨v9, rfl, ho, hr, hk⟩
     have YA := hq' (XA63.out.own hr hk)
     have hab := XA63.out.a.lt
     have hmab := XA63.out.h
     obtain ⟨a0, cp0, he0⟩ := own_form ho
     subst he0
     have O0 : Hid (ua.ownsRow (ab + 1) 3 1 (.slice a0 pp.length cp0) pp.length (iv pp)) := ownsRow_weaken ho hab
     clear ho hr hk XA63 HIN6 hab
     have cc : ua.cell? ⟨ab, 6, none⟩ = some (.slice none 0 0) := YA.out.a.cell 6
     have cf := YA.out.a.free 6
     have XP : Hid (RA w p bb pr pn mb zc qp cs0 ab [.int .i64 x0, .int .i64 x1, .int .i64 x2, .int .i64 x3, .int .i64 x4, .int .i64 x5, .slice a0 pp.length cp0, .slice none 0 0] (ua.setCell ⟨ab, 6, none⟩ (.slice a0 pp.length cp0))) := YA.out.set 6 _
     have O1 : Hid ((ua.setCell ⟨ab, 6, none⟩ (.slice a0 pp.length cp0)).ownsRow (ab + 1) 3 1 (.slice a0 pp.length cp0) pp.length (iv pp)) := ownsRow_keepsS O0.out (Keeps.setCell (fun j => j = ab) _ _ _ rfl) (fun j hj e => by have := (O0.out.lt j hj).1; omega)
     go_upto_region 27 with (fail)
     clear cc cf YA O0
     generalize ua.setCell ⟨ab, 6, none⟩ (.slice a0 pp.length cp0) = va at *
     go_wp2_with fail
     refine (HRE6.out _ XP.out.m.r).mono ?_
     rintro e ub ⟨v9, rfl, ho, hr, hk⟩
     have YB := hq' (XP.out.own hr hk)
     have hab := XP.out.a.lt
     have hpo := XP.out.m.o
     obtain ⟨a1, cp1, he1⟩ := own_form ho
     subst he1
     have O2 : Hid (ub.ownsRow (ab + 1) 107 4 (.slice a1 rr.length cp1) rr.length (recCells rr)) := ownsRow_weaken ho hab
     have O3 : Hid (ub.ownsRow (ab + 1) 3 1 (.slice a0 pp.length cp0) pp.length (iv pp)) := ownsRow_keepsS O1.out hk (fun j hj e => by have h1 := O1.out.lt j hj; rcases e with e | e <;> omega)
     clear ho hr hk XP HRE6 hab O1
     have cc : ub.cell? ⟨ab, 7, none⟩ = some (.slice none 0 0) := YB.out.a.cell 7
     have cf := YB.out.a.free 7
     have XQ : Hid (RA w p bb pr pn mb zc qz cs0 ab [.int .i64 x0, .int .i64 x1, .int .i64 x2, .int .i64 x3, .int .i64 x4, .int .i64 x5, .slice a0 pp.length cp0, .slice a1 rr.length cp1] (ub.setCell ⟨ab, 7, none⟩ (.slice a1 rr.length cp1))) := YB.out.set 7 _
     have KS : Hid (Keeps (fun j => j = ab) ub (ub.setCell ⟨ab, 7, none⟩ (.slice a1 rr.length cp1))) := Keeps.setCell (fun j => j = ab) _ _ _ rfl
     have O4 := hq' (ownsRow_keepsS O2.out KS.out (fun j hj e => by have := (O2.out.lt j hj).1; omega))
     have O5 := hq' (ownsRow_keepsS O3.out KS.out (fun j hj e => by have := (O3.out.lt j hj).1; omega))
     go_upto_region 28 with (fail)
     clear cc cf YB O2 O3 KS
     generalize ub.setCell ⟨ab, 7, none⟩ (.slice a1 rr.length cp1) = vb at *
     obtain ⟨ac, hac⟩ : ∃ ac : List Value, ac = [.int .i64 x0, .int .i64 x1, .int .i64 x2, .int .i64 x3, .int .i64 x4, .int .i64 x5, .slice a0 pp.length cp0, .slice a1 rr.length cp1] := ⟨_, rfl⟩
     rw [← hac] at XQ
     have HI8 : Hid ((Tryz.prog.info? 34).map (·.size) = some ac.length) := by rw [Hid, hac]; kernel_rfl
     have HI8A : Hid ((Tryz.prog.info? 34).map (·.size) = some (ac.toArray : Array Value).size) := by rw [Hid, hac]; kernel_rfl
     have HO8 : Hid ((ac.toArray : Array Value).all (·.oneCell') = true) := by rw [Hid, hac]; simp [Value.oneCell']
     have hl8 : ac.length = 8 := by rw [hac]; rfl
     have HAC := hq' hac
     clear hac
     have RB := hq' XQ.out.a.range
     have X9 := hq' (XQ.out.m.mid 30 ac)
     have TH : Hid (vb.there mb 30 (ac.toArray : Array Value).size) := XQ.out.m.c.there 30 _ (by rw [HCS0.out]; simp only [List.size_toArray, hl8]; exact Nat.le_of_ble_eq_true rfl)
     have O6 := hq' (ownsRow_weaken (ownsRow_keepsS O4.out (keeps_mid mb ac 30 vb) (fun j hj e => by have := (O4.out.lt j hj).1; omega)) (by omega : mb + 1 ≤ ab + 1))
     have O7 := hq' (ownsRow_weaken (ownsRow_keepsS O5.out (keeps_mid mb ac 30 vb) (fun j hj e => by have := (O5.out.lt j hj).1; omega)) (by omega : mb + 1 ≤ ab + 1))
     have HC2 : Hid (setAll cs0 30 ac = msgC ⟨2, f, t, pa, ep, 0, 0, 0, 0, [], 0, [], Wi.zBatch, [], Wi.zReq, ⟨x0, x1, x2, x3, x4, x5, pp, rr⟩⟩ ⟨.slice none 0 0, .slice none 0 0, .slice none 0 0, .slice none 0 0, .slice none 0 0, .slice a0 pp.length cp0, .slice a1 rr.length cp1⟩) := by rw [Hid, HAC.out, HCS0.out]; rfl
     rw [HC2.out] at X9
     have HX9 : Hid (RM w p bb pr pn mb zc qz (msgC ⟨2, f, t, pa, ep, 0, 0, 0, 0, [], 0, [], Wi.zBatch, [], Wi.zReq, ⟨x0, x1, x2, x3, x4, x5, pp, rr⟩⟩ ⟨.slice none 0 0, .slice none 0 0, .slice none 0 0, .slice none 0 0, .slice none 0 0, .slice a0 pp.length cp0, .slice a1 rr.length cp1⟩) (vb.setCells mb 30 (ac.toArray : Array Value).toList)) := X9.out
     have HO6 : Hid ((vb.setCells mb 30 (ac.toArray : Array Value).toList).ownsRow (mb + 1) 107 4 (.slice a1 rr.length cp1) rr.length (recCells rr)) := O6.out
     have HO7 : Hid ((vb.setCells mb 30 (ac.toArray : Array Value).toList).ownsRow (mb + 1) 3 1 (.slice a0 pp.length cp0) pp.length (iv pp)) := O7.out
     clear X9 O4 O5 O6 O7 XQ HC2
     go_wp2_with (first
      | (refine wpList_load_mid (by rfl) _ _ (by rfl) ab 0 (by rfl) ac _ RB.out Tryz.underlying34 (by rfl) HI8.out ?_)
      | (refine wpList_store_mid (by rfl) _ _ _ (by rfl) mb 30 ac.toArray (by rfl) (by rfl) TH.out HI8A.out HO8.out ?_)
      | fail)
     go_meet
     case rel => exact ⟨⟨2, f, t, pa, ep, 0, 0, 0, 0, [], 0, [], Wi.zBatch, [], Wi.zReq, ⟨x0, x1, x2, x3, x4, x5, pp, rr⟩⟩, ⟨.slice none 0 0, .slice none 0 0, .slice none 0 0, .slice none 0 0, .slice none 0 0, .slice a0 pp.length cp0, .slice a1 rr.length cp1⟩, qz, HX9.out, ⟨own_nil _ _ _ _, own_nil _ _ _ _, own_nil _ _ _ _, tab_nil _ _, own_nil _ _ _ _, HO7.out, HO6.out⟩, msgOk_of (by simp only [List.mem_cons, List.not_mem_nil, or_false, forall_eq_or_imp, forall_eq]; exact ⟨I1.out, I2.out, I3.out, I4.out, I5.out, ⟨by decide, by decide⟩, ⟨by decide, by decide⟩, ⟨by decide, by decide⟩, ⟨by decide, by decide⟩, ⟨by decide, by decide⟩⟩) ⟨Nat.zero_le _, fun x hx => by cases hx⟩ ⟨Nat.zero_le _, fun x hx => by cases hx⟩ zBat_ok zTab_ok zReq_ok ⟨⟨r0, r1, r2, r3, r4, r5⟩, HPK.out, HRK.out.1, HRK.out.2⟩, HT.out⟩
   by_cases e4 : k = 4
   ·as_aux_lemma =>
     subst e4
     have k0 := (XH.out.c.cell 0).trans (show cs0[0]? = some (.int .i64 4) by rw [HCS0.out]; rfl)
     have XZ : Hid (RM w p bb pr pn mb zc (stN q0 0) cs0 w8) := XH.out
     clear XH
     have HT : Hid (Wi.tTail (hdMsg 4 f t pa ep) q0 = ((⟨4, f, t, pa, ep, 0, 0, 0, vN q0 0, (Wi.tInts (stN q0 1)).1, (Bd.sInt (Wi.tInts (stN q0 1)).2).1, if Wi.evenB (Wi.tInts (Bd.sInt (Wi.tInts (stN q0 1)).2).2).1 then Wi.pairs (Wi.tInts (Bd.sInt (Wi.tInts (stN q0 1)).2).2).1 else [], Wi.zBatch, [], Wi.zReq, Wi.zResp⟩, Wi.evenB (Wi.tInts (Bd.sInt (Wi.tInts (stN q0 1)).2).2).1), (Wi.tInts (Bd.sInt (Wi.tInts (stN q0 1)).2).2).2)) := by rfl
     have HPC := hq' (tInts_ok (stN q0 1))
     have HPL := hq' (tInts_ok (Bd.sInt (Wi.tInts (stN q0 1)).2).2)
     have hl20 : (Wi.tInts (Bd.sInt (Wi.tInts (stN q0 1)).2).2).1.length ≤ 20 := tInts_20 _
     have r0 : Bd.inR (vN q0 0) := sInt_inR _
     have r1 : Bd.inR (Bd.sInt (Wi.tInts (stN q0 1)).2).1 := sInt_inR _
     have HIC := hq' (fun W (h : RU W p bb (stN q0 1)) => refreadInts_any p bb (stN q0 1) W hl h)
     have HIB := hq' (fun W (h : RU W p bb (Wi.tInts (stN q0 1)).2) => refint_any p bb (Wi.tInts (stN q0 1)).2 W hl h)
     have HIL9 := hq' (fun W (h : RU W p bb (Bd.sInt (Wi.tInts (stN q0 1)).2).2) => refreadInts_any p bb (Bd.sInt (Wi.tInts (stN q0 1)).2).2 W hl h)
     unfold RIV at HIB
     generalize (Wi.tInts (Bd.sInt (Wi.tInts (stN q0 1)).2).2).2 = qz at *
     generalize (Wi.tInts (Bd.sInt (Wi.tInts (stN q0 1)).2).2).1 = ll at *
     generalize (Bd.sInt (Wi.tInts (stN q0 1)).2).2 = qb at *
     generalize (Bd.sInt (Wi.tInts (stN q0 1)).2).1 = lr at *
     generalize (Wi.tInts (stN q0 1)).2 = qc at *
     generalize (Wi.tInts (stN q0 1)).1 = ch at *
     have N := hq' (refint_any p bb (stN q0 0) _ hl XZ.out.r)
     unfold RIV at N
     rw [show (Bd.sInt (stN q0 0)).1 = vN q0 0 from rfl, show (Bd.sInt (stN q0 0)).2 = stN q0 1 from rfl] at N
     go_wp2_with fail
     refine N.out.mono ?_
     rintro e u66 ⟨rfl, ha⟩
     have Y65 := hq' (XZ.out.call ha)
     clear ha XZ N 
     have cc := (Y65.out.c.cell 8).trans (show cs0[8]? = some (.int .i64 0) by rw [HCS0.out]; rfl)
     have cf := Y65.out.c.free 8
     have X67 : Hid (RM w p bb pr pn mb zc (stN q0 1) (cs0.set 8 (.int .i64 (vN q0 0))) (u66.setCell ⟨mb, 8, none⟩ (.int .i64 (vN q0 0)))) := Y65.out.set 8 _
     generalize vN q0 0 = x0 at *
     go_upto_region 33 with (fail)
     clear cc cf Y65
     generalize u66.setCell ⟨mb, 8, none⟩ (.int .i64 x0) = v68 at *
     go_wp2_with fail
     refine (HIC.out _ X67.out.r).mono ?_
     rintro e ua ⟨v9, rfl, ho, hr, hk⟩
     have YA := hq' (X67.out.own hr hk)
     have hmb := X67.out.c.lt
     have hpo := X67.out.o
     obtain ⟨a0, cp0, he0⟩ := own_form ho
     subst he0
     have O0 : Hid (ua.ownsRow (mb + 1) 3 1 (.slice a0 ch.length cp0) ch.length (iv ch)) := ownsRow_weaken ho hmb
     clear ho hr hk X67 HIC hmb
     have cc := (YA.out.c.cell 9).trans (show (cs0.set 8 (.int .i64 x0))[9]? = some (.slice none 0 0) by rw [HCS0.out]; rfl)
     have cf := YA.out.c.free 9
     have XP : Hid (RM w p bb pr pn mb zc qc ((cs0.set 8 (.int .i64 x0)).set 9 (.slice a0 ch.length cp0)) (ua.setCell ⟨mb, 9, none⟩ (.slice a0 ch.length cp0))) := YA.out.set 9 _
     have O1 : Hid ((ua.setCell ⟨mb, 9, none⟩ (.slice a0 ch.length cp0)).ownsRow (mb + 1) 3 1 (.slice a0 ch.length cp0) ch.length (iv ch)) := ownsRow_keepsS O0.out (Keeps.setCell (fun j => j = mb) _ _ _ rfl) (fun j hj e => by have := (O0.out.lt j hj).1; omega)
     go_upto_region 34 with (fail)
     clear cc cf YA O0
     generalize ua.setCell ⟨mb, 9, none⟩ (.slice a0 ch.length cp0) = va at *
     go_wp2_with fail
     refine (HIB.out _ XP.out.r).mono ?_
     rintro e ub ⟨rfl, ha⟩
     have YB := hq' (XP.out.call ha)
     have O2 : Hid (ub.ownsRow (mb + 1) 3 1 (.slice a0 ch.length cp0) ch.length (iv ch)) := ownsRow_keepsS O1.out ha.2 (fun j hj e => by have := (O1.out.lt j hj).1; omega)
     clear ha XP O1 HIB
     have cc := (YB.out.c.cell 10).trans (show ((cs0.set 8 (.int .i64 x0)).set 9 (.slice a0 ch.length cp0))[10]? = some (.int .i64 0) by rw [HCS0.out]; rfl)
     have cf := YB.out.c.free 10
     have XQ : Hid (RM w p bb pr pn mb zc qb (((cs0.set 8 (.int .i64 x0)).set 9 (.slice a0 ch.length cp0)).set 10 (.int .i64 lr)) (ub.setCell ⟨mb, 10, none⟩ (.int .i64 lr))) := YB.out.set 10 _
     have O3 : Hid ((ub.setCell ⟨mb, 10, none⟩ (.int .i64 lr)).ownsRow (mb + 1) 3 1 (.slice a0 ch.length cp0) ch.length (iv ch)) := ownsRow_keepsS O2.out (Keeps.setCell (fun j => j = mb) _ _ _ rfl) (fun j hj e => by have := (O2.out.lt j hj).1; omega)
     go_upto_region 35 with (fail)
     clear cc cf YB O2
     generalize ub.setCell ⟨mb, 10, none⟩ (.int .i64 lr) = vb at *
     obtain ⟨c4, hc4⟩ : ∃ c4, c4 = (((cs0.set 8 (.int .i64 x0)).set 9 (.slice a0 ch.length cp0)).set 10 (.int .i64 lr)) := ⟨_, rfl⟩
     rw [← hc4] at XQ
     have HC4 : Hid (c4 = msgC ⟨4, f, t, pa, ep, 0, 0, 0, x0, ch, lr, [], Wi.zBatch, [], Wi.zReq, Wi.zResp⟩ ⟨.slice a0 ch.length cp0, .slice none 0 0, .slice none 0 0, .slice none 0 0, .slice none 0 0, .slice none 0 0, .slice none 0 0⟩) := by rw [Hid, hc4, HCS0.out]; rfl
     clear hc4 HCS0 k0
     go_wp2_with fail
     refine (HIL9.out _ XQ.out.r).mono ?_
     rintro e ud ⟨v9, rfl, ho, hr, hk⟩
     have XD := hq' (XQ.out.own hr hk)
     have hmb := XQ.out.c.lt
     obtain ⟨al, cl, he0⟩ := own_form ho
     subst he0
     have OL : Hid (ud.ownsRow (mb + 1) 3 1 (.slice al ll.length cl) ll.length (iv ll)) := ownsRow_weaken ho hmb
     have OC : Hid (ud.ownsRow (mb + 1) 3 1 (.slice a0 ch.length cp0) ch.length (iv ch)) := ownsRow_keepsS O3.out hk (fun j hj e => by have h1 := O3.out.lt j hj; rcases e with e | e <;> omega)
     clear ho hr hk XQ HIL9 hmb O3
     by_cases hev : ll.length % 2 = 0
     rotate_left
     ·have HEV : Hid (Wi.evenB ll = false) := by simp [Hid, Wi.evenB, hev]
      have hrm : ((ll.length : Int) % 2 != 0) = true := by rw [rem_two, decide_eq_false hev]; rfl
      rw [HEV.out] at HT
      have HR : Hid (refM s = (none, 3)) := HNO.out (by rw [HT.out])
      have HEE := hq' hev
      clear HT HNO HEV OL OC hev
      have RN := hq' (XD.out.n).range
      have CQ : Hid (ud.heap[pr]? = some (.cells zc.toArray 36 (0, 0))) := XD.out.z
      obtain ⟨wf, hwf, CF, BF⟩ := ret_row XD.out.z XD.out.b XD.out.o.1 zc
      have HWF := hq' hwf
      clear hwf
      go_wp2_with (first
       | (refine wpList_load_mid (by rfl) _ _ (by rfl) pn 0 (by rfl) zc _ RN.out Tryz.underlying36 (by rfl) HIL.out ?_)
       | (refine wpList_store_row (by rfl) _ _ _ (by rfl) pr zc.toArray (by rfl) (by rfl) 36 _ CQ.out HIA.out rfl HONE.out ?_)
       | fail)
      first | rw [HWF.out] | skip
      rw [HBP.out]
      refine bodyPost_ret (results_cl_tmp rfl _ _ _ _ _ _ rfl CF.out Tryz.underlying36 rfl HIL.out) rfl ?_
      rw [HR.out, HZC.out]
      exact DecR.no BF.out
     have HEV : Hid (Wi.evenB ll = true) := by simp [Hid, Wi.evenB, hev]
     have hrm : ((ll.length : Int) % 2 != 0) = false := by rw [rem_two, decide_eq_true hev]; rfl
     rw [HEV.out] at HT
     have HPR2 : Hid (Wi.pairs ll = (List.range (ll.length / 2)).map (pairAt ll)) := pairs_at (ll.length / 2) ll (by omega)
     have HT2 : Hid (Wi.tTail (hdMsg 4 f t pa ep) q0 = ((⟨4, f, t, pa, ep, 0, 0, 0, x0, ch, lr, (List.range (ll.length / 2)).map (pairAt ll), Wi.zBatch, [], Wi.zReq, Wi.zResp⟩, true), qz)) := by
      rw [Hid, HT.out, ← HPR2.out]
      rfl
     clear HT HNO HEV HPR2
     have hll : (ll.length : Int) ≤ 4294967295 := by omega
     go_wp2_with fail
     go_loopw [12] (fun i wr => ∃ (j n : Nat) (a : Option Addr) (c : Nat), i = .int .i64 (n : Int) ∧ n = 2 * j ∧ n ≤ ll.length ∧ RM w p bb pr pn mb zc qz (c4.set 11 (.slice a j c)) wr ∧ wr.ownsRow (mb + 1) 64 2 (.slice a j c) j (lifeCells ((List.range j).map (pairAt ll))) ∧ wr.ownsRow (mb + 1) 3 1 (.slice al ll.length cl) ll.length (iv ll) ∧ wr.ownsRow (mb + 1) 3 1 (.slice a0 ch.length cp0) ch.length (iv ch)) (fun i _ => ll.length - (intOf i).toNat)
     case atStart =>
      refine ⟨0, 0, none, 0, rfl, rfl, Nat.zero_le _, ?_, own_nil _ _ _ _, OL.out, OC.out⟩
      have h := XD.out
      rw [show c4 = c4.set 11 (.slice none 0 0) from by rw [HC4.out]; rfl] at h
      exact h
     case round =>
      obtain ⟨j, n, a, c, rfl, hn2, hnl, hrm4, hov, hol, hoc⟩ := hrel
      have XR := hq' hrm4
      have OV := hq' hov
      have OL2 := hq' hol
      have OC2 := hq' hoc
      have HN2 := hq' hn2
      clear hrm4 hov hol hoc hn2 XD OL OC hrm
      by_cases hlt : n < ll.length
      ·have hlti : (n : Int) < (ll.length : Int) := by omega
       have hn1 : n + 1 < ll.length := by have := HN2.out; omega
       have hn1i : (n : Int) + 1 < (ll.length : Int) := by omega
       obtain ⟨g, off, hal, p0⟩ := own_int OL2.out hlt
       subst hal
       have p1 := own_int_at OL2.out hn1
       have PX : Hid (pairAt ll j = (ll.getD n 0, ll.getD (n + 1) 0)) := by rw [Hid, HN2.out]; rfl
       obtain ⟨x4, hx4⟩ : ∃ x4, x4 = ll.getD n 0 := ⟨_, rfl⟩
       obtain ⟨x5, hx5⟩ : ∃ x5, x5 = ll.getD (n + 1) 0 := ⟨_, rfl⟩
       rw [← hx4, ← hx5] at PX
       have HX4 := hq' hx4
       have HX5 := hq' hx5
       clear hx4 hx5
       go_upto_region 41 with (fail)
       obtain ⟨i0, hi, hz0, hz1, hz2⟩ := info_parts lifeInfo
       obtain ⟨W1, hW1⟩ : ∃ W1, W1 = wr.drew := ⟨_, rfl⟩
       have KD : Hid (Keeps (fun _ => False) wr W1) := by rw [hW1]; exact Keeps.below _ (Below.refl _ _).drew
       have XR1 : Hid (RM w p bb pr pn mb zc qz (c4.set 11 (.slice a j c)) W1) := XR.out.keep KD.out (XR.out.r.keep KD.out id) id id id (fun _ _ => id)
       have OV1 := hq' (ownsRow_keepsS OV.out KD.out (fun _ _ => id))
       have OL1 := hq' (ownsRow_keepsS OL2.out KD.out (fun _ _ => id))
       have OC1 := hq' (ownsRow_keepsS OC2.out KD.out (fun _ _ => id))
       clear KD XR OV OL2 OC2 p0 p1
       have hmb1 := XR1.out.c.lt
       have hbytes : (j + 1) * 16 ≤ 140737488355328 := by have := HN2.out; omega
       obtain ⟨W2, hW2⟩ : ∃ W2, W2 = W1.alloc (.cells #[.int .i64 x4, .int .i64 x5] 64) := ⟨_, rfl⟩
       obtain ⟨v', W3, happ, hown, hgr, _⟩ := run_append_own (P := Tryz.prog) (w := W1.alloc (.cells #[.int .i64 x4, .int .i64 x5] 64)) (mb + 1) 25 25 64 i0 _ 2 16 Tryz.underlying25 hi hz0 hz1 hz2 rfl (by decide) (.slice a j c) j (lifeCells ((List.range j).map (pairAt ll))) (World.ownsRow.alloc OV1.out _)
        ⟨W1.heap.size, 0, none⟩ 1 1 [.int .i64 x4, .int .i64 x5] rfl (World.news_of_block (cs := #[.int .i64 x4, .int .i64 x5]) (t := 64) (fr := (0, 0)) (heap_alloc_new W1 _)) (by simp [Value.oneCell']) (by unfold maxLen; have := HN2.out; omega) hbytes (by rw [World.size_alloc]; omega)
       obtain ⟨a', c', hv'⟩ := own_form hown
       subst hv'
       have K2 : Hid (Keeps (fun _ => False) W1 W2) := by rw [hW2]; exact Keeps.alloc _ _ _
       have K3 : Hid (Keeps (fun k => (Value.slice a j c).ownBlock = some k) W1 W3) := (Keeps.alloc _ _ _).trans (Keeps.grown hgr (fun k hk => hk))
       have HAPP := hq' happ
       have HNV : Hid (lifeCells ((List.range (j + 1)).map (pairAt ll)) = lifeCells ((List.range j).map (pairAt ll)) ++ [.int .i64 x4, .int .i64 x5]) := by
        rw [Hid, List.range_succ, List.map_append, List.map_singleton, lifeCells_app, PX.out]
       have OV3 : Hid (W3.ownsRow (mb + 1) 64 2 (.slice a' (j + 1) c') (j + 1) (lifeCells ((List.range (j + 1)).map (pairAt ll)))) := by rw [HNV.out]; exact hown
       have OL3 := hq' (ownsRow_keepsS OL1.out K3.out (fun k hk e => own_ne2 OL1.out OV1.out (by decide) k hk e))
       have OC3 := hq' (ownsRow_keepsS OC1.out K3.out (fun k hk e => own_ne2 OC1.out OV1.out (by decide) k hk e))
       have hpo1 := XR1.out.o
       have KB3 : Hid (Keeps (fun k => mb + 1 ≤ k) W1 W3) := K3.out.mono fun k _ e => (OV1.out.lt k e).1
       have XR3 := hq' (XR1.out.grown KB3.out (by omega))
       obtain ⟨W5, hW5⟩ : ∃ W5, W5 = W3.setCell ⟨mb, 11, none⟩ (.slice a' (j + 1) c') := ⟨_, rfl⟩
       have K5 : Hid (Keeps (fun k => k = mb) W3 W5) := by rw [hW5]; exact Keeps.setCell _ _ _ _ rfl
       have XR5 : Hid (RM w p bb pr pn mb zc qz (c4.set 11 (.slice a' (j + 1) c')) W5) := by
        have h := XR3.out.set 11 (.slice a' (j + 1) c')
        rw [List.set_set, ← hW5] at h
        exact h
       have OV5 := hq' (ownsRow_keepsS OV3.out K5.out (fun k hk e => by have := (OV3.out.lt k hk).1; omega))
       have OL5 := hq' (ownsRow_keepsS OL3.out K5.out (fun k hk e => by have := (OL3.out.lt k hk).1; omega))
       have OC5 := hq' (ownsRow_keepsS OC3.out K5.out (fun k hk e => by have := (OC3.out.lt k hk).1; omega))
       have OL22 := hq' (ownsRow_keepsS OL1.out K2.out (fun _ _ => id))
       have XR2 : Hid (RM w p bb pr pn mb zc qz (c4.set 11 (.slice a j c)) W2) := XR1.out.keep K2.out (XR1.out.r.keep K2.out id) id id id (fun _ _ => id)
       have hc11 : ∀ u : Value, (c4.set 11 u)[11]? = some u := fun u => by rw [HC4.out]; rfl
       have M1 : Hid (W1.cell? ⟨mb, 11, none⟩ = some (.slice a j c)) := (XR1.out.c.cell 11).trans (hc11 _)
       have M2 : Hid (W2.cell? ⟨mb, 11, none⟩ = some (.slice a j c)) := (XR2.out.c.cell 11).trans (hc11 _)
       have M3 : Hid (W3.cell? ⟨mb, 11, none⟩ = some (.slice a j c)) := (XR3.out.c.cell 11).trans (hc11 _)
       have F3 : Hid (W3.frozen? ⟨mb, 11, none⟩ = false) := XR3.out.c.free 11
       have E2 := hq' hW2
       have E5 := hq' hW5
       have EC := hq' hW1
       have c1 := lwC.cell (own_int_at OL1.out hlt) (own_int_at OL22.out hlt) (own_int_at OL3.out hlt) (own_int_at OL5.out hlt)
       have c2 := lwC.cell (own_int_at OL1.out hn1) (own_int_at OL22.out hn1) (own_int_at OL3.out hn1) (own_int_at OL5.out hn1)
       rw [← HX4.out] at c1
       rw [← HX5.out] at c2
       clear HX4 HX5 PX happ hown hgr hW1 hW2 hW5 XR1 XR2 XR3 OV1 OL1 OC1 OV3 OL3 OC3 OL22 K2 K3 K5 KB3 HNV hc11 hi hz0 hz1 hz2 hmb1
       have hne : Nonempty (AnyOf (lwC W1 W2 W3 W5)) := ⟨⟨W1, Array.replicate 16 false, rfl⟩⟩
       refine wp_region_ranks (lwC W1 W2 W3 W5) _ (by kernel_rfl) (by kernel_rfl) rfl (by rw [← EC.out]; rfl) ?_
       refine rQuiet_head 1 (by decide) (by kernel_rfl) (fun i L W h1 h2 hc => hc.set (by omega) (by omega) (by omega)) ?_
       simp only [tk', t0', dk', d0']
       repeat (go_big_quiet_step (fail))
       refine wpQuiet_nil ?_
       refine rQuiet_value (.slice a j c) (fun W => W) rfl (fun L w hD hi hc => ?_) ?_
       ·have h1 := ready_not hi
        have h13 : L.getD 13 false = false := by
         cases h : L.getD 13 false with
         | false => rfl
         | true => rw [hD.wait (j := 13) (i := 1) (by kernel_rfl) h] at h1; cases h1
        have h15 : L.getD 15 false = false := by
         cases h : L.getD 15 false with
         | false => rfl
         | true => rw [hD.wait (j := 15) (i := 13) (by kernel_rfl) h] at h13; cases h13
        refine ⟨exec_ldL _ _ _ 121 ⟨mb, 11, none⟩ _ rfl rfl ?_, hc.set (by omega) (by omega) (by omega)⟩
        rcases hc.first h15 h13 with e | e <;> rw [e]
        ·exact M1.out
        ·exact M2.out
       simp only [Act.put, ta', sz', ss']
       refine rQuiet_head 9 (by decide) (by kernel_rfl) (fun i L W h1 h2 hc => hc.set (by omega) (by omega) (by omega)) ?_
       simp only [tk', t0', dk', d0']
       repeat (go_big_quiet_step (fail))
       refine wpQuiet_nil ?_
       refine rQuiet_value (.agg #[.int .i64 x4, .int .i64 x5]) (fun W => W) rfl (fun L w hD hi hc => ⟨exec_b2L _ _ _ 126 131 _ _ rfl rfl rfl, hc.set (by omega) (by omega) (by omega)⟩) ?_
       simp only [Act.put, ta', sz', ss']
       refine rQuiet_value (.slice (some ⟨W1.heap.size, 0, none⟩) 1 1) (fun _ => W2) rfl (fun L w hD hi hc => ?_) ?_
       ·have h12 := ready_not hi
        have h13 : L.getD 13 false = false := by
         cases h : L.getD 13 false with
         | false => rfl
         | true => rw [hD.wait (j := 13) (i := 12) (by kernel_rfl) h] at h12; cases h12
        have h15 : L.getD 15 false = false := by
         cases h : L.getD 15 false with
         | false => rfl
         | true => rw [hD.wait (j := 15) (i := 13) (by kernel_rfl) h] at h13; cases h13
        have hsz : 12 < L.size := by rw [hD.1]; decide
        have hw : w = W1 := by
         have h := hc
         unfold lwC at h
         rw [h15, h13, h12] at h
         exact h
        subst hw
        refine ⟨by rw [E2.out]; exact exec_bsL _ _ _ 132 _ _ rfl rfl, ?_⟩
        unfold lwC
        rw [getD_set_ne false (by omega), getD_set_ne false (by omega), h15, h13]
        simp [hsz]
       simp only [Act.put, ta', sz', ss']
       refine rQuiet_value (.slice a' (j + 1) c') (fun _ => W3) rfl (fun L w hD hi hc => ?_) ?_
       ·have h13 := ready_not hi
        have h12 : L.getD 12 false = true := ready_wait hi (i := 12) (by kernel_rfl)
        have h15 : L.getD 15 false = false := by
         cases h : L.getD 15 false with
         | false => rfl
         | true => rw [hD.wait (j := 15) (i := 13) (by kernel_rfl) h] at h13; cases h13
        have hsz : 13 < L.size := by rw [hD.1]; decide
        have hw : w = W2 := by
         have h := hc
         unfold lwC at h
         rw [h15, h13, h12] at h
         exact h
        subst hw
        refine ⟨exec_appL _ _ _ _ (.tmp 122) (.tmp 133) 25 _ rfl (by rw [E2.out]; exact HAPP.out), ?_⟩
        unfold lwC
        rw [getD_set_ne false (by omega), h15]
        simp [hsz]
       simp only [Act.put, ta', sz', ss']
       refine rQuiet_head 1 (by decide) (by kernel_rfl) (fun i L W h1 h2 hc => hc.set (by omega) (by omega) (by omega)) ?_
       simp only [tk', t0', dk', d0']
       repeat (go_big_quiet_step (fail))
       refine wpQuiet_nil ?_
       refine rQuiet_store (fun _ => W5) rfl (fun L w hD hi hc => ?_) ?_
       ·have h15 := ready_not hi
        have h13 : L.getD 13 false = true := ready_wait hi (i := 13) (by kernel_rfl)
        have hsz : 15 < L.size := by rw [hD.1]; decide
        have hw : w = W3 := by
         have h := hc
         unfold lwC at h
         rw [h15, h13] at h
         exact h
        subst hw
        refine ⟨by rw [E5.out]; exact exec_stL _ _ _ 135 134 _ _ _ rfl rfl rfl ⟨_, _, _, rfl⟩ M3.out F3.out, ?_⟩
        unfold lwC
        simp [hsz]
       intro w9 h9
       have hw9 : w9 = W5 := h9
       subst hw9
       clear h9 c1 c2 M1 M2 M3 F3 E2 E5 EC HAPP hne
       have hn3 : (n : Int) + 2 ≤ 9223372036854775807 := by omega
       go_wp2
       go_roundw
       case rel => exact ⟨j + 1, n + 2, a', c', by go_num, by have := HN2.out; omega, by have := HN2.out; omega, XR5.out, OV5.out, OL5.out, OC5.out⟩
       case measure => simp [intOf]; omega
      ·obtain rfl : n = ll.length := by omega
       have hj : j = ll.length / 2 := by have := HN2.out; omega
       subst hj
       clear HN2 hnl hlt
       go_wp2
       go_meet
       case rel =>
        have h := XR.out
        have hlen : ((List.range (ll.length / 2)).map (pairAt ll)).length = ll.length / 2 := by rw [List.length_map, List.length_range]
        rw [show c4.set 11 (.slice a (ll.length / 2) c) = msgC ⟨4, f, t, pa, ep, 0, 0, 0, x0, ch, lr, (List.range (ll.length / 2)).map (pairAt ll), Wi.zBatch, [], Wi.zReq, Wi.zResp⟩ ⟨.slice a0 ch.length cp0, .slice a (ll.length / 2) c, .slice none 0 0, .slice none 0 0, .slice none 0 0, .slice none 0 0, .slice none 0 0⟩ from by rw [HC4.out]; rfl] at h
        have hlv := OV.out
        rw [← hlen] at hlv
        exact ⟨⟨4, f, t, pa, ep, 0, 0, 0, x0, ch, lr, (List.range (ll.length / 2)).map (pairAt ll), Wi.zBatch, [], Wi.zReq, Wi.zResp⟩, ⟨.slice a0 ch.length cp0, .slice a (ll.length / 2) c, .slice none 0 0, .slice none 0 0, .slice none 0 0, .slice none 0 0, .slice none 0 0⟩, qz, h, ⟨OC2.out, (by rw [hlen]; have := OV.out; exact this), own_nil _ _ _ _, tab_nil _ _, own_nil _ _ _ _, own_nil _ _ _ _, own_nil _ _ _ _⟩, msgOk_of (by simp only [List.mem_cons, List.not_mem_nil, or_false, forall_eq_or_imp, forall_eq]; exact ⟨I1.out, I2.out, I3.out, I4.out, I5.out, ⟨by decide, by decide⟩, ⟨by decide, by decide⟩, ⟨by decide, by decide⟩, r0, r1⟩) HPC.out (lives_ok HPL.out) zBat_ok zTab_ok zReq_ok zResp_ok, HT2.out⟩
   exact absurd (show k ≤ 0 ∨ 10 ≤ k by omega) e0
  case rest =>
   obtain ⟨m, v, qz, hx, hmo, hok, ht⟩ := hcut
   have HD2 : Hid (refM s = if (decide (Bd.sDone (Bd.sSign 101 qz) = 0) && (decide (pos = s.length) && Wi.good m)) then (some m, 0) else (none, 3)) := by
    rw [Hid, HD1.out, ht]
    rfl
   have XR := hq' hx
   have MO := hq' hmo
   have MK := hq' hok
   clear hx hmo hok ht HD1 k0 XH HCS0 HIN
   generalize wc = wr at *
   have HCL := hq' (refclose_any p bb qz wr hl XR.out.r)
   generalize Bd.sSign 101 qz = q9 at *
   go_wp2_with fail
   refine HCL.out.mono ?_
   rintro e wd ⟨rfl, h9⟩
   have XD := hq' (XR.out.call h9)
   have hpm := XR.out.o
   have MD : Hid (MsgO wd (mb + 1) m v) := MO.out.keepsS h9.2 (fun j hj e => by omega)
   clear h9 XR MO HCL
   have HDN := hq' (refdone_any p bb q9 wd hl XD.out.r)
   obtain ⟨cs, hcs⟩ : ∃ cs : List Value, cs = msgC m v := ⟨_, rfl⟩
   rw [← hcs] at XD
   have HG := hq' (fun (W : World) (hW : Below wd.heap.size wd W) => refgood14_any m v W ((MD.out.keepsS (Keeps.below (fun _ => False) hW) (fun _ _ => id)).at) MK.out MD.out.cap cs hcs.symm)
   have HIL2 : Hid ((Tryz.prog.info? 36).map (·.size) = some cs.length) := by rw [Hid, hcs]; kernel_rfl
   have HIA2 : Hid ((Tryz.prog.info? 36).map (·.size) = some (cs.toArray : Array Value).size) := by rw [Hid, hcs]; kernel_rfl
   have HONE2 : Hid ((cs.toArray : Array Value).all (·.oneCell') = true) := by
    obtain ⟨_, _, e1⟩ := own_form MD.out.chain
    obtain ⟨_, _, e2⟩ := own_form MD.out.lives
    obtain ⟨_, _, e3⟩ := own_form MD.out.brecs
    obtain ⟨_, _, e4⟩ := MD.out.table.tbl.form
    obtain ⟨_, _, e5⟩ := own_form MD.out.qrecs
    obtain ⟨_, _, e6⟩ := own_form MD.out.parts
    obtain ⟨_, _, e7⟩ := own_form MD.out.arecs
    rw [Hid, hcs, msgC, e1, e2, e3, e4, e5, e6, e7]
    simp [Value.oneCell']
   have HSZ2 : Hid ((zc.toArray : Array Value).size = (cs.toArray : Array Value).size) := by rw [Hid, hcs, HZC.out]; rfl
   have HMV : Hid (msgV m v = .agg cs.toArray) := by rw [Hid, msgV, hcs]
   clear hcs
   go_wp2_with fail
   refine HDN.out.mono ?_
   rintro e we ⟨rfl, nd, rfl⟩
   have BE := hq' (below_drewN (Below.refl wd.heap.size wd) nd)
   have XE := hq' (XD.out.below BE.out)
   have ME : Hid (MsgO (wd.drewN nd) (mb + 1) m v) := MD.out.keepsS (Keeps.below (fun _ => False) BE.out) (fun _ _ => id)
   have HGE := hq' (HG.out _ BE.out)
   clear XD MD HDN BE HG
   generalize wd.drewN nd = we at *
   by_cases hd : Bd.sDone q9 = 0
   rotate_left
   ·have HR : Hid (refM s = (none, 3)) := by rw [Hid, HD2.out, decide_eq_false hd]; rfl
    have hd2 : (Bd.sDone q9 != 0) = true := by simpa using hd
    clear HD2 HGE ME
    generalize Bd.sDone q9 = dn at *
    have HDD := hq' hd
    clear hd
    have RN := hq' (XE.out.n).range
    have CQ : Hid (we.heap[pr]? = some (.cells zc.toArray 36 (0, 0))) := XE.out.z
    obtain ⟨wf, hwf, CF, BF⟩ := ret_row XE.out.z XE.out.b XE.out.o.1 zc
    have HWF := hq' hwf
    clear hwf
    go_wp2_with (first
     | (refine wpList_load_mid (by rfl) _ _ (by rfl) pn 0 (by rfl) zc _ RN.out Tryz.underlying36 (by rfl) HIL.out ?_)
     | (refine wpList_store_row (by rfl) _ _ _ (by rfl) pr zc.toArray (by rfl) (by rfl) 36 _ CQ.out HIA.out rfl HONE.out ?_)
     | fail)
    first | rw [HWF.out] | skip
    rw [HBP.out]
    refine bodyPost_ret (results_cl_tmp rfl _ _ _ _ _ _ rfl CF.out Tryz.underlying36 rfl HIL.out) rfl ?_
    rw [HR.out, HZC.out]
    exact DecR.no BF.out
   rw [decide_eq_true hd] at HD2
   rw [hd]
   clear hd
   by_cases hat : pos = s.length
   rotate_left
   ·have HR : Hid (refM s = (none, 3)) := by rw [Hid, HD2.out, decide_eq_false hat]; rfl
    have hat2 : (pos != (s.length : Int)) = true := by simpa using hat
    have HAT := hq' hat
    clear HD2 HGE ME hat
    have RN := hq' (XE.out.n).range
    have CQ : Hid (we.heap[pr]? = some (.cells zc.toArray 36 (0, 0))) := XE.out.z
    obtain ⟨wf, hwf, CF, BF⟩ := ret_row XE.out.z XE.out.b XE.out.o.1 zc
    have HWF := hq' hwf
    clear hwf
    go_wp2_with (first
     | (refine wpList_load_mid (by rfl) _ _ (by rfl) pn 0 (by rfl) zc _ RN.out Tryz.underlying36 (by rfl) HIL.out ?_)
     | (refine wpList_store_row (by rfl) _ _ _ (by rfl) pr zc.toArray (by rfl) (by rfl) 36 _ CQ.out HIA.out rfl HONE.out ?_)
     | fail)
    first | rw [HWF.out] | skip
    rw [HBP.out]
    refine bodyPost_ret (results_cl_tmp rfl _ _ _ _ _ _ rfl CF.out Tryz.underlying36 rfl HIL.out) rfl ?_
    rw [HR.out, HZC.out]
    exact DecR.no BF.out
   rw [decide_eq_true hat] at HD2
   subst hat
   have RM1 := hq' XE.out.c.range
   cases hg : Wi.good m with
   | false =>
    rw [hg] at HD2 HGE
    have HR : Hid (refM s = (none, 3)) := HD2.out
    clear HD2 hg ME
    go_wp2_with (refine wpList_load_yes (by rfl) _ _ (by rfl) mb 0 (by rfl) cs _ RM1.out Tryz.underlying36 (by rfl) HIL2.out ?_)
    refine HGE.out.mono ?_
    rintro e wg ⟨rfl, hb⟩
    have XG := hq' (XE.out.below hb)
    clear hb XE HGE RM1
    have RN := hq' (XG.out.n).range
    have CQ : Hid (wg.heap[pr]? = some (.cells zc.toArray 36 (0, 0))) := XG.out.z
    obtain ⟨wf, hwf, CF, BF⟩ := ret_row XG.out.z XG.out.b XG.out.o.1 zc
    have HWF := hq' hwf
    clear hwf
    go_wp2_with (first
     | (refine wpList_load_mid (by rfl) _ _ (by rfl) pn 0 (by rfl) zc _ RN.out Tryz.underlying36 (by rfl) HIL.out ?_)
     | (refine wpList_store_row (by rfl) _ _ _ (by rfl) pr zc.toArray (by rfl) (by rfl) 36 _ CQ.out HIA.out rfl HONE.out ?_)
     | fail)
    first | rw [HWF.out] | skip
    rw [HBP.out]
    refine bodyPost_ret (results_cl_tmp rfl _ _ _ _ _ _ rfl CF.out Tryz.underlying36 rfl HIL.out) rfl ?_
    rw [HR.out, HZC.out]
    exact DecR.no BF.out
   | true =>
    rw [hg] at HD2 HGE
    have HR : Hid (refM s = (some m, 0)) := HD2.out
    clear HD2 hg
    go_wp2_with (refine wpList_load_yes (by rfl) _ _ (by rfl) mb 0 (by rfl) cs _ RM1.out Tryz.underlying36 (by rfl) HIL2.out ?_)
    refine HGE.out.mono ?_
    rintro e wg ⟨rfl, hb⟩
    have XG := hq' (XE.out.below hb)
    have MG : Hid (MsgO wg (mb + 1) m v) := ME.out.keepsS (Keeps.below (fun _ => False) hb) (fun _ _ => id)
    clear hb XE HGE RM1 ME
    have RG := hq' XG.out.c.range
    have CQ : Hid (wg.heap[pr]? = some (.cells zc.toArray 36 (0, 0))) := XG.out.z
    obtain ⟨wf, hwf, CF, BF⟩ := ret_row XG.out.z XG.out.b XG.out.o.1 cs
    have HWF := hq' hwf
    have KF : Keeps (fun j => j = pr) wg wf := by rw [← hwf]; exact Keeps.row _ _ _ rfl
    have MF : Hid (MsgO wf (mb + 1) m v) := MG.out.keepsS KF (fun j hj e => by omega)
    clear hwf KF MG
    go_wp2_with (first
     | (refine wpList_load_mid (by rfl) _ _ (by rfl) mb 0 (by rfl) cs _ RG.out Tryz.underlying36 (by rfl) HIL2.out ?_)
     | (refine wpList_store_row (by rfl) _ _ _ (by rfl) pr cs.toArray (by rfl) (by rfl) 36 _ CQ.out HIA2.out HSZ2.out HONE2.out ?_)
     | fail)
    first | rw [HWF.out] | skip
    rw [HBP.out]
    refine bodyPost_ret (results_cl_tmp rfl _ _ _ _ _ _ rfl CF.out Tryz.underlying36 rfl HIL2.out) rfl ?_
    rw [HR.out]
    refine ⟨v, ?_, MF.out.weaken (by omega), MK.out, BF.out⟩
    show _ = Ending.returned (.tuple #[msgV m v, .int .i64 0])
    rw [HMV.out]
    rfl
end Go.Proofs.YtjfpbeccpcbpcaaGreatDoor
