/-
  Wnb / Wra / Waw: texts of one proof, one behind the other.
  Conditions: none of its own.
-/
import Derived.Test.YtjfpbeccpcbpcaaGreatDoorZbb
set_option linter.unusedVariables false
set_option linter.unusedSimpArgs false
set_option maxHeartbeats 25600000
set_option maxRecDepth 20000
namespace Go.Proofs.YtjfpbeccpcbpcaaGreatDoor
open Go.RowKit
def decM (s : List UInt8) : Option Wi.Msg × Int :=
 if (Frm.next s 0).2.2 ≠ 0 then (none, (Frm.next s 0).2.2) else
 if (Wi.sMsg (Bd.sSign 108 ((Frm.next s 0).1, false))).1.2 && (decide ((Frm.next s 0).2.1 = s.length) && (decide (Bd.sDone (Bd.sSign 101 (Wi.sMsg (Bd.sSign 108 ((Frm.next s 0).1, false))).2) = 0) && Wi.good (Wi.sMsg (Bd.sSign 108 ((Frm.next s 0).1, false))).1.1))
 then (some (Wi.sMsg (Bd.sSign 108 ((Frm.next s 0).1, false))).1.1, 0) else (none, 3)
def DecR (w : World) (r : Option Wi.Msg × Int) (e : Ending) (w' : World) : Prop :=
 ∃ v, e = .returned (.tuple #[msgV (r.1.getD Wi.zMsg) v, .int .i64 r.2]) ∧ MsgO w' w.heap.size (r.1.getD Wi.zMsg) v ∧ MsgOk (r.1.getD Wi.zMsg) ∧ Below w.heap.size w w'
theorem zMsg_ok : MsgOk Wi.zMsg := msgOk_of (by simp only [Wi.zMsg, List.mem_cons, List.not_mem_nil, or_false, forall_eq_or_imp, forall_eq, and_self]; exact ⟨by decide, by decide⟩) ⟨Nat.zero_le _, fun x hx => by cases hx⟩ ⟨Nat.zero_le _, fun x hx => by cases hx⟩ zBat_ok zTab_ok zReq_ok zResp_ok
theorem DecR.no {w w' : World} {n : Int} (h : Below w.heap.size w w') : DecR w (none, n) (.returned (.tuple #[.agg (zt0).toArray, .int .i64 n])) w' :=
 ⟨zeroV, rfl, ⟨own_nil _ _ _ _, own_nil _ _ _ _, own_nil _ _ _ _, tab_nil _ _, own_nil _ _ _ _, own_nil _ _ _ _, own_nil _ _ _ _⟩, zMsg_ok, h⟩
theorem MsgO.weaken {w : World} {B B' : Nat} {m : Wi.Msg} {v : MsgV} (h : MsgO w B m v) (hb : B' ≤ B) : MsgO w B' m v :=
 ⟨ownsRow_weaken h.chain hb, ownsRow_weaken h.lives hb, ownsRow_weaken h.brecs hb, h.table.weaken hb, ownsRow_weaken h.qrecs hb, ownsRow_weaken h.parts hb, ownsRow_weaken h.arecs hb⟩
theorem next_most (s : List UInt8) (h : (Frm.next s 0).2.2 = 0) : (Frm.next s 0).1.length ≤ 16384 := by
 obtain ⟨_, h2, _, _, _, h6⟩ := Frm.next_zero (l := s) (k := 0) h
 exact Nat.le_trans (Nat.le_of_eq h6) h2
theorem no_row {W9 w : World} {pr : Nat} (c : Cl W9 pr (zt0) 36) (b : Below w.heap.size w W9) (h : w.heap.size ≤ pr) : ∃ wf, W9.setRow pr (zt0).toArray = wf ∧ Hid (Cl wf pr (zt0) 36) ∧ Hid (Below w.heap.size w wf) ∧ Hid (W9.heap[pr]? = some (.cells (zt0).toArray 36 (0, 0))) :=
 ⟨_, rfl, c.row _, b.trans ((Keeps.row (S := fun j => j = pr) W9 pr _ rfl).toBelow b.size (fun k hk e => by omega)), c⟩
theorem wdecode_most (s : List UInt8) (hs : s.length ≤ maxLen) (w : World) (hw : Lw w) :
  Calls Tryz.prog 17 #[.string ⟨s.toArray⟩] w (DecR w (decM s)) := by
 have HW := hq' hw
 have HN : Hid (∀ W, Calls Tryz.prog 60 #[.string ⟨s.toArray⟩, .int .i64 0] W fun e w' => e = .returned (.tuple #[.string ⟨(Frm.next s 0).1.toArray⟩, .int .i64 (Frm.next s 0).2.1, .int .i64 (Frm.next s 0).2.2]) ∧ Below W.heap.size W w') := fun W => next_any s 0 W hs
 have HD : Hid (decM s = if (Frm.next s 0).2.2 ≠ 0 then (none, (Frm.next s 0).2.2) else if (Wi.sMsg (Bd.sSign 108 ((Frm.next s 0).1, false))).1.2 && (decide ((Frm.next s 0).2.1 = s.length) && (decide (Bd.sDone (Bd.sSign 101 (Wi.sMsg (Bd.sSign 108 ((Frm.next s 0).1, false))).2) = 0) && Wi.good (Wi.sMsg (Bd.sSign 108 ((Frm.next s 0).1, false))).1.1))
  then (some (Wi.sMsg (Bd.sSign 108 ((Frm.next s 0).1, false))).1.1, 0) else (none, 3)) := rfl
 have hs9 : s.length ≤ 9223372036854775807 := hs
 clear hs
 have hbl : (Frm.next s 0).2.2 = 0 → (Frm.next s 0).1.length ≤ 16384 := next_most s
 have HIL : Hid ((Tryz.prog.info? 36).map (·.size) = some ((zt0) : List Value).length) := by rw [Hid]; kernel_rfl
 have HIA : Hid ((Tryz.prog.info? 36).map (·.size) = some ((zt0).toArray : Array Value).size) := by rw [Hid]; kernel_rfl
 have HONE : Hid (((zt0).toArray : Array Value).all (·.oneCell') = true) := by simp [Hid, Value.oneCell']
 have HSZ : Hid (((zt0).toArray : Array Value).size = ((zt0).toArray : Array Value).size) := rfl
 have C1 : Hid (Cl (w.alloc (.cells (zt0).toArray 36)) w.heap.size (zt0) 36) := Cl.new w (zt0) _
 have B1 : Hid (Below w.heap.size w (w.alloc (.cells (zt0).toArray 36))) := (Below.refl _ _).alloc (Nat.le_refl _) _
 clear hw
 generalize (Frm.next s 0).2.2 = er at *
 generalize (Frm.next s 0).2.1 = pos at *
 generalize (Frm.next s 0).1 = bb at *
 go_enter Tryz.func17, Tryz.ntmps17
 go_upto_region 1 with (fail)
 generalize w.alloc (.cells (zt0).toArray 36) = w1 at *
 obtain ⟨pr, hpr⟩ : ∃ pr, pr = w.heap.size := ⟨_, rfl⟩
 rw [← hpr] at C1 ⊢
 have HPR := hq' hpr
 clear hpr
 by_cases her : er = 0
 rotate_left
 ·have HR : Hid (decM s = (none, er)) := by rw [Hid, HD.out, if_pos her]
  have her2 : (er != 0) = true := by simpa using her
  clear HD hbl her
  go_wp2_with fail
  refine (HN.out _).mono ?_
  rintro e W9 ⟨rfl, hb⟩
  have B9 := hq' (bt B1.out hb)
  have CR9 := hq' (C1.out.below hb)
  clear hb B1 C1 HN
  obtain ⟨wf, hwf, CF, BF, CQ⟩ := no_row (pr := pr) CR9.out B9.out (Nat.le_of_eq HPR.out.symm)
  have HWF := hq' hwf
  clear hwf
  go_wp2_with (first
   | (refine wpList_store_row (by rfl) _ _ _ (by rfl) pr (zt0).toArray (by rfl) (by rfl) 36 _ CQ.out HIA.out rfl HONE.out ?_)
   | fail)
  first | rw [HWF.out] | skip
  refine bodyPost_ret (results_cl_tmp rfl _ _ _ _ _ _ rfl CF.out Tryz.underlying36 rfl HIL.out) rfl ?_
  rw [HR.out]
  exact DecR.no BF.out
 subst her
 have hbl2 := hbl rfl
 have HD1 : Hid (decM s = if (Wi.sMsg (Bd.sSign 108 (bb, false))).1.2 && (decide (pos = s.length) && (decide (Bd.sDone (Bd.sSign 101 (Wi.sMsg (Bd.sSign 108 (bb, false))).2) = 0) && Wi.good (Wi.sMsg (Bd.sSign 108 (bb, false))).1.1)) then (some (Wi.sMsg (Bd.sSign 108 (bb, false))).1.1, 0) else (none, 3)) := by rw [Hid, HD.out, if_neg (by simp)]
 have hq1 := sSign_len 108 (bb, false)
 have HOP := hq' (fun (p : Nat) (W : World) (h : Rd W p (bb, false)) => open_any p (bb, false) W h)
 have HRD := hq' (fun (p : Nat) (W : World) (h : Rd W p (Bd.sSign 108 (bb, false))) (hL : ∀ W', Kp W p W' → Lw W') => wread_any p (Bd.sSign 108 (bb, false)) W h (by simp only at hq1; omega) hL)
 clear HD hbl hq1
 generalize Bd.sSign 108 (bb, false) = q1 at *
 unfold ReadR at HRD
 generalize (Wi.sMsg q1).1.1 = m at *
 generalize (Wi.sMsg q1).1.2 = ok at *
 generalize (Wi.sMsg q1).2 = q2 at *
 go_wp2_with fail
 refine (HN.out _).mono ?_
 rintro e w2 ⟨rfl, hb⟩
 have B2 := hq' (bt B1.out hb)
 have C2 := hq' (C1.out.below hb)
 have L2 := hq' (HW.out.below B2.out)
 clear hb B1 C1 HN
 go_wp2_with fail
 refine (new_any bb w2).mono ?_
 rintro e w3 ⟨rfl, hw3⟩
 have D3 : Hid (Rd w3 w2.heap.size (bb, false)) := by rw [hw3]; exact Rd.new bb w2
 have b3 : Below w2.heap.size w2 w3 := by rw [hw3]; exact (Below.refl _ _).alloc (Nat.le_refl _) _
 have C3 := hq' (C2.out.below b3)
 have b23 := hq' b3
 have hpp : pr ≠ w2.heap.size := Nat.ne_of_lt C2.out.lt
 have hs2 := B2.out.size
 clear hw3 b3
 obtain ⟨p, hp⟩ : ∃ p, p = w2.heap.size := ⟨_, rfl⟩
 rw [← hp] at D3 hpp ⊢
 have HP := hq' hp
 have hp2 : w.heap.size ≤ p := by omega
 clear hp
 go_wp2_with fail
 refine (HOP.out p w3 D3.out).mono ?_
 rintro e w4 ⟨rfl, hr⟩
 have D4 := hq' hr.1
 have C4 := hq' (Cl.keep C3.out hr.2 hpp)
 have b24 : Hid (Below w2.heap.size w2 w4) := b23.out.trans (hr.2.toBelow b23.out.size (fun j hj e => by have := HP.out; omega))
 clear hr D3 C3 b23 HOP
 have hpl4 := D4.out.lt
 have hpr4 := C4.out.lt
 go_wp2_with fail
 refine (HRD.out p w4 D4.out (fun W' k => L2.out.below (b24.out.trans (k.toBelow b24.out.size (fun j hj e => by have := HP.out; omega))))).mono ?_
 rintro e w5 ⟨v, rfl, hmo, hmk, hr, hk⟩
 have D5 := hq' hr
 have C5 := hq' (Cl.keep C4.out hk (fun e => e.elim hpp (fun e => by omega)))
 have b25 : Hid (Below w2.heap.size w2 w5) := b24.out.trans (hk.toBelow b24.out.size (fun j hj e => by have := HP.out; omega))
 have M5 := hq' hmo
 have MK := hq' hmk
 have h45 := hk.size
 clear hr hk hmo hmk D4 C4 b24 HRD
 obtain ⟨cs, hcs⟩ : ∃ cs : List Value, cs = msgC m v := ⟨_, rfl⟩
 have hmv : msgV m v = .agg cs.toArray := by rw [msgV, hcs]
 have HIL2 : Hid ((Tryz.prog.info? 36).map (·.size) = some cs.length) := by rw [Hid, hcs]; kernel_rfl
 have HIA2 : Hid ((Tryz.prog.info? 36).map (·.size) = some (cs.toArray : Array Value).size) := by rw [Hid, hcs]; kernel_rfl
 have HONE2 : Hid ((cs.toArray : Array Value).all (·.oneCell') = true) := by
  obtain ⟨_, _, e1⟩ := own_form M5.out.chain
  obtain ⟨_, _, e2⟩ := own_form M5.out.lives
  obtain ⟨_, _, e3⟩ := own_form M5.out.brecs
  obtain ⟨_, _, e4⟩ := M5.out.table.tbl.form
  obtain ⟨_, _, e5⟩ := own_form M5.out.qrecs
  obtain ⟨_, _, e6⟩ := own_form M5.out.parts
  obtain ⟨_, _, e7⟩ := own_form M5.out.arecs
  rw [Hid, hcs, msgC, e1, e2, e3, e4, e5, e6, e7]
  simp [Value.oneCell']
 have HSZ2 : Hid (((zt0).toArray : Array Value).size = (cs.toArray : Array Value).size) := by rw [Hid, hcs]; rfl
 have HMV := hq' hmv
 rw [hmv]
 have HCS := hq' hcs
 clear hmv hcs
 have CM : Hid ((w5.alloc (.cells (zt0).toArray 36)).heap[w5.heap.size]? = some (.cells (zt0).toArray 36 (0, 0))) := Cl.new w5 (zt0) _
 have C6 : Hid (Cl ((w5.alloc (.cells (zt0).toArray 36)).setRow w5.heap.size cs.toArray) w5.heap.size cs 36) := by
  have := Cl.row (Cl.new w5 (zt0) 36) cs.toArray
  rwa [List.toList_toArray] at this
 have b56 : Hid (Below w5.heap.size w5 ((w5.alloc (.cells (zt0).toArray 36)).setRow w5.heap.size cs.toArray)) := ((Below.refl _ _).alloc (Nat.le_refl _) _).trans ((Keeps.row (S := fun j => j = w5.heap.size) _ w5.heap.size _ rfl).toBelow (by simp) (fun k hk e => by omega))
 go_upto_region 7 with (refine wpList_store_row (by rfl) _ _ _ (by rfl) w5.heap.size cs.toArray (by rfl) (by rfl) 36 _ CM.out HIA2.out HSZ2.out HONE2.out ?_)
 clear CM
 generalize (w5.alloc (.cells (zt0).toArray 36)).setRow w5.heap.size cs.toArray = w6 at *
 have D6 := hq' (D5.out.below b56.out)
 have CR6 := hq' (C5.out.below b56.out)
 have b26 : Hid (Below w2.heap.size w2 w6) := bt b25.out b56.out
 have M6 : Hid (MsgO w6 w4.heap.size m v) := M5.out.keepsS (Keeps.below (fun _ => False) b56.out) (fun _ _ => id)
 have hpm : w5.heap.size ≠ p := by have := D5.out.lt; omega
 have hpm2 : w5.heap.size ≠ pr := by have := C5.out.lt; omega
 clear D5 C5 b25 b56 M5
 generalize w5.heap.size = pm at *
 go_wp2_with fail
 refine (close_any p _ w6 D6.out).mono ?_
 rintro e w7 ⟨rfl, hr⟩
 have D7 := hq' hr.1
 have CR7 := hq' (Cl.keep CR6.out hr.2 hpp)
 have CM7 := hq' (Cl.keep C6.out hr.2 hpm)
 have M7 : Hid (MsgO w7 w4.heap.size m v) := M6.out.keepsS hr.2 (fun j hj e => by omega)
 have b27 : Hid (Below w2.heap.size w2 w7) := b26.out.trans (hr.2.toBelow b26.out.size (fun j hj e => by have := HP.out; omega))
 have HDN := hq' (done_any p _ w7 D7.out)
 have HG := hq' (wgood_any m v w7 M7.out.at MK.out M7.out.cap (L2.out.below b27.out))
 rw [HMV.out] at HG
 have B7 := hq' (bt B2.out b27.out)
 generalize Bd.sSign 101 q2 = q3 at *
 have R7 := hq' CM7.out.range
 clear hr D6 C6 CR6 b26 M6 D7
 cases ok with
 | false =>
  have HR : Hid (decM s = (none, 3)) := by rw [Hid, HD1.out]; rfl
  clear HD1 HG HDN
  generalize w7 = W9 at *
  have B9 := B7
  have CR9 := CR7
  obtain ⟨wf, hwf, CF, BF, CQ⟩ := no_row (pr := pr) CR9.out B9.out (Nat.le_of_eq HPR.out.symm)
  have HWF := hq' hwf
  clear hwf
  go_wp2_with (first
   | (refine wpList_store_row (by rfl) _ _ _ (by rfl) pr (zt0).toArray (by rfl) (by rfl) 36 _ CQ.out HIA.out rfl HONE.out ?_)
   | fail)
  first | rw [HWF.out] | skip
  refine bodyPost_ret (results_cl_tmp rfl _ _ _ _ _ _ rfl CF.out Tryz.underlying36 rfl HIL.out) rfl ?_
  rw [HR.out]
  exact DecR.no BF.out
 | true =>
  by_cases hat : pos = s.length
  rotate_left
  ·have HR : Hid (decM s = (none, 3)) := by rw [Hid, HD1.out, decide_eq_false hat]; rfl
   have hat2 : (pos != (s.length : Int)) = true := by simpa using hat
   clear HD1 HG HDN hat
   generalize w7 = W9 at *
   have B9 := B7
   have CR9 := CR7
   obtain ⟨wf, hwf, CF, BF, CQ⟩ := no_row (pr := pr) CR9.out B9.out (Nat.le_of_eq HPR.out.symm)
   have HWF := hq' hwf
   clear hwf
   go_wp2_with (first
    | (refine wpList_store_row (by rfl) _ _ _ (by rfl) pr (zt0).toArray (by rfl) (by rfl) 36 _ CQ.out HIA.out rfl HONE.out ?_)
    | fail)
   first | rw [HWF.out] | skip
   refine bodyPost_ret (results_cl_tmp rfl _ _ _ _ _ _ rfl CF.out Tryz.underlying36 rfl HIL.out) rfl ?_
   rw [HR.out]
   exact DecR.no BF.out
  have hat2 : (pos != (s.length : Int)) = false := by simpa using hat
  rw [decide_eq_true hat] at HD1
  clear hat
  by_cases hd : Bd.sDone q3 = 0
  rotate_left
  ·have HR : Hid (decM s = (none, 3)) := by rw [Hid, HD1.out, decide_eq_false hd]; rfl
   have hd2 : (Bd.sDone q3 != 0) = true := by simpa using hd
   clear HD1 HG hd
   generalize Bd.sDone q3 = dn at *
   go_wp2_with fail
   refine HDN.out.mono ?_
   rintro e W9 ⟨rfl, hw9⟩
   subst hw9
   generalize w7 = W9 at *
   have B9 := B7
   have CR9 := CR7
   obtain ⟨wf, hwf, CF, BF, CQ⟩ := no_row (pr := pr) CR9.out B9.out (Nat.le_of_eq HPR.out.symm)
   have HWF := hq' hwf
   clear hwf
   go_wp2_with (first
    | (refine wpList_store_row (by rfl) _ _ _ (by rfl) pr (zt0).toArray (by rfl) (by rfl) 36 _ CQ.out HIA.out rfl HONE.out ?_)
    | fail)
   first | rw [HWF.out] | skip
   refine bodyPost_ret (results_cl_tmp rfl _ _ _ _ _ _ rfl CF.out Tryz.underlying36 rfl HIL.out) rfl ?_
   rw [HR.out]
   exact DecR.no BF.out
  rw [decide_eq_true hd] at HD1
  rw [hd] at HDN
  clear hd
  cases hg : Wi.good m with
  | false =>
   rw [hg] at HG HD1
   have HR : Hid (decM s = (none, 3)) := HD1.out
   clear HD1 hg
   go_wp2_with fail
   refine HDN.out.mono ?_
   rintro e w8 ⟨rfl, hw8⟩
   subst hw8
   go_wp2_with (refine wpList_load_yes (by rfl) _ _ (by rfl) pm 0 (by rfl) cs _ R7.out Tryz.underlying36 (by rfl) HIL2.out ?_)
   refine HG.out.mono ?_
   rintro e W9 ⟨rfl, hb⟩
   have CR9 := hq' (CR7.out.below hb)
   have B9 := hq' (bt B7.out hb)
   clear hb HG CR7 CM7 R7 M7
   obtain ⟨wf, hwf, CF, BF, CQ⟩ := no_row (pr := pr) CR9.out B9.out (Nat.le_of_eq HPR.out.symm)
   have HWF := hq' hwf
   clear hwf
   go_wp2_with (first
    | (refine wpList_store_row (by rfl) _ _ _ (by rfl) pr (zt0).toArray (by rfl) (by rfl) 36 _ CQ.out HIA.out rfl HONE.out ?_)
    | fail)
   first | rw [HWF.out] | skip
   refine bodyPost_ret (results_cl_tmp rfl _ _ _ _ _ _ rfl CF.out Tryz.underlying36 rfl HIL.out) rfl ?_
   rw [HR.out]
   exact DecR.no BF.out
  | true =>
   rw [hg] at HG HD1
   have HR : Hid (decM s = (some m, 0)) := HD1.out
   clear HD1 hg
   go_wp2_with fail
   refine HDN.out.mono ?_
   rintro e w8 ⟨rfl, hw8⟩
   subst hw8
   go_wp2_with (refine wpList_load_yes (by rfl) _ _ (by rfl) pm 0 (by rfl) cs _ R7.out Tryz.underlying36 (by rfl) HIL2.out ?_)
   refine HG.out.mono ?_
   rintro e W9 ⟨rfl, hb⟩
   have CR9 := hq' (CR7.out.below hb)
   have B9 := hq' (bt B7.out hb)
   have R9 := hq' (CM7.out.below hb).range
   have M9 : Hid (MsgO W9 w4.heap.size m v) := M7.out.keepsS (Keeps.below (fun _ => False) hb) (fun _ _ => id)
   clear hb HG CR7 CM7 R7 M7
   have CQ : Hid (W9.heap[pr]? = some (.cells (zt0).toArray 36 (0, 0))) := CR9.out
   have CF : Hid (Cl (W9.setRow pr cs.toArray) pr cs 36) := by
    have := CR9.out.row cs.toArray
    rwa [List.toList_toArray] at this
   have KF : Keeps (fun j => j = pr) W9 (W9.setRow pr cs.toArray) := Keeps.row _ _ _ rfl
   have BF : Hid (Below w.heap.size w (W9.setRow pr cs.toArray)) := B9.out.trans (KF.toBelow B9.out.size (fun k hk e => by have := HPR.out; omega))
   have MF : Hid (MsgO (W9.setRow pr cs.toArray) w4.heap.size m v) := M9.out.keepsS KF (fun j hj e => by omega)
   go_wp2_with (first
    | (refine wpList_load_mid (by rfl) _ _ (by rfl) pm 0 (by rfl) cs _ R9.out Tryz.underlying36 (by rfl) HIL2.out ?_)
    | (refine wpList_store_row (by rfl) _ _ _ (by rfl) pr cs.toArray (by rfl) (by rfl) 36 _ CQ.out HIA2.out HSZ2.out HONE2.out ?_))
   refine bodyPost_ret (results_cl_tmp rfl _ _ _ _ _ _ rfl CF.out Tryz.underlying36 rfl HIL2.out) rfl ?_
   rw [HR.out]
   refine ⟨v, ?_, MF.out.weaken (by have := HPR.out; omega), MK.out, BF.out⟩
   show _ = Ending.returned (.tuple #[msgV m v, .int .i64 0])
   rw [HMV.out]
   rfl
theorem wdecode_any (s : List UInt8) (hs : s.length < 4294967281) (w : World) (hw : Lw w) :
  Calls Tryz.prog 17 #[.string ⟨s.toArray⟩] w (DecR w (decM s)) := wdecode_most s (by unfold maxLen; omega) w hw
theorem msg_cells (m : Wi.Msg) (v : MsgV) (w : World) (h : MsgAt w m v) : ∃ cs : List Value, msgV m v = .agg cs.toArray ∧ Hid (cs = msgC m v) ∧ Hid ((Tryz.prog.info? 36).map (·.size) = some cs.length) ∧ Hid ((Tryz.prog.info? 36).map (·.size) = some (cs.toArray : Array Value).size) ∧
  Hid ((cs.toArray : Array Value).all (·.oneCell') = true) ∧ Hid (((zt0).toArray : Array Value).size = (cs.toArray : Array Value).size) := by
 refine ⟨msgC m v, rfl, rfl, ?_, ?_, ?_, rfl⟩
 ·rw [Hid, show (msgC m v).length = 38 from rfl]; kernel_rfl
 ·rw [Hid, List.size_toArray, show (msgC m v).length = 38 from rfl]; kernel_rfl
 ·obtain ⟨_, _, e1⟩ := h.chain.form
  obtain ⟨_, _, e2⟩ := h.lives.form
  obtain ⟨_, _, e3⟩ := h.brecs.form
  obtain ⟨_, _, e4⟩ := h.table.form
  obtain ⟨_, _, e5⟩ := h.qrecs.form
  obtain ⟨_, _, e6⟩ := h.parts.form
  obtain ⟨_, _, e7⟩ := h.arecs.form
  rw [Hid, msgC, e1, e2, e3, e4, e5, e6, e7]
  simp [Value.oneCell']
theorem zero_cap : CapOk zeroV.arecs := fun a n cap e => by injection e with e1 e2 e3; omega
theorem beat7_good : Wi.good (beatM 2 0 7) = true := by decide +kernel
theorem beat7_enc : Wi.enc (beatM 2 0 7) = [108, 105, 51, 101, 105, 50, 101, 105, 48, 101, 105, 55, 101, 101] := by decide +kernel
theorem beat7_dec : decM (Frm.put (Wi.enc (beatM 2 0 7))) = (some (beatM 2 0 7), 0) := by kernel_rfl
theorem beat7_ok : MsgOk (beatM 2 0 7) := msgOk_of (by simp only [beatM, List.mem_cons, List.not_mem_nil, or_false, forall_eq_or_imp, forall_eq]; exact ⟨⟨by decide, by decide⟩, ⟨by decide, by decide⟩, ⟨by decide, by decide⟩, ⟨by decide, by decide⟩, ⟨by decide, by decide⟩, ⟨by decide, by decide⟩, ⟨by decide, by decide⟩, ⟨by decide, by decide⟩, ⟨by decide, by decide⟩, ⟨by decide, by decide⟩⟩) ⟨Nat.zero_le _, fun x hx => by cases hx⟩ ⟨Nat.zero_le _, fun x hx => by cases hx⟩ zBat_ok zTab_ok zReq_ok zResp_ok
theorem awake_any (w : World) (hw : Lw w) : Calls Tryz.prog 9 #[] w fun e w' => e = .returned (.bool true) ∧ Below w.heap.size w w' := by
 have HW := hq' hw
 have HM0 : Hid (msgV (beatM 2 0 7) zeroV = .agg (.int .i64 3 :: .int .i64 2 :: .int .i64 0 :: .int .i64 0 :: .int .i64 0 :: .int .i64 0 :: .int .i64 0 :: .int .i64 7 :: zt8).toArray) := rfl
 have HZ0 : Hid (msgV Wi.zMsg zeroV = .agg (zt0).toArray) := rfl
 have HE1 : Hid (∀ (W : World), Lw W → Calls Tryz.prog 11 #[msgV (beatM 2 0 7) zeroV] W fun e w' => e = .returned (.tuple #[.string ⟨(Frm.put (Wi.enc (beatM 2 0 7))).toArray⟩, .int .i64 0]) ∧ Below W.heap.size W w') := fun W hL => by
  exact wencode_of (beatM 2 0 7) zeroV W (beat_at 2 0 7 W) beat7_ok zero_cap beat7_good hL (fun W2 hW2 => wfields_k3 (beatM 2 0 7) zeroV W2 (beat_at 2 0 7 W2) beat7_ok rfl beat7_good (hL.below hW2))
 have HE2 : Hid (∀ (W : World), Lw W → Calls Tryz.prog 11 #[msgV Wi.zMsg zeroV] W fun e w' => e = .returned (.tuple #[.string ⟨#[]⟩, .int .i64 1]) ∧ Below W.heap.size W w') := fun W hL => by
  rw [HZ0.out]
  exact encode_no (zt0) rfl W (fun W2 _ => good_none (zt0) 0 rfl (by decide) W2)
 have HG1 := hq' (fun (W : World) (hL : Lw W) => wgood_any (beatM 2 0 7) zeroV W (beat_at 2 0 7 W) beat7_ok zero_cap hL)
 have HSM := hq' (fun (W : World) (v : MsgV) (h : MsgAt W (beatM 2 0 7) v) => wsame_any (beatM 2 0 7) (beatM 2 0 7) zeroV v W (beat_at 2 0 7 W) h beat7_ok beat7_ok)
 have HPU : Hid (∀ W, Calls Tryz.prog 19 #[.string ⟨#[108, 105, 51, 101, 105, 50, 101, 105, 48, 101, 105, 55, 101, 101]⟩] W fun e w' => e = .returned (.tuple #[.string ⟨(Frm.put (Wi.enc (beatM 2 0 7))).toArray⟩, .int .i64 0]) ∧ Below W.heap.size W w') := fun W => by
  rw [beat7_enc]
  exact put_any [108, 105, 51, 101, 105, 50, 101, 105, 48, 101, 105, 55, 101, 101] W (by decide)
 have hpl := Frm.put_length (Wi.enc (beatM 2 0 7))
 have HDC : Hid (∀ (W : World), Lw W → Calls Tryz.prog 17 #[.string ⟨(Frm.put (Wi.enc (beatM 2 0 7))).toArray⟩] W fun e w' => ∃ v, e = .returned (.tuple #[msgV (beatM 2 0 7) v, .int .i64 0]) ∧ MsgAt w' (beatM 2 0 7) v ∧ Below W.heap.size W w') := fun W hL => by
  refine (wdecode_any (Frm.put (Wi.enc (beatM 2 0 7))) (by rw [hpl, beat7_enc]; decide) W hL).mono ?_
  rintro e w' ⟨v, he, ho, _, hb⟩
  rw [beat7_dec] at he ho
  exact ⟨v, he, ho.at, hb⟩
 rw [beat7_good] at HG1
 rw [Wi.same_refl] at HSM
 rw [HM0.out] at HE1 HG1 HSM
 rw [HZ0.out] at HE2
 generalize Frm.put (Wi.enc (beatM 2 0 7)) = S at *
 clear hpl hw
 have HI38 := hq' (show (Tryz.prog.info? 36).map (·.size) = some ((.int .i64 3 :: .int .i64 2 :: .int .i64 0 :: .int .i64 0 :: .int .i64 0 :: .int .i64 0 :: .int .i64 0 :: .int .i64 7 :: zt8) : List Value).length by kernel_rfl)
 have HI39 := hq' (show (Tryz.prog.info? 36).map (·.size) = some ((.int .i64 3 :: .int .i64 2 :: .int .i64 0 :: .int .i64 0 :: .int .i64 0 :: .int .i64 0 :: .int .i64 0 :: .int .i64 7 :: zt8).toArray : Array Value).size by kernel_rfl)
 have HONE : Hid (((.int .i64 3 :: .int .i64 2 :: .int .i64 0 :: .int .i64 0 :: .int .i64 0 :: .int .i64 0 :: .int .i64 0 :: .int .i64 7 :: zt8).toArray : Array Value).all (·.oneCell') = true) := by simp [Hid, Value.oneCell']
 have CM : Hid ((w.alloc (.cells (zt0).toArray 36)).heap[w.heap.size]? = some (.cells (zt0).toArray 36 (0, 0))) := Cl.new w (zt0) _
 have C1 : Hid (Cl ((w.alloc (.cells (zt0).toArray 36)).setRow w.heap.size (.int .i64 3 :: .int .i64 2 :: .int .i64 0 :: .int .i64 0 :: .int .i64 0 :: .int .i64 0 :: .int .i64 0 :: .int .i64 7 :: zt8).toArray) w.heap.size (.int .i64 3 :: .int .i64 2 :: .int .i64 0 :: .int .i64 0 :: .int .i64 0 :: .int .i64 0 :: .int .i64 0 :: .int .i64 7 :: zt8) 36) := Cl.row (Cl.new w (zt0) _) _
 have B1 : Hid (Below w.heap.size w ((w.alloc (.cells (zt0).toArray 36)).setRow w.heap.size (.int .i64 3 :: .int .i64 2 :: .int .i64 0 :: .int .i64 0 :: .int .i64 0 :: .int .i64 0 :: .int .i64 0 :: .int .i64 7 :: zt8).toArray)) := ((Below.refl _ _).alloc (Nat.le_refl _) _).trans ((Keeps.row (S := fun j => j = w.heap.size) _ w.heap.size _ rfl).toBelow (by simp) (fun k hk e => by omega))
 go_enter Tryz.func9, Tryz.ntmps9
 go_upto_region 2 with (refine wpList_store_row (by rfl) _ _ _ (by rfl) w.heap.size (.int .i64 3 :: .int .i64 2 :: .int .i64 0 :: .int .i64 0 :: .int .i64 0 :: .int .i64 0 :: .int .i64 0 :: .int .i64 7 :: zt8).toArray (by rfl) (by rfl) 36 _ CM.out HI39.out rfl HONE.out ?_)
 clear CM
 generalize (w.alloc (.cells (zt0).toArray 36)).setRow w.heap.size (.int .i64 3 :: .int .i64 2 :: .int .i64 0 :: .int .i64 0 :: .int .i64 0 :: .int .i64 0 :: .int .i64 0 :: .int .i64 7 :: zt8).toArray = w1 at *
 generalize hb1 : w.heap.size = b1 at *
 have HB1 := hq' hb1
 clear hb1
 have R1 := hq' C1.out.range
 go_wp2_with (refine wpList_load_mid (by rfl) _ _ (by rfl) b1 0 (by rfl) (.int .i64 3 :: .int .i64 2 :: .int .i64 0 :: .int .i64 0 :: .int .i64 0 :: .int .i64 0 :: .int .i64 0 :: .int .i64 7 :: zt8) _ R1.out Tryz.underlying36 (by rfl) HI38.out ?_)
 refine (HE1.out _ (HW.out.below (by rw [HB1.out]; exact B1.out))).mono ?_
 rintro e w2 ⟨rfl, hb⟩
 have C2 := hq' (C1.out.below hb)
 have B2 : Hid (Below w.heap.size w w2) := bt (by rw [HB1.out]; exact B1.out) hb
 clear hb C1 R1 HE1 B1
 go_wp2_with fail
 refine (HPU.out _).mono ?_
 rintro e w3 ⟨rfl, hb⟩
 have C3 := hq' (C2.out.below hb)
 have B3 := hq' (bt B2.out hb)
 clear hb C2 B2 HPU
 go_wp2_with fail
 refine (HDC.out _ (HW.out.below B3.out)).mono ?_
 rintro e w4 ⟨v, rfl, hmo, hb⟩
 have C4 := hq' (C3.out.below hb)
 have B4 := hq' (bt B3.out hb)
 have M4 := hq' hmo
 obtain ⟨cs, hmv, HCS, HIL, HIA, HON, HSZ⟩ := msg_cells (beatM 2 0 7) v w4 hmo
 clear hb C3 B3 HDC hmo
 rw [hmv]
 have HMV := hq' hmv
 clear hmv
 have CM : Hid ((w4.alloc (.cells (zt0).toArray 36)).heap[w4.heap.size]? = some (.cells (zt0).toArray 36 (0, 0))) := Cl.new w4 (zt0) _
 have C5 : Hid (Cl ((w4.alloc (.cells (zt0).toArray 36)).setRow w4.heap.size cs.toArray) w4.heap.size cs 36) := by
  have := Cl.row (Cl.new w4 (zt0) 36) cs.toArray
  rwa [List.toList_toArray] at this
 have b45 : Hid (Below w4.heap.size w4 ((w4.alloc (.cells (zt0).toArray 36)).setRow w4.heap.size cs.toArray)) := ((Below.refl _ _).alloc (Nat.le_refl _) _).trans ((Keeps.row (S := fun j => j = w4.heap.size) _ w4.heap.size _ rfl).toBelow (by simp) (fun k hk e => by omega))
 go_upto_region 5 with (refine wpList_store_row (by rfl) _ _ _ (by rfl) w4.heap.size cs.toArray (by rfl) (by rfl) 36 _ CM.out HIA.out HSZ.out HON.out ?_)
 clear CM
 generalize (w4.alloc (.cells (zt0).toArray 36)).setRow w4.heap.size cs.toArray = w5 at *
 have D5 := hq' (C4.out.below b45.out)
 have B5 := hq' (bt B4.out b45.out)
 have M5 := hq' (M4.out.kept b45.out)
 clear C4 B4 M4 b45
 generalize w4.heap.size = b4 at *
 go_wp2_with fail
 refine (HE2.out _ (HW.out.below B5.out)).mono ?_
 rintro e w6 ⟨rfl, hb⟩
 have C6 := hq' (C5.out.below hb)
 have D6 := hq' (D5.out.below hb)
 have B6 := hq' (bt B5.out hb)
 have M6 := hq' (M5.out.kept hb)
 clear hb C5 D5 B5 M5 HE2
 have R6 := hq' C6.out.range
 have Q6 := hq' D6.out.range
 have HS6 := hq' (HSM.out w6 v M6.out)
 rw [HMV.out] at HS6
 clear HSM
 go_wp2_with (first
  | (refine wpList_load_yes (by rfl) _ _ (by rfl) b1 0 (by rfl) (.int .i64 3 :: .int .i64 2 :: .int .i64 0 :: .int .i64 0 :: .int .i64 0 :: .int .i64 0 :: .int .i64 0 :: .int .i64 7 :: zt8) _ Q6.out Tryz.underlying36 (by rfl) HI38.out ?_)
  | (refine wpList_load_yes (by rfl) _ _ (by rfl) b4 0 (by rfl) cs _ R6.out Tryz.underlying36 (by rfl) HIL.out ?_))
 refine HS6.out.mono ?_
 rintro e w7 ⟨rfl, hb⟩
 have D7 := hq' (D6.out.below hb)
 have B7 := hq' (bt B6.out hb)
 clear hb C6 D6 B6 M6 R6 Q6 HS6
 have Q7 := hq' D7.out.range
 go_wp2_with (refine wpList_load_yes (by rfl) _ _ (by rfl) b1 0 (by rfl) (.int .i64 3 :: .int .i64 2 :: .int .i64 0 :: .int .i64 0 :: .int .i64 0 :: .int .i64 0 :: .int .i64 0 :: .int .i64 7 :: zt8) _ Q7.out Tryz.underlying36 (by rfl) HI38.out ?_)
 refine (HG1.out _ (HW.out.below B7.out)).mono ?_
 rintro e w8 ⟨rfl, hb⟩
 have B8 := hq' (bt B7.out hb)
 clear hb
 go_wp2
 go_ret
 exact ⟨rfl, B8.out⟩
end Go.Proofs.YtjfpbeccpcbpcaaGreatDoor
