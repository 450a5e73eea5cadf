/-
  Wnb / Wra: texts of one proof, one behind the other.
  Conditions: none of its own.
-/
import Derived.Test.YtbljbdjmgogknaaGreatDoorZal
import Derived.Test.YtbljbdjmgogknaaGreatDoorZbs
set_option linter.unusedVariables false
set_option linter.unusedSimpArgs false
namespace Go.Proofs.YtbljbdjmgogknaaGreatDoor
open Go.RowKit
def decM (s : List UInt8) : Option Wi.Msg × Int :=
 if (Frm.next s 0).2.2 ≠ 0 then (none, (Frm.next s 0).2.2) else
 if (Wi.sMsg (Bd.sSign 108 ((Frm.next s 0).1, false))).1.2 && (decide ((Frm.next s 0).2.1 = s.length) && (decide (Bd.sDone (Bd.sSign 101 (Wi.sMsg (Bd.sSign 108 ((Frm.next s 0).1, false))).2) = 0) && Wi.good (Wi.sMsg (Bd.sSign 108 ((Frm.next s 0).1, false))).1.1))
 then (some (Wi.sMsg (Bd.sSign 108 ((Frm.next s 0).1, false))).1.1, 0) else (none, 3)
def DecR (w : World) (r : Option Wi.Msg × Int) (e : Ending) (w' : World) : Prop :=
 ∃ v, e = .returned (.tuple #[msgV (r.1.getD Wi.zMsg) v, .int .i64 r.2]) ∧ MsgO w' w.heap.size (r.1.getD Wi.zMsg) v ∧ MsgOk (r.1.getD Wi.zMsg) ∧ Below w.heap.size w w'
theorem zMsg_ok : MsgOk Wi.zMsg := msgOk_of (by simp only [Wi.zMsg, List.mem_cons, List.not_mem_nil, or_false, forall_eq_or_imp, forall_eq, and_self]; exact ⟨by decide, by decide⟩) ⟨Nat.zero_le _, fun x hx => by cases hx⟩ ⟨Nat.zero_le _, fun x hx => by cases hx⟩ zBat_ok zTab_ok zReq_ok zResp_ok
theorem DecR.no {w w' : World} {n : Int} (h : Below w.heap.size w w') : DecR w (none, n) (.returned (.tuple #[.agg (.int .i64 0 :: .int .i64 0 :: .int .i64 0 :: .int .i64 0 :: .int .i64 0 :: .int .i64 0 :: .int .i64 0 :: .int .i64 0 :: .int .i64 0 :: .slice none 0 0 :: .int .i64 0 :: .slice none 0 0 :: .int .i64 0 :: .int .i64 0 :: .int .i64 0 :: .int .i64 0 :: .int .i64 0 :: .slice none 0 0 :: .slice none 0 0 :: .int .i64 0 :: .int .i64 0 :: .int .i64 0 :: .int .i64 0 :: .int .i64 0 :: .int .i64 0 :: .int .i64 0 :: .int .i64 0 :: .string ⟨#[]⟩ :: .string ⟨#[]⟩ :: .slice none 0 0 :: .int .i64 0 :: .int .i64 0 :: .int .i64 0 :: .int .i64 0 :: .int .i64 0 :: .int .i64 0 :: .slice none 0 0 :: .slice none 0 0 :: []).toArray, .int .i64 n])) w' :=
 ⟨zeroV, rfl, ⟨own_nil _ _ _ _, own_nil _ _ _ _, own_nil _ _ _ _, tab_nil _ _, own_nil _ _ _ _, own_nil _ _ _ _, own_nil _ _ _ _⟩, zMsg_ok, h⟩
theorem MsgO.weaken {w : World} {B B' : Nat} {m : Wi.Msg} {v : MsgV} (h : MsgO w B m v) (hb : B' ≤ B) : MsgO w B' m v :=
 ⟨ownsRow_weaken h.chain hb, ownsRow_weaken h.lives hb, ownsRow_weaken h.brecs hb, h.table.weaken hb, ownsRow_weaken h.qrecs hb, ownsRow_weaken h.parts hb, ownsRow_weaken h.arecs hb⟩
theorem next_len (s : List UInt8) (h : (Frm.next s 0).2.2 = 0) : (Frm.next s 0).1.length ≤ s.length := by
 have h1 := Frm.next_zero (l := s) (k := 0) h
 obtain ⟨h3, _, _, _, _, h2⟩ := h1
 exact Nat.le_trans (Nat.le_of_eq h2) (by omega)
theorem no_row {W9 w : World} {pr : Nat} (c : Cl W9 pr (.int .i64 0 :: .int .i64 0 :: .int .i64 0 :: .int .i64 0 :: .int .i64 0 :: .int .i64 0 :: .int .i64 0 :: .int .i64 0 :: .int .i64 0 :: .slice none 0 0 :: .int .i64 0 :: .slice none 0 0 :: .int .i64 0 :: .int .i64 0 :: .int .i64 0 :: .int .i64 0 :: .int .i64 0 :: .slice none 0 0 :: .slice none 0 0 :: .int .i64 0 :: .int .i64 0 :: .int .i64 0 :: .int .i64 0 :: .int .i64 0 :: .int .i64 0 :: .int .i64 0 :: .int .i64 0 :: .string ⟨#[]⟩ :: .string ⟨#[]⟩ :: .slice none 0 0 :: .int .i64 0 :: .int .i64 0 :: .int .i64 0 :: .int .i64 0 :: .int .i64 0 :: .int .i64 0 :: .slice none 0 0 :: .slice none 0 0 :: []) 44) (b : Below w.heap.size w W9) (h : w.heap.size ≤ pr) : ∃ wf, W9.setRow pr (.int .i64 0 :: .int .i64 0 :: .int .i64 0 :: .int .i64 0 :: .int .i64 0 :: .int .i64 0 :: .int .i64 0 :: .int .i64 0 :: .int .i64 0 :: .slice none 0 0 :: .int .i64 0 :: .slice none 0 0 :: .int .i64 0 :: .int .i64 0 :: .int .i64 0 :: .int .i64 0 :: .int .i64 0 :: .slice none 0 0 :: .slice none 0 0 :: .int .i64 0 :: .int .i64 0 :: .int .i64 0 :: .int .i64 0 :: .int .i64 0 :: .int .i64 0 :: .int .i64 0 :: .int .i64 0 :: .string ⟨#[]⟩ :: .string ⟨#[]⟩ :: .slice none 0 0 :: .int .i64 0 :: .int .i64 0 :: .int .i64 0 :: .int .i64 0 :: .int .i64 0 :: .int .i64 0 :: .slice none 0 0 :: .slice none 0 0 :: []).toArray = wf ∧ Hid (Cl wf pr (.int .i64 0 :: .int .i64 0 :: .int .i64 0 :: .int .i64 0 :: .int .i64 0 :: .int .i64 0 :: .int .i64 0 :: .int .i64 0 :: .int .i64 0 :: .slice none 0 0 :: .int .i64 0 :: .slice none 0 0 :: .int .i64 0 :: .int .i64 0 :: .int .i64 0 :: .int .i64 0 :: .int .i64 0 :: .slice none 0 0 :: .slice none 0 0 :: .int .i64 0 :: .int .i64 0 :: .int .i64 0 :: .int .i64 0 :: .int .i64 0 :: .int .i64 0 :: .int .i64 0 :: .int .i64 0 :: .string ⟨#[]⟩ :: .string ⟨#[]⟩ :: .slice none 0 0 :: .int .i64 0 :: .int .i64 0 :: .int .i64 0 :: .int .i64 0 :: .int .i64 0 :: .int .i64 0 :: .slice none 0 0 :: .slice none 0 0 :: []) 44) ∧ Hid (Below w.heap.size w wf) ∧ Hid (W9.heap[pr]? = some (.cells (.int .i64 0 :: .int .i64 0 :: .int .i64 0 :: .int .i64 0 :: .int .i64 0 :: .int .i64 0 :: .int .i64 0 :: .int .i64 0 :: .int .i64 0 :: .slice none 0 0 :: .int .i64 0 :: .slice none 0 0 :: .int .i64 0 :: .int .i64 0 :: .int .i64 0 :: .int .i64 0 :: .int .i64 0 :: .slice none 0 0 :: .slice none 0 0 :: .int .i64 0 :: .int .i64 0 :: .int .i64 0 :: .int .i64 0 :: .int .i64 0 :: .int .i64 0 :: .int .i64 0 :: .int .i64 0 :: .string ⟨#[]⟩ :: .string ⟨#[]⟩ :: .slice none 0 0 :: .int .i64 0 :: .int .i64 0 :: .int .i64 0 :: .int .i64 0 :: .int .i64 0 :: .int .i64 0 :: .slice none 0 0 :: .slice none 0 0 :: []).toArray 44 (0, 0))) :=
 ⟨_, rfl, c.row _, b.trans ((Keeps.row (S := fun j => j = pr) W9 pr _ rfl).toBelow b.size (fun k hk e => by omega)), c⟩
set_option maxRecDepth 20000 in
set_option maxHeartbeats 25600000 in
theorem wdecode_any (s : List UInt8) (hs : s.length < 4294967281) (w : World) (hw : Lw w) :
  Calls Tryz.prog 26 #[.string ⟨s.toArray⟩] w (DecR w (decM s)) := by
 have HW := Lib.hid hw
 have HN : Hid (∀ W, Calls Tryz.prog 56 #[.string ⟨s.toArray⟩, .int .i64 0] W fun e w' => e = .returned (.tuple #[.string ⟨(Frm.next s 0).1.toArray⟩, .int .i64 (Frm.next s 0).2.1, .int .i64 (Frm.next s 0).2.2]) ∧ Below W.heap.size W w') := fun W => next_any s 0 W (by unfold maxLen; omega)
 have HD : Hid (decM s = if (Frm.next s 0).2.2 ≠ 0 then (none, (Frm.next s 0).2.2) else if (Wi.sMsg (Bd.sSign 108 ((Frm.next s 0).1, false))).1.2 && (decide ((Frm.next s 0).2.1 = s.length) && (decide (Bd.sDone (Bd.sSign 101 (Wi.sMsg (Bd.sSign 108 ((Frm.next s 0).1, false))).2) = 0) && Wi.good (Wi.sMsg (Bd.sSign 108 ((Frm.next s 0).1, false))).1.1))
  then (some (Wi.sMsg (Bd.sSign 108 ((Frm.next s 0).1, false))).1.1, 0) else (none, 3)) := rfl
 have hbl : (Frm.next s 0).2.2 = 0 → (Frm.next s 0).1.length ≤ s.length := next_len s
 have HIL : Hid ((Tryz.prog.info? 44).map (·.size) = some ((.int .i64 0 :: .int .i64 0 :: .int .i64 0 :: .int .i64 0 :: .int .i64 0 :: .int .i64 0 :: .int .i64 0 :: .int .i64 0 :: .int .i64 0 :: .slice none 0 0 :: .int .i64 0 :: .slice none 0 0 :: .int .i64 0 :: .int .i64 0 :: .int .i64 0 :: .int .i64 0 :: .int .i64 0 :: .slice none 0 0 :: .slice none 0 0 :: .int .i64 0 :: .int .i64 0 :: .int .i64 0 :: .int .i64 0 :: .int .i64 0 :: .int .i64 0 :: .int .i64 0 :: .int .i64 0 :: .string ⟨#[]⟩ :: .string ⟨#[]⟩ :: .slice none 0 0 :: .int .i64 0 :: .int .i64 0 :: .int .i64 0 :: .int .i64 0 :: .int .i64 0 :: .int .i64 0 :: .slice none 0 0 :: .slice none 0 0 :: []) : List Value).length) := by rw [Hid]; kernel_rfl
 have HIA : Hid ((Tryz.prog.info? 44).map (·.size) = some ((.int .i64 0 :: .int .i64 0 :: .int .i64 0 :: .int .i64 0 :: .int .i64 0 :: .int .i64 0 :: .int .i64 0 :: .int .i64 0 :: .int .i64 0 :: .slice none 0 0 :: .int .i64 0 :: .slice none 0 0 :: .int .i64 0 :: .int .i64 0 :: .int .i64 0 :: .int .i64 0 :: .int .i64 0 :: .slice none 0 0 :: .slice none 0 0 :: .int .i64 0 :: .int .i64 0 :: .int .i64 0 :: .int .i64 0 :: .int .i64 0 :: .int .i64 0 :: .int .i64 0 :: .int .i64 0 :: .string ⟨#[]⟩ :: .string ⟨#[]⟩ :: .slice none 0 0 :: .int .i64 0 :: .int .i64 0 :: .int .i64 0 :: .int .i64 0 :: .int .i64 0 :: .int .i64 0 :: .slice none 0 0 :: .slice none 0 0 :: []).toArray : Array Value).size) := by rw [Hid]; kernel_rfl
 have HONE : Hid (((.int .i64 0 :: .int .i64 0 :: .int .i64 0 :: .int .i64 0 :: .int .i64 0 :: .int .i64 0 :: .int .i64 0 :: .int .i64 0 :: .int .i64 0 :: .slice none 0 0 :: .int .i64 0 :: .slice none 0 0 :: .int .i64 0 :: .int .i64 0 :: .int .i64 0 :: .int .i64 0 :: .int .i64 0 :: .slice none 0 0 :: .slice none 0 0 :: .int .i64 0 :: .int .i64 0 :: .int .i64 0 :: .int .i64 0 :: .int .i64 0 :: .int .i64 0 :: .int .i64 0 :: .int .i64 0 :: .string ⟨#[]⟩ :: .string ⟨#[]⟩ :: .slice none 0 0 :: .int .i64 0 :: .int .i64 0 :: .int .i64 0 :: .int .i64 0 :: .int .i64 0 :: .int .i64 0 :: .slice none 0 0 :: .slice none 0 0 :: []).toArray : Array Value).all (·.oneCell') = true) := by simp [Hid, Value.oneCell']
 have HSZ : Hid (((.int .i64 0 :: .int .i64 0 :: .int .i64 0 :: .int .i64 0 :: .int .i64 0 :: .int .i64 0 :: .int .i64 0 :: .int .i64 0 :: .int .i64 0 :: .slice none 0 0 :: .int .i64 0 :: .slice none 0 0 :: .int .i64 0 :: .int .i64 0 :: .int .i64 0 :: .int .i64 0 :: .int .i64 0 :: .slice none 0 0 :: .slice none 0 0 :: .int .i64 0 :: .int .i64 0 :: .int .i64 0 :: .int .i64 0 :: .int .i64 0 :: .int .i64 0 :: .int .i64 0 :: .int .i64 0 :: .string ⟨#[]⟩ :: .string ⟨#[]⟩ :: .slice none 0 0 :: .int .i64 0 :: .int .i64 0 :: .int .i64 0 :: .int .i64 0 :: .int .i64 0 :: .int .i64 0 :: .slice none 0 0 :: .slice none 0 0 :: []).toArray : Array Value).size = ((.int .i64 0 :: .int .i64 0 :: .int .i64 0 :: .int .i64 0 :: .int .i64 0 :: .int .i64 0 :: .int .i64 0 :: .int .i64 0 :: .int .i64 0 :: .slice none 0 0 :: .int .i64 0 :: .slice none 0 0 :: .int .i64 0 :: .int .i64 0 :: .int .i64 0 :: .int .i64 0 :: .int .i64 0 :: .slice none 0 0 :: .slice none 0 0 :: .int .i64 0 :: .int .i64 0 :: .int .i64 0 :: .int .i64 0 :: .int .i64 0 :: .int .i64 0 :: .int .i64 0 :: .int .i64 0 :: .string ⟨#[]⟩ :: .string ⟨#[]⟩ :: .slice none 0 0 :: .int .i64 0 :: .int .i64 0 :: .int .i64 0 :: .int .i64 0 :: .int .i64 0 :: .int .i64 0 :: .slice none 0 0 :: .slice none 0 0 :: []).toArray : Array Value).size) := rfl
 have C1 : Hid (Cl (w.alloc (.cells (.int .i64 0 :: .int .i64 0 :: .int .i64 0 :: .int .i64 0 :: .int .i64 0 :: .int .i64 0 :: .int .i64 0 :: .int .i64 0 :: .int .i64 0 :: .slice none 0 0 :: .int .i64 0 :: .slice none 0 0 :: .int .i64 0 :: .int .i64 0 :: .int .i64 0 :: .int .i64 0 :: .int .i64 0 :: .slice none 0 0 :: .slice none 0 0 :: .int .i64 0 :: .int .i64 0 :: .int .i64 0 :: .int .i64 0 :: .int .i64 0 :: .int .i64 0 :: .int .i64 0 :: .int .i64 0 :: .string ⟨#[]⟩ :: .string ⟨#[]⟩ :: .slice none 0 0 :: .int .i64 0 :: .int .i64 0 :: .int .i64 0 :: .int .i64 0 :: .int .i64 0 :: .int .i64 0 :: .slice none 0 0 :: .slice none 0 0 :: []).toArray 44)) w.heap.size (.int .i64 0 :: .int .i64 0 :: .int .i64 0 :: .int .i64 0 :: .int .i64 0 :: .int .i64 0 :: .int .i64 0 :: .int .i64 0 :: .int .i64 0 :: .slice none 0 0 :: .int .i64 0 :: .slice none 0 0 :: .int .i64 0 :: .int .i64 0 :: .int .i64 0 :: .int .i64 0 :: .int .i64 0 :: .slice none 0 0 :: .slice none 0 0 :: .int .i64 0 :: .int .i64 0 :: .int .i64 0 :: .int .i64 0 :: .int .i64 0 :: .int .i64 0 :: .int .i64 0 :: .int .i64 0 :: .string ⟨#[]⟩ :: .string ⟨#[]⟩ :: .slice none 0 0 :: .int .i64 0 :: .int .i64 0 :: .int .i64 0 :: .int .i64 0 :: .int .i64 0 :: .int .i64 0 :: .slice none 0 0 :: .slice none 0 0 :: []) 44) := Cl.new w (.int .i64 0 :: .int .i64 0 :: .int .i64 0 :: .int .i64 0 :: .int .i64 0 :: .int .i64 0 :: .int .i64 0 :: .int .i64 0 :: .int .i64 0 :: .slice none 0 0 :: .int .i64 0 :: .slice none 0 0 :: .int .i64 0 :: .int .i64 0 :: .int .i64 0 :: .int .i64 0 :: .int .i64 0 :: .slice none 0 0 :: .slice none 0 0 :: .int .i64 0 :: .int .i64 0 :: .int .i64 0 :: .int .i64 0 :: .int .i64 0 :: .int .i64 0 :: .int .i64 0 :: .int .i64 0 :: .string ⟨#[]⟩ :: .string ⟨#[]⟩ :: .slice none 0 0 :: .int .i64 0 :: .int .i64 0 :: .int .i64 0 :: .int .i64 0 :: .int .i64 0 :: .int .i64 0 :: .slice none 0 0 :: .slice none 0 0 :: []) _
 have B1 : Hid (Below w.heap.size w (w.alloc (.cells (.int .i64 0 :: .int .i64 0 :: .int .i64 0 :: .int .i64 0 :: .int .i64 0 :: .int .i64 0 :: .int .i64 0 :: .int .i64 0 :: .int .i64 0 :: .slice none 0 0 :: .int .i64 0 :: .slice none 0 0 :: .int .i64 0 :: .int .i64 0 :: .int .i64 0 :: .int .i64 0 :: .int .i64 0 :: .slice none 0 0 :: .slice none 0 0 :: .int .i64 0 :: .int .i64 0 :: .int .i64 0 :: .int .i64 0 :: .int .i64 0 :: .int .i64 0 :: .int .i64 0 :: .int .i64 0 :: .string ⟨#[]⟩ :: .string ⟨#[]⟩ :: .slice none 0 0 :: .int .i64 0 :: .int .i64 0 :: .int .i64 0 :: .int .i64 0 :: .int .i64 0 :: .int .i64 0 :: .slice none 0 0 :: .slice none 0 0 :: []).toArray 44))) := (Below.refl _ _).alloc (Nat.le_refl _) _
 clear hw
 generalize (Frm.next s 0).2.2 = er at *
 generalize (Frm.next s 0).2.1 = pos at *
 generalize (Frm.next s 0).1 = bb at *
 go_enter Tryz.func26, Tryz.ntmps26
 go_upto_region 1 with (fail)
 generalize w.alloc (.cells (.int .i64 0 :: .int .i64 0 :: .int .i64 0 :: .int .i64 0 :: .int .i64 0 :: .int .i64 0 :: .int .i64 0 :: .int .i64 0 :: .int .i64 0 :: .slice none 0 0 :: .int .i64 0 :: .slice none 0 0 :: .int .i64 0 :: .int .i64 0 :: .int .i64 0 :: .int .i64 0 :: .int .i64 0 :: .slice none 0 0 :: .slice none 0 0 :: .int .i64 0 :: .int .i64 0 :: .int .i64 0 :: .int .i64 0 :: .int .i64 0 :: .int .i64 0 :: .int .i64 0 :: .int .i64 0 :: .string ⟨#[]⟩ :: .string ⟨#[]⟩ :: .slice none 0 0 :: .int .i64 0 :: .int .i64 0 :: .int .i64 0 :: .int .i64 0 :: .int .i64 0 :: .int .i64 0 :: .slice none 0 0 :: .slice none 0 0 :: []).toArray 44) = w1 at *
 obtain ⟨pr, hpr⟩ : ∃ pr, pr = w.heap.size := ⟨_, rfl⟩
 rw [← hpr] at C1 ⊢
 have HPR := Lib.hid hpr
 clear hpr
 by_cases her : er = 0
 rotate_left
 ·have HR : Hid (decM s = (none, er)) := by rw [Hid, HD.out, if_pos her]
  have her2 : (er != 0) = true := by simpa using her
  clear HD hbl her
  go_wp2_with fail
  refine (HN.out _).mono ?_
  rintro e W9 ⟨rfl, hb⟩
  have B9 := Lib.hid (bt B1.out hb)
  have CR9 := Lib.hid (C1.out.below hb)
  clear hb B1 C1 HN
  obtain ⟨wf, hwf, CF, BF, CQ⟩ := no_row (pr := pr) CR9.out B9.out (Nat.le_of_eq HPR.out.symm)
  have HWF := Lib.hid hwf
  clear hwf
  go_wp2_with (first
   | (refine wpList_store_row (by rfl) _ _ _ (by rfl) pr (.int .i64 0 :: .int .i64 0 :: .int .i64 0 :: .int .i64 0 :: .int .i64 0 :: .int .i64 0 :: .int .i64 0 :: .int .i64 0 :: .int .i64 0 :: .slice none 0 0 :: .int .i64 0 :: .slice none 0 0 :: .int .i64 0 :: .int .i64 0 :: .int .i64 0 :: .int .i64 0 :: .int .i64 0 :: .slice none 0 0 :: .slice none 0 0 :: .int .i64 0 :: .int .i64 0 :: .int .i64 0 :: .int .i64 0 :: .int .i64 0 :: .int .i64 0 :: .int .i64 0 :: .int .i64 0 :: .string ⟨#[]⟩ :: .string ⟨#[]⟩ :: .slice none 0 0 :: .int .i64 0 :: .int .i64 0 :: .int .i64 0 :: .int .i64 0 :: .int .i64 0 :: .int .i64 0 :: .slice none 0 0 :: .slice none 0 0 :: []).toArray (by rfl) (by rfl) 44 _ CQ.out HIA.out rfl HONE.out ?_)
   | fail)
  first | rw [HWF.out] | skip
  refine bodyPost_ret (results_cl_tmp rfl _ _ _ _ _ _ rfl CF.out Tryz.underlying44 rfl HIL.out) rfl ?_
  rw [HR.out]
  exact DecR.no BF.out
 subst her
 have hbl2 := hbl rfl
 have HD1 : Hid (decM s = if (Wi.sMsg (Bd.sSign 108 (bb, false))).1.2 && (decide (pos = s.length) && (decide (Bd.sDone (Bd.sSign 101 (Wi.sMsg (Bd.sSign 108 (bb, false))).2) = 0) && Wi.good (Wi.sMsg (Bd.sSign 108 (bb, false))).1.1)) then (some (Wi.sMsg (Bd.sSign 108 (bb, false))).1.1, 0) else (none, 3)) := by rw [Hid, HD.out, if_neg (by simp)]
 have hq1 := sSign_len 108 (bb, false)
 have HOP := Lib.hid (fun (p : Nat) (W : World) (h : Rd W p (bb, false)) => open_any p (bb, false) W h)
 have HRD := Lib.hid (fun (p : Nat) (W : World) (h : Rd W p (Bd.sSign 108 (bb, false))) (hL : ∀ W', Kp W p W' → Lw W') => wread_any p (Bd.sSign 108 (bb, false)) W h (by simp only at hq1; omega) hL)
 clear HD hbl hq1
 generalize Bd.sSign 108 (bb, false) = q1 at *
 unfold ReadR at HRD
 generalize (Wi.sMsg q1).1.1 = m at *
 generalize (Wi.sMsg q1).1.2 = ok at *
 generalize (Wi.sMsg q1).2 = q2 at *
 go_wp2_with fail
 refine (HN.out _).mono ?_
 rintro e w2 ⟨rfl, hb⟩
 have B2 := Lib.hid (bt B1.out hb)
 have C2 := Lib.hid (C1.out.below hb)
 have L2 := Lib.hid (HW.out.below B2.out)
 clear hb B1 C1 HN
 go_wp2_with fail
 refine (new_any bb w2).mono ?_
 rintro e w3 ⟨rfl, hw3⟩
 have D3 : Hid (Rd w3 w2.heap.size (bb, false)) := by rw [hw3]; exact Rd.new bb w2
 have b3 : Below w2.heap.size w2 w3 := by rw [hw3]; exact (Below.refl _ _).alloc (Nat.le_refl _) _
 have C3 := Lib.hid (C2.out.below b3)
 have b23 := Lib.hid b3
 have hpp : pr ≠ w2.heap.size := Nat.ne_of_lt C2.out.lt
 have hs2 := B2.out.size
 clear hw3 b3
 obtain ⟨p, hp⟩ : ∃ p, p = w2.heap.size := ⟨_, rfl⟩
 rw [← hp] at D3 hpp ⊢
 have HP := Lib.hid hp
 have hp2 : w.heap.size ≤ p := by omega
 clear hp
 go_wp2_with fail
 refine (HOP.out p w3 D3.out).mono ?_
 rintro e w4 ⟨rfl, hr⟩
 have D4 := Lib.hid hr.1
 have C4 := Lib.hid (Cl.keep C3.out hr.2 hpp)
 have b24 : Hid (Below w2.heap.size w2 w4) := b23.out.trans (hr.2.toBelow b23.out.size (fun j hj e => by have := HP.out; omega))
 clear hr D3 C3 b23 HOP
 have hpl4 := D4.out.lt
 have hpr4 := C4.out.lt
 go_wp2_with fail
 refine (HRD.out p w4 D4.out (fun W' k => L2.out.below (b24.out.trans (k.toBelow b24.out.size (fun j hj e => by have := HP.out; omega))))).mono ?_
 rintro e w5 ⟨v, rfl, hmo, hmk, hr, hk⟩
 have D5 := Lib.hid hr
 have C5 := Lib.hid (Cl.keep C4.out hk (fun e => e.elim hpp (fun e => by omega)))
 have b25 : Hid (Below w2.heap.size w2 w5) := b24.out.trans (hk.toBelow b24.out.size (fun j hj e => by have := HP.out; omega))
 have M5 := Lib.hid hmo
 have MK := Lib.hid hmk
 have h45 := hk.size
 clear hr hk hmo hmk D4 C4 b24 HRD
 obtain ⟨cs, hcs⟩ : ∃ cs : List Value, cs = msgC m v := ⟨_, rfl⟩
 have hmv : msgV m v = .agg cs.toArray := by rw [msgV, hcs]
 have HIL2 : Hid ((Tryz.prog.info? 44).map (·.size) = some cs.length) := by rw [Hid, hcs]; kernel_rfl
 have HIA2 : Hid ((Tryz.prog.info? 44).map (·.size) = some (cs.toArray : Array Value).size) := by rw [Hid, hcs]; kernel_rfl
 have HONE2 : Hid ((cs.toArray : Array Value).all (·.oneCell') = true) := by
  obtain ⟨_, _, e1⟩ := own_form M5.out.chain
  obtain ⟨_, _, e2⟩ := own_form M5.out.lives
  obtain ⟨_, _, e3⟩ := own_form M5.out.brecs
  obtain ⟨_, _, e4⟩ := M5.out.table.tbl.form
  obtain ⟨_, _, e5⟩ := own_form M5.out.qrecs
  obtain ⟨_, _, e6⟩ := own_form M5.out.parts
  obtain ⟨_, _, e7⟩ := own_form M5.out.arecs
  rw [Hid, hcs, msgC, e1, e2, e3, e4, e5, e6, e7]
  simp [Value.oneCell']
 have HSZ2 : Hid (((.int .i64 0 :: .int .i64 0 :: .int .i64 0 :: .int .i64 0 :: .int .i64 0 :: .int .i64 0 :: .int .i64 0 :: .int .i64 0 :: .int .i64 0 :: .slice none 0 0 :: .int .i64 0 :: .slice none 0 0 :: .int .i64 0 :: .int .i64 0 :: .int .i64 0 :: .int .i64 0 :: .int .i64 0 :: .slice none 0 0 :: .slice none 0 0 :: .int .i64 0 :: .int .i64 0 :: .int .i64 0 :: .int .i64 0 :: .int .i64 0 :: .int .i64 0 :: .int .i64 0 :: .int .i64 0 :: .string ⟨#[]⟩ :: .string ⟨#[]⟩ :: .slice none 0 0 :: .int .i64 0 :: .int .i64 0 :: .int .i64 0 :: .int .i64 0 :: .int .i64 0 :: .int .i64 0 :: .slice none 0 0 :: .slice none 0 0 :: []).toArray : Array Value).size = (cs.toArray : Array Value).size) := by rw [Hid, hcs]; rfl
 have HMV := Lib.hid hmv
 rw [hmv]
 have HCS := Lib.hid hcs
 clear hmv hcs
 have CM : Hid ((w5.alloc (.cells (.int .i64 0 :: .int .i64 0 :: .int .i64 0 :: .int .i64 0 :: .int .i64 0 :: .int .i64 0 :: .int .i64 0 :: .int .i64 0 :: .int .i64 0 :: .slice none 0 0 :: .int .i64 0 :: .slice none 0 0 :: .int .i64 0 :: .int .i64 0 :: .int .i64 0 :: .int .i64 0 :: .int .i64 0 :: .slice none 0 0 :: .slice none 0 0 :: .int .i64 0 :: .int .i64 0 :: .int .i64 0 :: .int .i64 0 :: .int .i64 0 :: .int .i64 0 :: .int .i64 0 :: .int .i64 0 :: .string ⟨#[]⟩ :: .string ⟨#[]⟩ :: .slice none 0 0 :: .int .i64 0 :: .int .i64 0 :: .int .i64 0 :: .int .i64 0 :: .int .i64 0 :: .int .i64 0 :: .slice none 0 0 :: .slice none 0 0 :: []).toArray 44)).heap[w5.heap.size]? = some (.cells (.int .i64 0 :: .int .i64 0 :: .int .i64 0 :: .int .i64 0 :: .int .i64 0 :: .int .i64 0 :: .int .i64 0 :: .int .i64 0 :: .int .i64 0 :: .slice none 0 0 :: .int .i64 0 :: .slice none 0 0 :: .int .i64 0 :: .int .i64 0 :: .int .i64 0 :: .int .i64 0 :: .int .i64 0 :: .slice none 0 0 :: .slice none 0 0 :: .int .i64 0 :: .int .i64 0 :: .int .i64 0 :: .int .i64 0 :: .int .i64 0 :: .int .i64 0 :: .int .i64 0 :: .int .i64 0 :: .string ⟨#[]⟩ :: .string ⟨#[]⟩ :: .slice none 0 0 :: .int .i64 0 :: .int .i64 0 :: .int .i64 0 :: .int .i64 0 :: .int .i64 0 :: .int .i64 0 :: .slice none 0 0 :: .slice none 0 0 :: []).toArray 44 (0, 0))) := Cl.new w5 (.int .i64 0 :: .int .i64 0 :: .int .i64 0 :: .int .i64 0 :: .int .i64 0 :: .int .i64 0 :: .int .i64 0 :: .int .i64 0 :: .int .i64 0 :: .slice none 0 0 :: .int .i64 0 :: .slice none 0 0 :: .int .i64 0 :: .int .i64 0 :: .int .i64 0 :: .int .i64 0 :: .int .i64 0 :: .slice none 0 0 :: .slice none 0 0 :: .int .i64 0 :: .int .i64 0 :: .int .i64 0 :: .int .i64 0 :: .int .i64 0 :: .int .i64 0 :: .int .i64 0 :: .int .i64 0 :: .string ⟨#[]⟩ :: .string ⟨#[]⟩ :: .slice none 0 0 :: .int .i64 0 :: .int .i64 0 :: .int .i64 0 :: .int .i64 0 :: .int .i64 0 :: .int .i64 0 :: .slice none 0 0 :: .slice none 0 0 :: []) _
 have C6 : Hid (Cl ((w5.alloc (.cells (.int .i64 0 :: .int .i64 0 :: .int .i64 0 :: .int .i64 0 :: .int .i64 0 :: .int .i64 0 :: .int .i64 0 :: .int .i64 0 :: .int .i64 0 :: .slice none 0 0 :: .int .i64 0 :: .slice none 0 0 :: .int .i64 0 :: .int .i64 0 :: .int .i64 0 :: .int .i64 0 :: .int .i64 0 :: .slice none 0 0 :: .slice none 0 0 :: .int .i64 0 :: .int .i64 0 :: .int .i64 0 :: .int .i64 0 :: .int .i64 0 :: .int .i64 0 :: .int .i64 0 :: .int .i64 0 :: .string ⟨#[]⟩ :: .string ⟨#[]⟩ :: .slice none 0 0 :: .int .i64 0 :: .int .i64 0 :: .int .i64 0 :: .int .i64 0 :: .int .i64 0 :: .int .i64 0 :: .slice none 0 0 :: .slice none 0 0 :: []).toArray 44)).setRow w5.heap.size cs.toArray) w5.heap.size cs 44) := by
  have := Cl.row (Cl.new w5 (.int .i64 0 :: .int .i64 0 :: .int .i64 0 :: .int .i64 0 :: .int .i64 0 :: .int .i64 0 :: .int .i64 0 :: .int .i64 0 :: .int .i64 0 :: .slice none 0 0 :: .int .i64 0 :: .slice none 0 0 :: .int .i64 0 :: .int .i64 0 :: .int .i64 0 :: .int .i64 0 :: .int .i64 0 :: .slice none 0 0 :: .slice none 0 0 :: .int .i64 0 :: .int .i64 0 :: .int .i64 0 :: .int .i64 0 :: .int .i64 0 :: .int .i64 0 :: .int .i64 0 :: .int .i64 0 :: .string ⟨#[]⟩ :: .string ⟨#[]⟩ :: .slice none 0 0 :: .int .i64 0 :: .int .i64 0 :: .int .i64 0 :: .int .i64 0 :: .int .i64 0 :: .int .i64 0 :: .slice none 0 0 :: .slice none 0 0 :: []) 44) cs.toArray
  rwa [List.toList_toArray] at this
 have b56 : Hid (Below w5.heap.size w5 ((w5.alloc (.cells (.int .i64 0 :: .int .i64 0 :: .int .i64 0 :: .int .i64 0 :: .int .i64 0 :: .int .i64 0 :: .int .i64 0 :: .int .i64 0 :: .int .i64 0 :: .slice none 0 0 :: .int .i64 0 :: .slice none 0 0 :: .int .i64 0 :: .int .i64 0 :: .int .i64 0 :: .int .i64 0 :: .int .i64 0 :: .slice none 0 0 :: .slice none 0 0 :: .int .i64 0 :: .int .i64 0 :: .int .i64 0 :: .int .i64 0 :: .int .i64 0 :: .int .i64 0 :: .int .i64 0 :: .int .i64 0 :: .string ⟨#[]⟩ :: .string ⟨#[]⟩ :: .slice none 0 0 :: .int .i64 0 :: .int .i64 0 :: .int .i64 0 :: .int .i64 0 :: .int .i64 0 :: .int .i64 0 :: .slice none 0 0 :: .slice none 0 0 :: []).toArray 44)).setRow w5.heap.size cs.toArray)) := ((Below.refl _ _).alloc (Nat.le_refl _) _).trans ((Keeps.row (S := fun j => j = w5.heap.size) _ w5.heap.size _ rfl).toBelow (by simp) (fun k hk e => by omega))
 go_upto_region 7 with (refine wpList_store_row (by rfl) _ _ _ (by rfl) w5.heap.size cs.toArray (by rfl) (by rfl) 44 _ CM.out HIA2.out HSZ2.out HONE2.out ?_)
 clear CM
 generalize (w5.alloc (.cells (.int .i64 0 :: .int .i64 0 :: .int .i64 0 :: .int .i64 0 :: .int .i64 0 :: .int .i64 0 :: .int .i64 0 :: .int .i64 0 :: .int .i64 0 :: .slice none 0 0 :: .int .i64 0 :: .slice none 0 0 :: .int .i64 0 :: .int .i64 0 :: .int .i64 0 :: .int .i64 0 :: .int .i64 0 :: .slice none 0 0 :: .slice none 0 0 :: .int .i64 0 :: .int .i64 0 :: .int .i64 0 :: .int .i64 0 :: .int .i64 0 :: .int .i64 0 :: .int .i64 0 :: .int .i64 0 :: .string ⟨#[]⟩ :: .string ⟨#[]⟩ :: .slice none 0 0 :: .int .i64 0 :: .int .i64 0 :: .int .i64 0 :: .int .i64 0 :: .int .i64 0 :: .int .i64 0 :: .slice none 0 0 :: .slice none 0 0 :: []).toArray 44)).setRow w5.heap.size cs.toArray = w6 at *
 have D6 := Lib.hid (D5.out.below b56.out)
 have CR6 := Lib.hid (C5.out.below b56.out)
 have b26 : Hid (Below w2.heap.size w2 w6) := bt b25.out b56.out
 have M6 : Hid (MsgO w6 w4.heap.size m v) := M5.out.keepsS (Keeps.below (fun _ => False) b56.out) (fun _ _ => id)
 have hpm : w5.heap.size ≠ p := by have := D5.out.lt; omega
 have hpm2 : w5.heap.size ≠ pr := by have := C5.out.lt; omega
 clear D5 C5 b25 b56 M5
 generalize w5.heap.size = pm at *
 go_wp2_with fail
 refine (close_any p _ w6 D6.out).mono ?_
 rintro e w7 ⟨rfl, hr⟩
 have D7 := Lib.hid hr.1
 have CR7 := Lib.hid (Cl.keep CR6.out hr.2 hpp)
 have CM7 := Lib.hid (Cl.keep C6.out hr.2 hpm)
 have M7 : Hid (MsgO w7 w4.heap.size m v) := M6.out.keepsS hr.2 (fun j hj e => by omega)
 have b27 : Hid (Below w2.heap.size w2 w7) := b26.out.trans (hr.2.toBelow b26.out.size (fun j hj e => by have := HP.out; omega))
 have HDN := Lib.hid (done_any p _ w7 D7.out)
 have HG := Lib.hid (wgood_any m v w7 M7.out.at MK.out M7.out.cap (L2.out.below b27.out))
 rw [HMV.out] at HG
 have B7 := Lib.hid (bt B2.out b27.out)
 generalize Bd.sSign 101 q2 = q3 at *
 have R7 := Lib.hid CM7.out.range
 clear hr D6 C6 CR6 b26 M6 D7
 cases ok with
 | false =>
  have HR : Hid (decM s = (none, 3)) := by rw [Hid, HD1.out]; rfl
  clear HD1 HG HDN
  generalize w7 = W9 at *
  have B9 := B7
  have CR9 := CR7
  obtain ⟨wf, hwf, CF, BF, CQ⟩ := no_row (pr := pr) CR9.out B9.out (Nat.le_of_eq HPR.out.symm)
  have HWF := Lib.hid hwf
  clear hwf
  go_wp2_with (first
   | (refine wpList_store_row (by rfl) _ _ _ (by rfl) pr (.int .i64 0 :: .int .i64 0 :: .int .i64 0 :: .int .i64 0 :: .int .i64 0 :: .int .i64 0 :: .int .i64 0 :: .int .i64 0 :: .int .i64 0 :: .slice none 0 0 :: .int .i64 0 :: .slice none 0 0 :: .int .i64 0 :: .int .i64 0 :: .int .i64 0 :: .int .i64 0 :: .int .i64 0 :: .slice none 0 0 :: .slice none 0 0 :: .int .i64 0 :: .int .i64 0 :: .int .i64 0 :: .int .i64 0 :: .int .i64 0 :: .int .i64 0 :: .int .i64 0 :: .int .i64 0 :: .string ⟨#[]⟩ :: .string ⟨#[]⟩ :: .slice none 0 0 :: .int .i64 0 :: .int .i64 0 :: .int .i64 0 :: .int .i64 0 :: .int .i64 0 :: .int .i64 0 :: .slice none 0 0 :: .slice none 0 0 :: []).toArray (by rfl) (by rfl) 44 _ CQ.out HIA.out rfl HONE.out ?_)
   | fail)
  first | rw [HWF.out] | skip
  refine bodyPost_ret (results_cl_tmp rfl _ _ _ _ _ _ rfl CF.out Tryz.underlying44 rfl HIL.out) rfl ?_
  rw [HR.out]
  exact DecR.no BF.out
 | true =>
  by_cases hat : pos = s.length
  rotate_left
  ·have HR : Hid (decM s = (none, 3)) := by rw [Hid, HD1.out, decide_eq_false hat]; rfl
   have hat2 : (pos != (s.length : Int)) = true := by simpa using hat
   clear HD1 HG HDN hat
   generalize w7 = W9 at *
   have B9 := B7
   have CR9 := CR7
   obtain ⟨wf, hwf, CF, BF, CQ⟩ := no_row (pr := pr) CR9.out B9.out (Nat.le_of_eq HPR.out.symm)
   have HWF := Lib.hid hwf
   clear hwf
   go_wp2_with (first
    | (refine wpList_store_row (by rfl) _ _ _ (by rfl) pr (.int .i64 0 :: .int .i64 0 :: .int .i64 0 :: .int .i64 0 :: .int .i64 0 :: .int .i64 0 :: .int .i64 0 :: .int .i64 0 :: .int .i64 0 :: .slice none 0 0 :: .int .i64 0 :: .slice none 0 0 :: .int .i64 0 :: .int .i64 0 :: .int .i64 0 :: .int .i64 0 :: .int .i64 0 :: .slice none 0 0 :: .slice none 0 0 :: .int .i64 0 :: .int .i64 0 :: .int .i64 0 :: .int .i64 0 :: .int .i64 0 :: .int .i64 0 :: .int .i64 0 :: .int .i64 0 :: .string ⟨#[]⟩ :: .string ⟨#[]⟩ :: .slice none 0 0 :: .int .i64 0 :: .int .i64 0 :: .int .i64 0 :: .int .i64 0 :: .int .i64 0 :: .int .i64 0 :: .slice none 0 0 :: .slice none 0 0 :: []).toArray (by rfl) (by rfl) 44 _ CQ.out HIA.out rfl HONE.out ?_)
    | fail)
   first | rw [HWF.out] | skip
   refine bodyPost_ret (results_cl_tmp rfl _ _ _ _ _ _ rfl CF.out Tryz.underlying44 rfl HIL.out) rfl ?_
   rw [HR.out]
   exact DecR.no BF.out
  have hat2 : (pos != (s.length : Int)) = false := by simpa using hat
  rw [decide_eq_true hat] at HD1
  clear hat
  by_cases hd : Bd.sDone q3 = 0
  rotate_left
  ·have HR : Hid (decM s = (none, 3)) := by rw [Hid, HD1.out, decide_eq_false hd]; rfl
   have hd2 : (Bd.sDone q3 != 0) = true := by simpa using hd
   clear HD1 HG hd
   generalize Bd.sDone q3 = dn at *
   go_wp2_with fail
   refine HDN.out.mono ?_
   rintro e W9 ⟨rfl, hw9⟩
   subst hw9
   generalize w7 = W9 at *
   have B9 := B7
   have CR9 := CR7
   obtain ⟨wf, hwf, CF, BF, CQ⟩ := no_row (pr := pr) CR9.out B9.out (Nat.le_of_eq HPR.out.symm)
   have HWF := Lib.hid hwf
   clear hwf
   go_wp2_with (first
    | (refine wpList_store_row (by rfl) _ _ _ (by rfl) pr (.int .i64 0 :: .int .i64 0 :: .int .i64 0 :: .int .i64 0 :: .int .i64 0 :: .int .i64 0 :: .int .i64 0 :: .int .i64 0 :: .int .i64 0 :: .slice none 0 0 :: .int .i64 0 :: .slice none 0 0 :: .int .i64 0 :: .int .i64 0 :: .int .i64 0 :: .int .i64 0 :: .int .i64 0 :: .slice none 0 0 :: .slice none 0 0 :: .int .i64 0 :: .int .i64 0 :: .int .i64 0 :: .int .i64 0 :: .int .i64 0 :: .int .i64 0 :: .int .i64 0 :: .int .i64 0 :: .string ⟨#[]⟩ :: .string ⟨#[]⟩ :: .slice none 0 0 :: .int .i64 0 :: .int .i64 0 :: .int .i64 0 :: .int .i64 0 :: .int .i64 0 :: .int .i64 0 :: .slice none 0 0 :: .slice none 0 0 :: []).toArray (by rfl) (by rfl) 44 _ CQ.out HIA.out rfl HONE.out ?_)
    | fail)
   first | rw [HWF.out] | skip
   refine bodyPost_ret (results_cl_tmp rfl _ _ _ _ _ _ rfl CF.out Tryz.underlying44 rfl HIL.out) rfl ?_
   rw [HR.out]
   exact DecR.no BF.out
  rw [decide_eq_true hd] at HD1
  rw [hd] at HDN
  clear hd
  cases hg : Wi.good m with
  | false =>
   rw [hg] at HG HD1
   have HR : Hid (decM s = (none, 3)) := HD1.out
   clear HD1 hg
   go_wp2_with fail
   refine HDN.out.mono ?_
   rintro e w8 ⟨rfl, hw8⟩
   subst hw8
   go_wp2_with (refine wpList_load_yes (by rfl) _ _ (by rfl) pm 0 (by rfl) cs _ R7.out Tryz.underlying44 (by rfl) HIL2.out ?_)
   refine HG.out.mono ?_
   rintro e W9 ⟨rfl, hb⟩
   have CR9 := Lib.hid (CR7.out.below hb)
   have B9 := Lib.hid (bt B7.out hb)
   clear hb HG CR7 CM7 R7 M7
   obtain ⟨wf, hwf, CF, BF, CQ⟩ := no_row (pr := pr) CR9.out B9.out (Nat.le_of_eq HPR.out.symm)
   have HWF := Lib.hid hwf
   clear hwf
   go_wp2_with (first
    | (refine wpList_store_row (by rfl) _ _ _ (by rfl) pr (.int .i64 0 :: .int .i64 0 :: .int .i64 0 :: .int .i64 0 :: .int .i64 0 :: .int .i64 0 :: .int .i64 0 :: .int .i64 0 :: .int .i64 0 :: .slice none 0 0 :: .int .i64 0 :: .slice none 0 0 :: .int .i64 0 :: .int .i64 0 :: .int .i64 0 :: .int .i64 0 :: .int .i64 0 :: .slice none 0 0 :: .slice none 0 0 :: .int .i64 0 :: .int .i64 0 :: .int .i64 0 :: .int .i64 0 :: .int .i64 0 :: .int .i64 0 :: .int .i64 0 :: .int .i64 0 :: .string ⟨#[]⟩ :: .string ⟨#[]⟩ :: .slice none 0 0 :: .int .i64 0 :: .int .i64 0 :: .int .i64 0 :: .int .i64 0 :: .int .i64 0 :: .int .i64 0 :: .slice none 0 0 :: .slice none 0 0 :: []).toArray (by rfl) (by rfl) 44 _ CQ.out HIA.out rfl HONE.out ?_)
    | fail)
   first | rw [HWF.out] | skip
   refine bodyPost_ret (results_cl_tmp rfl _ _ _ _ _ _ rfl CF.out Tryz.underlying44 rfl HIL.out) rfl ?_
   rw [HR.out]
   exact DecR.no BF.out
  | true =>
   rw [hg] at HG HD1
   have HR : Hid (decM s = (some m, 0)) := HD1.out
   clear HD1 hg
   go_wp2_with fail
   refine HDN.out.mono ?_
   rintro e w8 ⟨rfl, hw8⟩
   subst hw8
   go_wp2_with (refine wpList_load_yes (by rfl) _ _ (by rfl) pm 0 (by rfl) cs _ R7.out Tryz.underlying44 (by rfl) HIL2.out ?_)
   refine HG.out.mono ?_
   rintro e W9 ⟨rfl, hb⟩
   have CR9 := Lib.hid (CR7.out.below hb)
   have B9 := Lib.hid (bt B7.out hb)
   have R9 := Lib.hid (CM7.out.below hb).range
   have M9 : Hid (MsgO W9 w4.heap.size m v) := M7.out.keepsS (Keeps.below (fun _ => False) hb) (fun _ _ => id)
   clear hb HG CR7 CM7 R7 M7
   have CQ : Hid (W9.heap[pr]? = some (.cells (.int .i64 0 :: .int .i64 0 :: .int .i64 0 :: .int .i64 0 :: .int .i64 0 :: .int .i64 0 :: .int .i64 0 :: .int .i64 0 :: .int .i64 0 :: .slice none 0 0 :: .int .i64 0 :: .slice none 0 0 :: .int .i64 0 :: .int .i64 0 :: .int .i64 0 :: .int .i64 0 :: .int .i64 0 :: .slice none 0 0 :: .slice none 0 0 :: .int .i64 0 :: .int .i64 0 :: .int .i64 0 :: .int .i64 0 :: .int .i64 0 :: .int .i64 0 :: .int .i64 0 :: .int .i64 0 :: .string ⟨#[]⟩ :: .string ⟨#[]⟩ :: .slice none 0 0 :: .int .i64 0 :: .int .i64 0 :: .int .i64 0 :: .int .i64 0 :: .int .i64 0 :: .int .i64 0 :: .slice none 0 0 :: .slice none 0 0 :: []).toArray 44 (0, 0))) := CR9.out
   have CF : Hid (Cl (W9.setRow pr cs.toArray) pr cs 44) := by
    have := CR9.out.row cs.toArray
    rwa [List.toList_toArray] at this
   have KF : Keeps (fun j => j = pr) W9 (W9.setRow pr cs.toArray) := Keeps.row _ _ _ rfl
   have BF : Hid (Below w.heap.size w (W9.setRow pr cs.toArray)) := B9.out.trans (KF.toBelow B9.out.size (fun k hk e => by have := HPR.out; omega))
   have MF : Hid (MsgO (W9.setRow pr cs.toArray) w4.heap.size m v) := M9.out.keepsS KF (fun j hj e => by omega)
   go_wp2_with (first
    | (refine wpList_load_mid (by rfl) _ _ (by rfl) pm 0 (by rfl) cs _ R9.out Tryz.underlying44 (by rfl) HIL2.out ?_)
    | (refine wpList_store_row (by rfl) _ _ _ (by rfl) pr cs.toArray (by rfl) (by rfl) 44 _ CQ.out HIA2.out HSZ2.out HONE2.out ?_))
   refine bodyPost_ret (results_cl_tmp rfl _ _ _ _ _ _ rfl CF.out Tryz.underlying44 rfl HIL2.out) rfl ?_
   rw [HR.out]
   refine ⟨v, ?_, MF.out.weaken (by have := HPR.out; omega), MK.out, BF.out⟩
   show _ = Ending.returned (.tuple #[msgV m v, .int .i64 0])
   rw [HMV.out]
   rfl
end Go.Proofs.YtbljbdjmgogknaaGreatDoor
namespace Go.Proofs.YtbljbdjmgogknaaGreatDoor
theorem enc_eq (m : Wi.Msg) : Wi.enc m = 108 :: ((Wi.fieldsL m).flatten ++ [101]) := rfl
theorem read_enc {m : Wi.Msg} (h : Wi.good m = true) (r : List UInt8) : Wi.sMsg (Bd.sSign 108 (Wi.enc m ++ r, false)) = ((m, true), (101 :: r, false)) := by
 rw [enc_eq, List.cons_append, Bd.sSign_of, List.append_assoc, List.singleton_append, Wi.sMsg_of h]
theorem next_of {b : List UInt8} (r : List UInt8) (h : b.length ≤ 16384) : Frm.next (Frm.put b ++ r) 0 = (b, ((8 + b.length : Nat) : Int), 0) := Frm.next_put b r h
theorem decM_put {m : Wi.Msg} (h : Wi.good m = true) : decM (Frm.put (Wi.enc m)) = (some m, 0) := by
 have hl := Wi.enc_le h
 have hn := next_of [] hl
 rw [List.append_nil] at hn
 have hr := read_enc h []
 rw [List.append_nil] at hr
 unfold decM
 rw [hn]
 dsimp only
 rw [hr, if_neg (by simp)]
 dsimp only
 rw [Bd.sSign_of, h, Frm.put_length]
 simp [Bd.sDone]
end Go.Proofs.YtbljbdjmgogknaaGreatDoor
