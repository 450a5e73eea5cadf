/-
  Wnb / Wra / Waw / Wvb: texts of one proof, one behind the other.
  Conditions: none of its own.
-/
import Derived.Test.YtjfpbeccpcbpcaaGreatDoorZad
import Derived.Test.YtjfpbeccpcbpcaaGreatDoorZao
import Derived.Test.YtjfpbeccpcbpcaaGreatDoorZba
import Derived.Test.YtjfpbeccpcbpcaaGreatDoorZbb
set_option linter.unusedVariables false
set_option linter.unusedSimpArgs false
namespace Go.Proofs.YtjfpbeccpcbpcaaGreatDoor
open Go.RowKit
def DecR (w : World) (r : Option Wi.Msg × Int) (e : Ending) (w' : World) : Prop :=
 ∃ v, e = .returned (.tuple #[msgV (r.1.getD Wi.zMsg) v, .int .i64 r.2]) ∧ MsgO w' w.heap.size (r.1.getD Wi.zMsg) v ∧ MsgOk (r.1.getD Wi.zMsg) ∧ Below w.heap.size w w'
theorem zMsg_ok : MsgOk Wi.zMsg := msgOk_of (by simp only [Wi.zMsg, List.mem_cons, List.not_mem_nil, or_false, forall_eq_or_imp, forall_eq, and_self]; exact ⟨by decide, by decide⟩) ⟨Nat.zero_le _, fun x hx => by cases hx⟩ ⟨Nat.zero_le _, fun x hx => by cases hx⟩ zBat_ok zTab_ok zReq_ok zResp_ok
theorem DecR.no {w w' : World} {n : Int} (h : Below w.heap.size w w') : DecR w (none, n) (.returned (.tuple #[.agg (.int .i64 0 :: .int .i64 0 :: .int .i64 0 :: .int .i64 0 :: .int .i64 0 :: .int .i64 0 :: .int .i64 0 :: .int .i64 0 :: .int .i64 0 :: .slice none 0 0 :: .int .i64 0 :: .slice none 0 0 :: .int .i64 0 :: .int .i64 0 :: .int .i64 0 :: .int .i64 0 :: .int .i64 0 :: .slice none 0 0 :: .slice none 0 0 :: .int .i64 0 :: .int .i64 0 :: .int .i64 0 :: .int .i64 0 :: .int .i64 0 :: .int .i64 0 :: .int .i64 0 :: .int .i64 0 :: .string ⟨#[]⟩ :: .string ⟨#[]⟩ :: .slice none 0 0 :: .int .i64 0 :: .int .i64 0 :: .int .i64 0 :: .int .i64 0 :: .int .i64 0 :: .int .i64 0 :: .slice none 0 0 :: .slice none 0 0 :: []).toArray, .int .i64 n])) w' :=
 ⟨zeroV, rfl, ⟨own_nil _ _ _ _, own_nil _ _ _ _, own_nil _ _ _ _, tab_nil _ _, own_nil _ _ _ _, own_nil _ _ _ _, own_nil _ _ _ _⟩, zMsg_ok, h⟩
end Go.Proofs.YtjfpbeccpcbpcaaGreatDoor
namespace Go.Proofs.YtjfpbeccpcbpcaaGreatDoor
end Go.Proofs.YtjfpbeccpcbpcaaGreatDoor
namespace Go.Proofs.YtjfpbeccpcbpcaaGreatDoor
open Go.RowKit
theorem msg_cells (m : Wi.Msg) (v : MsgV) (w : World) (h : MsgAt w m v) : ∃ cs : List Value, msgV m v = .agg cs.toArray ∧ Hid (cs = msgC m v) ∧ Hid ((Tryz.prog.info? 36).map (·.size) = some cs.length) ∧ Hid ((Tryz.prog.info? 36).map (·.size) = some (cs.toArray : Array Value).size) ∧
  Hid ((cs.toArray : Array Value).all (·.oneCell') = true) ∧ Hid (((.int .i64 0 :: .int .i64 0 :: .int .i64 0 :: .int .i64 0 :: .int .i64 0 :: .int .i64 0 :: .int .i64 0 :: .int .i64 0 :: .int .i64 0 :: .slice none 0 0 :: .int .i64 0 :: .slice none 0 0 :: .int .i64 0 :: .int .i64 0 :: .int .i64 0 :: .int .i64 0 :: .int .i64 0 :: .slice none 0 0 :: .slice none 0 0 :: .int .i64 0 :: .int .i64 0 :: .int .i64 0 :: .int .i64 0 :: .int .i64 0 :: .int .i64 0 :: .int .i64 0 :: .int .i64 0 :: .string ⟨#[]⟩ :: .string ⟨#[]⟩ :: .slice none 0 0 :: .int .i64 0 :: .int .i64 0 :: .int .i64 0 :: .int .i64 0 :: .int .i64 0 :: .int .i64 0 :: .slice none 0 0 :: .slice none 0 0 :: []).toArray : Array Value).size = (cs.toArray : Array Value).size) := by
 refine ⟨msgC m v, rfl, rfl, ?_, ?_, ?_, rfl⟩
 ·rw [Hid, show (msgC m v).length = 38 from rfl]; kernel_rfl
 ·rw [Hid, List.size_toArray, show (msgC m v).length = 38 from rfl]; kernel_rfl
 ·obtain ⟨_, _, e1⟩ := h.chain.form
  obtain ⟨_, _, e2⟩ := h.lives.form
  obtain ⟨_, _, e3⟩ := h.brecs.form
  obtain ⟨_, _, e4⟩ := h.table.form
  obtain ⟨_, _, e5⟩ := h.qrecs.form
  obtain ⟨_, _, e6⟩ := h.parts.form
  obtain ⟨_, _, e7⟩ := h.arecs.form
  rw [Hid, msgC, e1, e2, e3, e4, e5, e6, e7]
  simp [Value.oneCell']
theorem zero_at (w : World) : MsgAt w Wi.zMsg zeroV := ⟨Ints.nil w, Rw.nil _ _ w, recs_nil0 w, Tbl.nil w, recs_nil0 w, Ints.nil w, recs_nil0 w⟩
theorem zero_cap : CapOk zeroV.arecs := fun a n cap e => by injection e with e1 e2 e3; omega
theorem wencode_yes' {m : Wi.Msg} (hg : Wi.good m = true) : wencR m = .tuple #[.string ⟨(Frm.put (Wi.enc m)).toArray⟩, .int .i64 0] := by unfold wencR; rw [if_pos hg]
theorem wencode_no' {m : Wi.Msg} (hg : Wi.good m = false) : wencR m = .tuple #[.string ⟨#[]⟩, .int .i64 1] := by unfold wencR; rw [hg]; rfl
theorem beat7_good : Wi.good (beatM 2 0 7) = true := by decide +kernel
theorem beat7_enc : Wi.enc (beatM 2 0 7) = [108, 105, 51, 101, 105, 50, 101, 105, 48, 101, 105, 55, 101, 101] := by decide +kernel
theorem beat7_first : Wi.first (beatM 2 0 7) = true := by decide +kernel
theorem beat7_bytes : beatB (beatM 2 0 7) = Wi.enc (beatM 2 0 7) := by decide +kernel
theorem zero_bad : Wi.good Wi.zMsg = false := by decide +kernel
theorem beat7_ok : MsgOk (beatM 2 0 7) := msgOk_of (by simp only [beatM, List.mem_cons, List.not_mem_nil, or_false, forall_eq_or_imp, forall_eq]; exact ⟨⟨by decide, by decide⟩, ⟨by decide, by decide⟩, ⟨by decide, by decide⟩, ⟨by decide, by decide⟩, ⟨by decide, by decide⟩, ⟨by decide, by decide⟩, ⟨by decide, by decide⟩, ⟨by decide, by decide⟩, ⟨by decide, by decide⟩, ⟨by decide, by decide⟩⟩) ⟨Nat.zero_le _, fun x hx => by cases hx⟩ ⟨Nat.zero_le _, fun x hx => by cases hx⟩ zBat_ok zTab_ok zReq_ok zResp_ok
set_option maxRecDepth 20000 in
set_option maxHeartbeats 12800000 in
theorem awake_any (w : World) (hw : Lw w) : Calls Tryz.prog 9 #[] w fun e w' => e = .returned (.bool true) ∧ Below w.heap.size w w' := by
 have HW := Lib.hid hw
 have HM0 : Hid (msgV (beatM 2 0 7) zeroV = .agg (.int .i64 3 :: .int .i64 2 :: .int .i64 0 :: .int .i64 0 :: .int .i64 0 :: .int .i64 0 :: .int .i64 0 :: .int .i64 7 :: .int .i64 0 :: .slice none 0 0 :: .int .i64 0 :: .slice none 0 0 :: .int .i64 0 :: .int .i64 0 :: .int .i64 0 :: .int .i64 0 :: .int .i64 0 :: .slice none 0 0 :: .slice none 0 0 :: .int .i64 0 :: .int .i64 0 :: .int .i64 0 :: .int .i64 0 :: .int .i64 0 :: .int .i64 0 :: .int .i64 0 :: .int .i64 0 :: .string ⟨#[]⟩ :: .string ⟨#[]⟩ :: .slice none 0 0 :: .int .i64 0 :: .int .i64 0 :: .int .i64 0 :: .int .i64 0 :: .int .i64 0 :: .int .i64 0 :: .slice none 0 0 :: .slice none 0 0 :: []).toArray) := rfl
 have HZ0 : Hid (msgV Wi.zMsg zeroV = .agg (.int .i64 0 :: .int .i64 0 :: .int .i64 0 :: .int .i64 0 :: .int .i64 0 :: .int .i64 0 :: .int .i64 0 :: .int .i64 0 :: .int .i64 0 :: .slice none 0 0 :: .int .i64 0 :: .slice none 0 0 :: .int .i64 0 :: .int .i64 0 :: .int .i64 0 :: .int .i64 0 :: .int .i64 0 :: .slice none 0 0 :: .slice none 0 0 :: .int .i64 0 :: .int .i64 0 :: .int .i64 0 :: .int .i64 0 :: .int .i64 0 :: .int .i64 0 :: .int .i64 0 :: .int .i64 0 :: .string ⟨#[]⟩ :: .string ⟨#[]⟩ :: .slice none 0 0 :: .int .i64 0 :: .int .i64 0 :: .int .i64 0 :: .int .i64 0 :: .int .i64 0 :: .int .i64 0 :: .slice none 0 0 :: .slice none 0 0 :: []).toArray) := rfl
 have HE1 := Lib.hid (fun (W : World) (hL : Lw W) => wencode_any (beatM 2 0 7) zeroV W (beat_at 2 0 7 W) beat7_ok zero_cap hL)
 have HE2 := Lib.hid (fun (W : World) (hL : Lw W) => wencode_any Wi.zMsg zeroV W (zero_at W) zMsg_ok zero_cap hL)
 have HG1 := Lib.hid (fun (W : World) (hL : Lw W) => wgood_any (beatM 2 0 7) zeroV W (beat_at 2 0 7 W) beat7_ok zero_cap hL)
 have HSM := Lib.hid (fun (W : World) (v : MsgV) (h : MsgAt W (beatM 2 0 7) v) => wsame_any (beatM 2 0 7) (beatM 2 0 7) zeroV v W (beat_at 2 0 7 W) h beat7_ok beat7_ok)
 have HPU : Hid (∀ W, Calls Tryz.prog 19 #[.string ⟨#[108, 105, 51, 101, 105, 50, 101, 105, 48, 101, 105, 55, 101, 101]⟩] W fun e w' => e = .returned (.tuple #[.string ⟨(Frm.put (Wi.enc (beatM 2 0 7))).toArray⟩, .int .i64 0]) ∧ Below W.heap.size W w') := fun W => by
  rw [beat7_enc]
  exact put_any [108, 105, 51, 101, 105, 50, 101, 105, 48, 101, 105, 55, 101, 101] W (by decide)
 have hpl := Frm.put_length (Wi.enc (beatM 2 0 7))
 have HDC : Hid (∀ (W : World), Lw W → Calls Tryz.prog 17 #[.string ⟨(Frm.put (Wi.enc (beatM 2 0 7))).toArray⟩] W fun e w' => e = .returned (.tuple #[msgV (beatM 2 0 7) zeroV, .int .i64 0]) ∧ Below W.heap.size W w') := fun W hL => by
  have h := decode_beat 2 0 7 W ⟨by decide, by decide⟩ ⟨by decide, by decide⟩ ⟨by decide, by decide⟩ beat7_first beat7_ok (by rw [beat7_bytes, beat7_enc]; decide) hL
  rwa [beat7_bytes] at h
 rw [wencode_yes' beat7_good] at HE1
 rw [wencode_no' zero_bad] at HE2
 rw [beat7_good] at HG1
 rw [Wi.same_refl] at HSM
 rw [HM0.out] at HE1 HG1 HSM
 rw [HZ0.out] at HE2
 generalize Frm.put (Wi.enc (beatM 2 0 7)) = S at *
 clear hpl hw
 have HI38 := Lib.hid (show (Tryz.prog.info? 36).map (·.size) = some ((.int .i64 3 :: .int .i64 2 :: .int .i64 0 :: .int .i64 0 :: .int .i64 0 :: .int .i64 0 :: .int .i64 0 :: .int .i64 7 :: .int .i64 0 :: .slice none 0 0 :: .int .i64 0 :: .slice none 0 0 :: .int .i64 0 :: .int .i64 0 :: .int .i64 0 :: .int .i64 0 :: .int .i64 0 :: .slice none 0 0 :: .slice none 0 0 :: .int .i64 0 :: .int .i64 0 :: .int .i64 0 :: .int .i64 0 :: .int .i64 0 :: .int .i64 0 :: .int .i64 0 :: .int .i64 0 :: .string ⟨#[]⟩ :: .string ⟨#[]⟩ :: .slice none 0 0 :: .int .i64 0 :: .int .i64 0 :: .int .i64 0 :: .int .i64 0 :: .int .i64 0 :: .int .i64 0 :: .slice none 0 0 :: .slice none 0 0 :: []) : List Value).length by kernel_rfl)
 have HI39 := Lib.hid (show (Tryz.prog.info? 36).map (·.size) = some ((.int .i64 3 :: .int .i64 2 :: .int .i64 0 :: .int .i64 0 :: .int .i64 0 :: .int .i64 0 :: .int .i64 0 :: .int .i64 7 :: .int .i64 0 :: .slice none 0 0 :: .int .i64 0 :: .slice none 0 0 :: .int .i64 0 :: .int .i64 0 :: .int .i64 0 :: .int .i64 0 :: .int .i64 0 :: .slice none 0 0 :: .slice none 0 0 :: .int .i64 0 :: .int .i64 0 :: .int .i64 0 :: .int .i64 0 :: .int .i64 0 :: .int .i64 0 :: .int .i64 0 :: .int .i64 0 :: .string ⟨#[]⟩ :: .string ⟨#[]⟩ :: .slice none 0 0 :: .int .i64 0 :: .int .i64 0 :: .int .i64 0 :: .int .i64 0 :: .int .i64 0 :: .int .i64 0 :: .slice none 0 0 :: .slice none 0 0 :: []).toArray : Array Value).size by kernel_rfl)
 have HONE : Hid (((.int .i64 3 :: .int .i64 2 :: .int .i64 0 :: .int .i64 0 :: .int .i64 0 :: .int .i64 0 :: .int .i64 0 :: .int .i64 7 :: .int .i64 0 :: .slice none 0 0 :: .int .i64 0 :: .slice none 0 0 :: .int .i64 0 :: .int .i64 0 :: .int .i64 0 :: .int .i64 0 :: .int .i64 0 :: .slice none 0 0 :: .slice none 0 0 :: .int .i64 0 :: .int .i64 0 :: .int .i64 0 :: .int .i64 0 :: .int .i64 0 :: .int .i64 0 :: .int .i64 0 :: .int .i64 0 :: .string ⟨#[]⟩ :: .string ⟨#[]⟩ :: .slice none 0 0 :: .int .i64 0 :: .int .i64 0 :: .int .i64 0 :: .int .i64 0 :: .int .i64 0 :: .int .i64 0 :: .slice none 0 0 :: .slice none 0 0 :: []).toArray : Array Value).all (·.oneCell') = true) := by simp [Hid, Value.oneCell']
 have CM : Hid ((w.alloc (.cells (.int .i64 0 :: .int .i64 0 :: .int .i64 0 :: .int .i64 0 :: .int .i64 0 :: .int .i64 0 :: .int .i64 0 :: .int .i64 0 :: .int .i64 0 :: .slice none 0 0 :: .int .i64 0 :: .slice none 0 0 :: .int .i64 0 :: .int .i64 0 :: .int .i64 0 :: .int .i64 0 :: .int .i64 0 :: .slice none 0 0 :: .slice none 0 0 :: .int .i64 0 :: .int .i64 0 :: .int .i64 0 :: .int .i64 0 :: .int .i64 0 :: .int .i64 0 :: .int .i64 0 :: .int .i64 0 :: .string ⟨#[]⟩ :: .string ⟨#[]⟩ :: .slice none 0 0 :: .int .i64 0 :: .int .i64 0 :: .int .i64 0 :: .int .i64 0 :: .int .i64 0 :: .int .i64 0 :: .slice none 0 0 :: .slice none 0 0 :: []).toArray 36)).heap[w.heap.size]? = some (.cells (.int .i64 0 :: .int .i64 0 :: .int .i64 0 :: .int .i64 0 :: .int .i64 0 :: .int .i64 0 :: .int .i64 0 :: .int .i64 0 :: .int .i64 0 :: .slice none 0 0 :: .int .i64 0 :: .slice none 0 0 :: .int .i64 0 :: .int .i64 0 :: .int .i64 0 :: .int .i64 0 :: .int .i64 0 :: .slice none 0 0 :: .slice none 0 0 :: .int .i64 0 :: .int .i64 0 :: .int .i64 0 :: .int .i64 0 :: .int .i64 0 :: .int .i64 0 :: .int .i64 0 :: .int .i64 0 :: .string ⟨#[]⟩ :: .string ⟨#[]⟩ :: .slice none 0 0 :: .int .i64 0 :: .int .i64 0 :: .int .i64 0 :: .int .i64 0 :: .int .i64 0 :: .int .i64 0 :: .slice none 0 0 :: .slice none 0 0 :: []).toArray 36 (0, 0))) := Cl.new w (.int .i64 0 :: .int .i64 0 :: .int .i64 0 :: .int .i64 0 :: .int .i64 0 :: .int .i64 0 :: .int .i64 0 :: .int .i64 0 :: .int .i64 0 :: .slice none 0 0 :: .int .i64 0 :: .slice none 0 0 :: .int .i64 0 :: .int .i64 0 :: .int .i64 0 :: .int .i64 0 :: .int .i64 0 :: .slice none 0 0 :: .slice none 0 0 :: .int .i64 0 :: .int .i64 0 :: .int .i64 0 :: .int .i64 0 :: .int .i64 0 :: .int .i64 0 :: .int .i64 0 :: .int .i64 0 :: .string ⟨#[]⟩ :: .string ⟨#[]⟩ :: .slice none 0 0 :: .int .i64 0 :: .int .i64 0 :: .int .i64 0 :: .int .i64 0 :: .int .i64 0 :: .int .i64 0 :: .slice none 0 0 :: .slice none 0 0 :: []) _
 have C1 : Hid (Cl ((w.alloc (.cells (.int .i64 0 :: .int .i64 0 :: .int .i64 0 :: .int .i64 0 :: .int .i64 0 :: .int .i64 0 :: .int .i64 0 :: .int .i64 0 :: .int .i64 0 :: .slice none 0 0 :: .int .i64 0 :: .slice none 0 0 :: .int .i64 0 :: .int .i64 0 :: .int .i64 0 :: .int .i64 0 :: .int .i64 0 :: .slice none 0 0 :: .slice none 0 0 :: .int .i64 0 :: .int .i64 0 :: .int .i64 0 :: .int .i64 0 :: .int .i64 0 :: .int .i64 0 :: .int .i64 0 :: .int .i64 0 :: .string ⟨#[]⟩ :: .string ⟨#[]⟩ :: .slice none 0 0 :: .int .i64 0 :: .int .i64 0 :: .int .i64 0 :: .int .i64 0 :: .int .i64 0 :: .int .i64 0 :: .slice none 0 0 :: .slice none 0 0 :: []).toArray 36)).setRow w.heap.size (.int .i64 3 :: .int .i64 2 :: .int .i64 0 :: .int .i64 0 :: .int .i64 0 :: .int .i64 0 :: .int .i64 0 :: .int .i64 7 :: .int .i64 0 :: .slice none 0 0 :: .int .i64 0 :: .slice none 0 0 :: .int .i64 0 :: .int .i64 0 :: .int .i64 0 :: .int .i64 0 :: .int .i64 0 :: .slice none 0 0 :: .slice none 0 0 :: .int .i64 0 :: .int .i64 0 :: .int .i64 0 :: .int .i64 0 :: .int .i64 0 :: .int .i64 0 :: .int .i64 0 :: .int .i64 0 :: .string ⟨#[]⟩ :: .string ⟨#[]⟩ :: .slice none 0 0 :: .int .i64 0 :: .int .i64 0 :: .int .i64 0 :: .int .i64 0 :: .int .i64 0 :: .int .i64 0 :: .slice none 0 0 :: .slice none 0 0 :: []).toArray) w.heap.size (.int .i64 3 :: .int .i64 2 :: .int .i64 0 :: .int .i64 0 :: .int .i64 0 :: .int .i64 0 :: .int .i64 0 :: .int .i64 7 :: .int .i64 0 :: .slice none 0 0 :: .int .i64 0 :: .slice none 0 0 :: .int .i64 0 :: .int .i64 0 :: .int .i64 0 :: .int .i64 0 :: .int .i64 0 :: .slice none 0 0 :: .slice none 0 0 :: .int .i64 0 :: .int .i64 0 :: .int .i64 0 :: .int .i64 0 :: .int .i64 0 :: .int .i64 0 :: .int .i64 0 :: .int .i64 0 :: .string ⟨#[]⟩ :: .string ⟨#[]⟩ :: .slice none 0 0 :: .int .i64 0 :: .int .i64 0 :: .int .i64 0 :: .int .i64 0 :: .int .i64 0 :: .int .i64 0 :: .slice none 0 0 :: .slice none 0 0 :: []) 36) := Cl.row (Cl.new w (.int .i64 0 :: .int .i64 0 :: .int .i64 0 :: .int .i64 0 :: .int .i64 0 :: .int .i64 0 :: .int .i64 0 :: .int .i64 0 :: .int .i64 0 :: .slice none 0 0 :: .int .i64 0 :: .slice none 0 0 :: .int .i64 0 :: .int .i64 0 :: .int .i64 0 :: .int .i64 0 :: .int .i64 0 :: .slice none 0 0 :: .slice none 0 0 :: .int .i64 0 :: .int .i64 0 :: .int .i64 0 :: .int .i64 0 :: .int .i64 0 :: .int .i64 0 :: .int .i64 0 :: .int .i64 0 :: .string ⟨#[]⟩ :: .string ⟨#[]⟩ :: .slice none 0 0 :: .int .i64 0 :: .int .i64 0 :: .int .i64 0 :: .int .i64 0 :: .int .i64 0 :: .int .i64 0 :: .slice none 0 0 :: .slice none 0 0 :: []) _) _
 have B1 : Hid (Below w.heap.size w ((w.alloc (.cells (.int .i64 0 :: .int .i64 0 :: .int .i64 0 :: .int .i64 0 :: .int .i64 0 :: .int .i64 0 :: .int .i64 0 :: .int .i64 0 :: .int .i64 0 :: .slice none 0 0 :: .int .i64 0 :: .slice none 0 0 :: .int .i64 0 :: .int .i64 0 :: .int .i64 0 :: .int .i64 0 :: .int .i64 0 :: .slice none 0 0 :: .slice none 0 0 :: .int .i64 0 :: .int .i64 0 :: .int .i64 0 :: .int .i64 0 :: .int .i64 0 :: .int .i64 0 :: .int .i64 0 :: .int .i64 0 :: .string ⟨#[]⟩ :: .string ⟨#[]⟩ :: .slice none 0 0 :: .int .i64 0 :: .int .i64 0 :: .int .i64 0 :: .int .i64 0 :: .int .i64 0 :: .int .i64 0 :: .slice none 0 0 :: .slice none 0 0 :: []).toArray 36)).setRow w.heap.size (.int .i64 3 :: .int .i64 2 :: .int .i64 0 :: .int .i64 0 :: .int .i64 0 :: .int .i64 0 :: .int .i64 0 :: .int .i64 7 :: .int .i64 0 :: .slice none 0 0 :: .int .i64 0 :: .slice none 0 0 :: .int .i64 0 :: .int .i64 0 :: .int .i64 0 :: .int .i64 0 :: .int .i64 0 :: .slice none 0 0 :: .slice none 0 0 :: .int .i64 0 :: .int .i64 0 :: .int .i64 0 :: .int .i64 0 :: .int .i64 0 :: .int .i64 0 :: .int .i64 0 :: .int .i64 0 :: .string ⟨#[]⟩ :: .string ⟨#[]⟩ :: .slice none 0 0 :: .int .i64 0 :: .int .i64 0 :: .int .i64 0 :: .int .i64 0 :: .int .i64 0 :: .int .i64 0 :: .slice none 0 0 :: .slice none 0 0 :: []).toArray)) := ((Below.refl _ _).alloc (Nat.le_refl _) _).trans ((Keeps.row (S := fun j => j = w.heap.size) _ w.heap.size _ rfl).toBelow (by simp) (fun k hk e => by omega))
 go_enter Tryz.func9, Tryz.ntmps9
 go_upto_region 2 with (refine wpList_store_row (by rfl) _ _ _ (by rfl) w.heap.size (.int .i64 3 :: .int .i64 2 :: .int .i64 0 :: .int .i64 0 :: .int .i64 0 :: .int .i64 0 :: .int .i64 0 :: .int .i64 7 :: .int .i64 0 :: .slice none 0 0 :: .int .i64 0 :: .slice none 0 0 :: .int .i64 0 :: .int .i64 0 :: .int .i64 0 :: .int .i64 0 :: .int .i64 0 :: .slice none 0 0 :: .slice none 0 0 :: .int .i64 0 :: .int .i64 0 :: .int .i64 0 :: .int .i64 0 :: .int .i64 0 :: .int .i64 0 :: .int .i64 0 :: .int .i64 0 :: .string ⟨#[]⟩ :: .string ⟨#[]⟩ :: .slice none 0 0 :: .int .i64 0 :: .int .i64 0 :: .int .i64 0 :: .int .i64 0 :: .int .i64 0 :: .int .i64 0 :: .slice none 0 0 :: .slice none 0 0 :: []).toArray (by rfl) (by rfl) 36 _ CM.out HI39.out rfl HONE.out ?_)
 clear CM
 generalize (w.alloc (.cells (.int .i64 0 :: .int .i64 0 :: .int .i64 0 :: .int .i64 0 :: .int .i64 0 :: .int .i64 0 :: .int .i64 0 :: .int .i64 0 :: .int .i64 0 :: .slice none 0 0 :: .int .i64 0 :: .slice none 0 0 :: .int .i64 0 :: .int .i64 0 :: .int .i64 0 :: .int .i64 0 :: .int .i64 0 :: .slice none 0 0 :: .slice none 0 0 :: .int .i64 0 :: .int .i64 0 :: .int .i64 0 :: .int .i64 0 :: .int .i64 0 :: .int .i64 0 :: .int .i64 0 :: .int .i64 0 :: .string ⟨#[]⟩ :: .string ⟨#[]⟩ :: .slice none 0 0 :: .int .i64 0 :: .int .i64 0 :: .int .i64 0 :: .int .i64 0 :: .int .i64 0 :: .int .i64 0 :: .slice none 0 0 :: .slice none 0 0 :: []).toArray 36)).setRow w.heap.size (.int .i64 3 :: .int .i64 2 :: .int .i64 0 :: .int .i64 0 :: .int .i64 0 :: .int .i64 0 :: .int .i64 0 :: .int .i64 7 :: .int .i64 0 :: .slice none 0 0 :: .int .i64 0 :: .slice none 0 0 :: .int .i64 0 :: .int .i64 0 :: .int .i64 0 :: .int .i64 0 :: .int .i64 0 :: .slice none 0 0 :: .slice none 0 0 :: .int .i64 0 :: .int .i64 0 :: .int .i64 0 :: .int .i64 0 :: .int .i64 0 :: .int .i64 0 :: .int .i64 0 :: .int .i64 0 :: .string ⟨#[]⟩ :: .string ⟨#[]⟩ :: .slice none 0 0 :: .int .i64 0 :: .int .i64 0 :: .int .i64 0 :: .int .i64 0 :: .int .i64 0 :: .int .i64 0 :: .slice none 0 0 :: .slice none 0 0 :: []).toArray = w1 at *
 generalize hb1 : w.heap.size = b1 at *
 have HB1 := Lib.hid hb1
 clear hb1
 have R1 := Lib.hid C1.out.range
 go_wp2_with (refine wpList_load_mid (by rfl) _ _ (by rfl) b1 0 (by rfl) (.int .i64 3 :: .int .i64 2 :: .int .i64 0 :: .int .i64 0 :: .int .i64 0 :: .int .i64 0 :: .int .i64 0 :: .int .i64 7 :: .int .i64 0 :: .slice none 0 0 :: .int .i64 0 :: .slice none 0 0 :: .int .i64 0 :: .int .i64 0 :: .int .i64 0 :: .int .i64 0 :: .int .i64 0 :: .slice none 0 0 :: .slice none 0 0 :: .int .i64 0 :: .int .i64 0 :: .int .i64 0 :: .int .i64 0 :: .int .i64 0 :: .int .i64 0 :: .int .i64 0 :: .int .i64 0 :: .string ⟨#[]⟩ :: .string ⟨#[]⟩ :: .slice none 0 0 :: .int .i64 0 :: .int .i64 0 :: .int .i64 0 :: .int .i64 0 :: .int .i64 0 :: .int .i64 0 :: .slice none 0 0 :: .slice none 0 0 :: []) _ R1.out Tryz.underlying36 (by rfl) HI38.out ?_)
 refine (HE1.out _ (HW.out.below (by rw [HB1.out]; exact B1.out))).mono ?_
 rintro e w2 ⟨rfl, hb⟩
 have C2 := Lib.hid (C1.out.below hb)
 have B2 : Hid (Below w.heap.size w w2) := bt (by rw [HB1.out]; exact B1.out) hb
 clear hb C1 R1 HE1 B1
 go_wp2_with fail
 refine (HPU.out _).mono ?_
 rintro e w3 ⟨rfl, hb⟩
 have C3 := Lib.hid (C2.out.below hb)
 have B3 := Lib.hid (bt B2.out hb)
 clear hb C2 B2 HPU
 go_wp2_with fail
 refine (HDC.out _ (HW.out.below B3.out)).mono ?_
 rintro e w4 ⟨rfl, hb⟩
 obtain ⟨v, hv⟩ : ∃ v, v = zeroV := ⟨_, rfl⟩
 rw [← hv]
 have hmo : MsgAt w4 (beatM 2 0 7) v := by rw [hv]; exact beat_at 2 0 7 w4
 clear hv
 have C4 := Lib.hid (C3.out.below hb)
 have B4 := Lib.hid (bt B3.out hb)
 have M4 := Lib.hid hmo
 obtain ⟨cs, hmv, HCS, HIL, HIA, HON, HSZ⟩ := msg_cells (beatM 2 0 7) v w4 hmo
 clear hb C3 B3 HDC hmo
 rw [hmv]
 have HMV := Lib.hid hmv
 clear hmv
 have CM : Hid ((w4.alloc (.cells (.int .i64 0 :: .int .i64 0 :: .int .i64 0 :: .int .i64 0 :: .int .i64 0 :: .int .i64 0 :: .int .i64 0 :: .int .i64 0 :: .int .i64 0 :: .slice none 0 0 :: .int .i64 0 :: .slice none 0 0 :: .int .i64 0 :: .int .i64 0 :: .int .i64 0 :: .int .i64 0 :: .int .i64 0 :: .slice none 0 0 :: .slice none 0 0 :: .int .i64 0 :: .int .i64 0 :: .int .i64 0 :: .int .i64 0 :: .int .i64 0 :: .int .i64 0 :: .int .i64 0 :: .int .i64 0 :: .string ⟨#[]⟩ :: .string ⟨#[]⟩ :: .slice none 0 0 :: .int .i64 0 :: .int .i64 0 :: .int .i64 0 :: .int .i64 0 :: .int .i64 0 :: .int .i64 0 :: .slice none 0 0 :: .slice none 0 0 :: []).toArray 36)).heap[w4.heap.size]? = some (.cells (.int .i64 0 :: .int .i64 0 :: .int .i64 0 :: .int .i64 0 :: .int .i64 0 :: .int .i64 0 :: .int .i64 0 :: .int .i64 0 :: .int .i64 0 :: .slice none 0 0 :: .int .i64 0 :: .slice none 0 0 :: .int .i64 0 :: .int .i64 0 :: .int .i64 0 :: .int .i64 0 :: .int .i64 0 :: .slice none 0 0 :: .slice none 0 0 :: .int .i64 0 :: .int .i64 0 :: .int .i64 0 :: .int .i64 0 :: .int .i64 0 :: .int .i64 0 :: .int .i64 0 :: .int .i64 0 :: .string ⟨#[]⟩ :: .string ⟨#[]⟩ :: .slice none 0 0 :: .int .i64 0 :: .int .i64 0 :: .int .i64 0 :: .int .i64 0 :: .int .i64 0 :: .int .i64 0 :: .slice none 0 0 :: .slice none 0 0 :: []).toArray 36 (0, 0))) := Cl.new w4 (.int .i64 0 :: .int .i64 0 :: .int .i64 0 :: .int .i64 0 :: .int .i64 0 :: .int .i64 0 :: .int .i64 0 :: .int .i64 0 :: .int .i64 0 :: .slice none 0 0 :: .int .i64 0 :: .slice none 0 0 :: .int .i64 0 :: .int .i64 0 :: .int .i64 0 :: .int .i64 0 :: .int .i64 0 :: .slice none 0 0 :: .slice none 0 0 :: .int .i64 0 :: .int .i64 0 :: .int .i64 0 :: .int .i64 0 :: .int .i64 0 :: .int .i64 0 :: .int .i64 0 :: .int .i64 0 :: .string ⟨#[]⟩ :: .string ⟨#[]⟩ :: .slice none 0 0 :: .int .i64 0 :: .int .i64 0 :: .int .i64 0 :: .int .i64 0 :: .int .i64 0 :: .int .i64 0 :: .slice none 0 0 :: .slice none 0 0 :: []) _
 have C5 : Hid (Cl ((w4.alloc (.cells (.int .i64 0 :: .int .i64 0 :: .int .i64 0 :: .int .i64 0 :: .int .i64 0 :: .int .i64 0 :: .int .i64 0 :: .int .i64 0 :: .int .i64 0 :: .slice none 0 0 :: .int .i64 0 :: .slice none 0 0 :: .int .i64 0 :: .int .i64 0 :: .int .i64 0 :: .int .i64 0 :: .int .i64 0 :: .slice none 0 0 :: .slice none 0 0 :: .int .i64 0 :: .int .i64 0 :: .int .i64 0 :: .int .i64 0 :: .int .i64 0 :: .int .i64 0 :: .int .i64 0 :: .int .i64 0 :: .string ⟨#[]⟩ :: .string ⟨#[]⟩ :: .slice none 0 0 :: .int .i64 0 :: .int .i64 0 :: .int .i64 0 :: .int .i64 0 :: .int .i64 0 :: .int .i64 0 :: .slice none 0 0 :: .slice none 0 0 :: []).toArray 36)).setRow w4.heap.size cs.toArray) w4.heap.size cs 36) := by
  have := Cl.row (Cl.new w4 (.int .i64 0 :: .int .i64 0 :: .int .i64 0 :: .int .i64 0 :: .int .i64 0 :: .int .i64 0 :: .int .i64 0 :: .int .i64 0 :: .int .i64 0 :: .slice none 0 0 :: .int .i64 0 :: .slice none 0 0 :: .int .i64 0 :: .int .i64 0 :: .int .i64 0 :: .int .i64 0 :: .int .i64 0 :: .slice none 0 0 :: .slice none 0 0 :: .int .i64 0 :: .int .i64 0 :: .int .i64 0 :: .int .i64 0 :: .int .i64 0 :: .int .i64 0 :: .int .i64 0 :: .int .i64 0 :: .string ⟨#[]⟩ :: .string ⟨#[]⟩ :: .slice none 0 0 :: .int .i64 0 :: .int .i64 0 :: .int .i64 0 :: .int .i64 0 :: .int .i64 0 :: .int .i64 0 :: .slice none 0 0 :: .slice none 0 0 :: []) 36) cs.toArray
  rwa [List.toList_toArray] at this
 have b45 : Hid (Below w4.heap.size w4 ((w4.alloc (.cells (.int .i64 0 :: .int .i64 0 :: .int .i64 0 :: .int .i64 0 :: .int .i64 0 :: .int .i64 0 :: .int .i64 0 :: .int .i64 0 :: .int .i64 0 :: .slice none 0 0 :: .int .i64 0 :: .slice none 0 0 :: .int .i64 0 :: .int .i64 0 :: .int .i64 0 :: .int .i64 0 :: .int .i64 0 :: .slice none 0 0 :: .slice none 0 0 :: .int .i64 0 :: .int .i64 0 :: .int .i64 0 :: .int .i64 0 :: .int .i64 0 :: .int .i64 0 :: .int .i64 0 :: .int .i64 0 :: .string ⟨#[]⟩ :: .string ⟨#[]⟩ :: .slice none 0 0 :: .int .i64 0 :: .int .i64 0 :: .int .i64 0 :: .int .i64 0 :: .int .i64 0 :: .int .i64 0 :: .slice none 0 0 :: .slice none 0 0 :: []).toArray 36)).setRow w4.heap.size cs.toArray)) := ((Below.refl _ _).alloc (Nat.le_refl _) _).trans ((Keeps.row (S := fun j => j = w4.heap.size) _ w4.heap.size _ rfl).toBelow (by simp) (fun k hk e => by omega))
 go_upto_region 5 with (refine wpList_store_row (by rfl) _ _ _ (by rfl) w4.heap.size cs.toArray (by rfl) (by rfl) 36 _ CM.out HIA.out HSZ.out HON.out ?_)
 clear CM
 generalize (w4.alloc (.cells (.int .i64 0 :: .int .i64 0 :: .int .i64 0 :: .int .i64 0 :: .int .i64 0 :: .int .i64 0 :: .int .i64 0 :: .int .i64 0 :: .int .i64 0 :: .slice none 0 0 :: .int .i64 0 :: .slice none 0 0 :: .int .i64 0 :: .int .i64 0 :: .int .i64 0 :: .int .i64 0 :: .int .i64 0 :: .slice none 0 0 :: .slice none 0 0 :: .int .i64 0 :: .int .i64 0 :: .int .i64 0 :: .int .i64 0 :: .int .i64 0 :: .int .i64 0 :: .int .i64 0 :: .int .i64 0 :: .string ⟨#[]⟩ :: .string ⟨#[]⟩ :: .slice none 0 0 :: .int .i64 0 :: .int .i64 0 :: .int .i64 0 :: .int .i64 0 :: .int .i64 0 :: .int .i64 0 :: .slice none 0 0 :: .slice none 0 0 :: []).toArray 36)).setRow w4.heap.size cs.toArray = w5 at *
 have D5 := Lib.hid (C4.out.below b45.out)
 have B5 := Lib.hid (bt B4.out b45.out)
 have M5 := Lib.hid (M4.out.kept b45.out)
 clear C4 B4 M4 b45
 generalize w4.heap.size = b4 at *
 go_wp2_with fail
 refine (HE2.out _ (HW.out.below B5.out)).mono ?_
 rintro e w6 ⟨rfl, hb⟩
 have C6 := Lib.hid (C5.out.below hb)
 have D6 := Lib.hid (D5.out.below hb)
 have B6 := Lib.hid (bt B5.out hb)
 have M6 := Lib.hid (M5.out.kept hb)
 clear hb C5 D5 B5 M5 HE2
 have R6 := Lib.hid C6.out.range
 have Q6 := Lib.hid D6.out.range
 have HS6 := Lib.hid (HSM.out w6 v M6.out)
 rw [HMV.out] at HS6
 clear HSM
 go_wp2_with (first
  | (refine wpList_load_yes (by rfl) _ _ (by rfl) b1 0 (by rfl) (.int .i64 3 :: .int .i64 2 :: .int .i64 0 :: .int .i64 0 :: .int .i64 0 :: .int .i64 0 :: .int .i64 0 :: .int .i64 7 :: .int .i64 0 :: .slice none 0 0 :: .int .i64 0 :: .slice none 0 0 :: .int .i64 0 :: .int .i64 0 :: .int .i64 0 :: .int .i64 0 :: .int .i64 0 :: .slice none 0 0 :: .slice none 0 0 :: .int .i64 0 :: .int .i64 0 :: .int .i64 0 :: .int .i64 0 :: .int .i64 0 :: .int .i64 0 :: .int .i64 0 :: .int .i64 0 :: .string ⟨#[]⟩ :: .string ⟨#[]⟩ :: .slice none 0 0 :: .int .i64 0 :: .int .i64 0 :: .int .i64 0 :: .int .i64 0 :: .int .i64 0 :: .int .i64 0 :: .slice none 0 0 :: .slice none 0 0 :: []) _ Q6.out Tryz.underlying36 (by rfl) HI38.out ?_)
  | (refine wpList_load_yes (by rfl) _ _ (by rfl) b4 0 (by rfl) cs _ R6.out Tryz.underlying36 (by rfl) HIL.out ?_))
 refine HS6.out.mono ?_
 rintro e w7 ⟨rfl, hb⟩
 have D7 := Lib.hid (D6.out.below hb)
 have B7 := Lib.hid (bt B6.out hb)
 clear hb C6 D6 B6 M6 R6 Q6 HS6
 have Q7 := Lib.hid D7.out.range
 go_wp2_with (refine wpList_load_yes (by rfl) _ _ (by rfl) b1 0 (by rfl) (.int .i64 3 :: .int .i64 2 :: .int .i64 0 :: .int .i64 0 :: .int .i64 0 :: .int .i64 0 :: .int .i64 0 :: .int .i64 7 :: .int .i64 0 :: .slice none 0 0 :: .int .i64 0 :: .slice none 0 0 :: .int .i64 0 :: .int .i64 0 :: .int .i64 0 :: .int .i64 0 :: .int .i64 0 :: .slice none 0 0 :: .slice none 0 0 :: .int .i64 0 :: .int .i64 0 :: .int .i64 0 :: .int .i64 0 :: .int .i64 0 :: .int .i64 0 :: .int .i64 0 :: .int .i64 0 :: .string ⟨#[]⟩ :: .string ⟨#[]⟩ :: .slice none 0 0 :: .int .i64 0 :: .int .i64 0 :: .int .i64 0 :: .int .i64 0 :: .int .i64 0 :: .int .i64 0 :: .slice none 0 0 :: .slice none 0 0 :: []) _ Q7.out Tryz.underlying36 (by rfl) HI38.out ?_)
 refine (HG1.out _ (HW.out.below B7.out)).mono ?_
 rintro e w8 ⟨rfl, hb⟩
 have B8 := Lib.hid (bt B7.out hb)
 clear hb
 go_wp2
 go_ret
 exact ⟨rfl, B8.out⟩
end Go.Proofs.YtjfpbeccpcbpcaaGreatDoor
namespace Go.Proofs.YtjfpbeccpcbpcaaGreatDoor
open Go.ChangeShapes Go.WideShapes Go.ChangeAt Go.RowKit
set_option maxRecDepth 100000 in
theorem open_respK {W : World} {b0 fuel : Nat} {H : Type} {enc : TypeId × Value → H} {spare : Nat → Bool} {held : Bool} {cs : List Value} {x : DataW H × List MemPlace}
  (h : DataW.trod enc Tryz.prog W b0 spare held fuel 34 cs = some x) : ∃ (a : Wi.Resp) (pv rv : Value), cs = wrespC a pv rv ∧ Ints W pv a.parts ∧ Recs W rv a.recs ∧ RespOk a ∧ CapOk rv := by
 obtain ⟨xs, n, _, _, hcl, hxl, hfd⟩ := DataW.trod_struct Tryz.underlying34 h
 rw [cResp] at hcl
 match xs, hxl, cs, hcl with
 | [x0, x1, x2, x3, x4, x5, x6, x7], _, [c0, c1, c2, c3, c4, c5, c6, c7], _ =>
  have g0 := hfd 0 _ rfl
  have g1 := hfd 1 _ rfl
  have g2 := hfd 2 _ rfl
  have g3 := hfd 3 _ rfl
  have g4 := hfd 4 _ rfl
  have g5 := hfd 5 _ rfl
  have g6 := hfd 6 _ rfl
  have g7 := hfd 7 _ rfl
  simp [cInt, cStr, cRecs, cErr, cInts, cLives, cSlots, cTab, cPart, cBat, cReq, cResp] at g0 g1 g2 g3 g4 g5 g6 g7
  obtain ⟨n0, e0, _, w0⟩ := DataW.trod_int Tryz.underlying3 g0
  obtain ⟨n1, e1, _, w1⟩ := DataW.trod_int Tryz.underlying3 g1
  obtain ⟨n2, e2, _, w2⟩ := DataW.trod_int Tryz.underlying32 g2
  obtain ⟨n3, e3, _, w3⟩ := DataW.trod_int Tryz.underlying3 g3
  obtain ⟨n4, e4, _, w4⟩ := DataW.trod_int Tryz.underlying3 g4
  obtain ⟨n5, e5, _, w5⟩ := DataW.trod_int Tryz.underlying3 g5
  obtain ⟨v6, l6, e6, R6, m6, o6⟩ := open_intsT g6
  obtain ⟨v7, l7, e7, R7, m7, o7, hcp⟩ := open_recsT g7
  simp [wreqC, wrespC] at e0 e1 e2 e3 e4 e5 e6 e7
  subst e0 e1 e2 e3 e4 e5 e6 e7
  exact ⟨⟨n0, n1, n2, n3, n4, n5, l6, l7⟩, _, _, rfl, R6, R7, ⟨⟨inR_wf w0, inR_wf w1, inR_wf w2, inR_wf w3, inR_wf w4, inR_wf w5⟩, ⟨m6, o6⟩, m7, o7⟩, fun a n cap e => by
   obtain ⟨a', c', e', hle, _⟩ := hcp
   rw [e'] at e
   injection e with f1 f2 f3
   omega⟩
set_option maxRecDepth 100000 in
set_option maxHeartbeats 4000000 in
theorem open_msgK {W : World} {b0 fuel : Nat} {H : Type} {enc : TypeId × Value → H} {spare : Nat → Bool} {held : Bool} {cs : List Value} {x : DataW H × List MemPlace}
  (h : DataW.trod enc Tryz.prog W b0 spare held fuel 36 cs = some x) : ∃ (m : Wi.Msg) (v : MsgV), cs = msgC m v ∧ MsgAt W m v ∧ MsgOk m ∧ CapOk v.arecs := by
 obtain ⟨xs, n, _, _, hcl, hxl, hfd⟩ := DataW.trod_struct Tryz.underlying36 h
 rw [cMsg] at hcl
 obtain ⟨c0, t0, rfl, k0⟩ := list_cons (hcl)
 obtain ⟨c1, t1, rfl, k1⟩ := list_cons (k0)
 obtain ⟨c2, t2, rfl, k2⟩ := list_cons (k1)
 obtain ⟨c3, t3, rfl, k3⟩ := list_cons (k2)
 obtain ⟨c4, t4, rfl, k4⟩ := list_cons (k3)
 obtain ⟨c5, t5, rfl, k5⟩ := list_cons (k4)
 obtain ⟨c6, t6, rfl, k6⟩ := list_cons (k5)
 obtain ⟨c7, t7, rfl, k7⟩ := list_cons (k6)
 obtain ⟨c8, t8, rfl, k8⟩ := list_cons (k7)
 obtain ⟨c9, t9, rfl, k9⟩ := list_cons (k8)
 obtain ⟨c10, t10, rfl, k10⟩ := list_cons (k9)
 obtain ⟨c11, t11, rfl, k11⟩ := list_cons (k10)
 obtain ⟨c12, t12, rfl, k12⟩ := list_cons (k11)
 obtain ⟨c13, t13, rfl, k13⟩ := list_cons (k12)
 obtain ⟨c14, t14, rfl, k14⟩ := list_cons (k13)
 obtain ⟨c15, t15, rfl, k15⟩ := list_cons (k14)
 obtain ⟨c16, t16, rfl, k16⟩ := list_cons (k15)
 obtain ⟨c17, t17, rfl, k17⟩ := list_cons (k16)
 obtain ⟨c18, t18, rfl, k18⟩ := list_cons (k17)
 obtain ⟨c19, t19, rfl, k19⟩ := list_cons (k18)
 obtain ⟨c20, t20, rfl, k20⟩ := list_cons (k19)
 obtain ⟨c21, t21, rfl, k21⟩ := list_cons (k20)
 obtain ⟨c22, t22, rfl, k22⟩ := list_cons (k21)
 obtain ⟨c23, t23, rfl, k23⟩ := list_cons (k22)
 obtain ⟨c24, t24, rfl, k24⟩ := list_cons (k23)
 obtain ⟨c25, t25, rfl, k25⟩ := list_cons (k24)
 obtain ⟨c26, t26, rfl, k26⟩ := list_cons (k25)
 obtain ⟨c27, t27, rfl, k27⟩ := list_cons (k26)
 obtain ⟨c28, t28, rfl, k28⟩ := list_cons (k27)
 obtain ⟨c29, t29, rfl, k29⟩ := list_cons (k28)
 obtain ⟨c30, t30, rfl, k30⟩ := list_cons (k29)
 obtain ⟨c31, t31, rfl, k31⟩ := list_cons (k30)
 obtain ⟨c32, t32, rfl, k32⟩ := list_cons (k31)
 obtain ⟨c33, t33, rfl, k33⟩ := list_cons (k32)
 obtain ⟨c34, t34, rfl, k34⟩ := list_cons (k33)
 obtain ⟨c35, t35, rfl, k35⟩ := list_cons (k34)
 obtain ⟨c36, t36, rfl, k36⟩ := list_cons (k35)
 obtain ⟨c37, t37, rfl, k37⟩ := list_cons (k36)
 obtain rfl := List.eq_nil_of_length_eq_zero k37
 match xs, hxl with
 | [x0, x1, x2, x3, x4, x5, x6, x7, x8, x9, x10, x11, x12, x13], _ =>
  have g0 := hfd 0 _ rfl
  have g1 := hfd 1 _ rfl
  have g2 := hfd 2 _ rfl
  have g3 := hfd 3 _ rfl
  have g4 := hfd 4 _ rfl
  have g5 := hfd 5 _ rfl
  have g6 := hfd 6 _ rfl
  have g7 := hfd 7 _ rfl
  have g8 := hfd 8 _ rfl
  have g9 := hfd 9 _ rfl
  have g10 := hfd 10 _ rfl
  have g11 := hfd 11 _ rfl
  have g12 := hfd 12 _ rfl
  have g13 := hfd 13 _ rfl
  simp [cInt, cStr, cRecs, cErr, cInts, cLives, cSlots, cTab, cPart, cBat, cReq, cResp] at g0 g1 g2 g3 g4 g5 g6 g7 g8 g9 g10 g11 g12 g13
  obtain ⟨n0, e0, _, w0⟩ := DataW.trod_int Tryz.underlying3 g0
  obtain ⟨n1, e1, _, w1⟩ := DataW.trod_int Tryz.underlying3 g1
  obtain ⟨n2, e2, _, w2⟩ := DataW.trod_int Tryz.underlying3 g2
  obtain ⟨n3, e3, _, w3⟩ := DataW.trod_int Tryz.underlying3 g3
  obtain ⟨n4, e4, _, w4⟩ := DataW.trod_int Tryz.underlying3 g4
  obtain ⟨n5, e5, _, w5⟩ := DataW.trod_int Tryz.underlying3 g5
  obtain ⟨n6, e6, _, w6⟩ := DataW.trod_int Tryz.underlying3 g6
  obtain ⟨n7, e7, _, w7⟩ := DataW.trod_int Tryz.underlying3 g7
  obtain ⟨pa8, pc8, pl8, pv8, e8, wa8, R8, m8, o8, wb8⟩ := open_partT g8
  obtain ⟨v9, l9, e9, R9, m9, o9⟩ := open_livesT g9
  obtain ⟨b10, v10, e10, R10, o10⟩ := open_batT g10
  obtain ⟨v11, l11, e11, R11, m11, o11⟩ := open_tableT g11
  obtain ⟨q12, v12, e12, R12, o12⟩ := open_reqT g12
  obtain ⟨q13, v13, u13, e13, P13, R13, o13, K13⟩ := open_respK g13
  simp [wreqC, wrespC] at e0 e1 e2 e3 e4 e5 e6 e7 e8 e9 e10 e11 e12 e13
  obtain ⟨f8_0, f8_1, f8_2⟩ := e8
  obtain ⟨f10_0, f10_1, f10_2, f10_3, f10_4, f10_5⟩ := e10
  obtain ⟨f12_0, f12_1, f12_2, f12_3, f12_4, f12_5, f12_6, f12_7, f12_8, f12_9, f12_10⟩ := e12
  obtain ⟨f13_0, f13_1, f13_2, f13_3, f13_4, f13_5, f13_6, f13_7⟩ := e13
  subst e0 e1 e2 e3 e4 e5 e6 e7 f8_0 f8_1 f8_2 e9 f10_0 f10_1 f10_2 f10_3 f10_4 f10_5 e11 f12_0 f12_1 f12_2 f12_3 f12_4 f12_5 f12_6 f12_7 f12_8 f12_9 f12_10 f13_0 f13_1 f13_2 f13_3 f13_4 f13_5 f13_6 f13_7
  refine ⟨⟨n0, n1, n2, n3, n4, n5, n6, n7, pa8, pc8, pl8, l9, b10, l11, q12, q13⟩, ⟨_, _, _, _, _, _, _⟩, rfl, ⟨R8, R9, R10, R11, R12, P13, R13⟩, ?_, K13⟩
  obtain ⟨⟨a0, a1, a2, a3, a4, a5, a6, a7⟩, a8, a9, a10, a11⟩ := o12
  obtain ⟨⟨d0, d1, d2, d3, d4, d5⟩, d6, d7, d8⟩ := o13
  refine ⟨?_, ⟨m8, o8⟩, ⟨m9, o9⟩, o10, ⟨m11, o11⟩, ⟨a8, a9, a10, a11⟩, d6, ⟨d7, d8⟩⟩
  simp only [List.mem_cons, List.not_mem_nil, or_false, forall_eq_or_imp, forall_eq]
  exact ⟨inR_wf w0, inR_wf w1, inR_wf w2, inR_wf w3, inR_wf w4, inR_wf w5, inR_wf w6, inR_wf w7, wa8, wb8, a0, a1, a2, a3, a4, a5, a6, a7, d0, d1, d2, d3, d4, d5⟩
end Go.Proofs.YtjfpbeccpcbpcaaGreatDoor
