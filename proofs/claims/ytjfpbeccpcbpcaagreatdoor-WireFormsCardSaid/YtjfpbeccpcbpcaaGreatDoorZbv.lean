/-
  Wra / Waw: texts of one proof, one behind the other.
  Conditions: none of its own.
-/
import Derived.Test.YtjfpbeccpcbpcaaGreatDoorZae
import Derived.Test.YtjfpbeccpcbpcaaGreatDoorZbu
set_option linter.unusedVariables false
set_option linter.unusedSimpArgs false
namespace Go.Proofs.YtjfpbeccpcbpcaaGreatDoor
theorem enc_eq (m : Wi.Msg) : Wi.enc m = 108 :: ((Wi.fieldsL m).flatten ++ [101]) := rfl
theorem read_enc {m : Wi.Msg} (h : Wi.good m = true) (r : List UInt8) : Wi.sMsg (Bd.sSign 108 (Wi.enc m ++ r, false)) = ((m, true), (101 :: r, false)) := by
  rw [enc_eq, List.cons_append, Bd.sSign_of, List.append_assoc, List.singleton_append, Wi.sMsg_of h]
theorem next_of {b : List UInt8} (r : List UInt8) (h : b.length ≤ 16384) : Frm.next (Frm.put b ++ r) 0 = (b, ((8 + b.length : Nat) : Int), 0) := Frm.next_put b r h
theorem decM_put {m : Wi.Msg} (h : Wi.good m = true) : decM (Frm.put (Wi.enc m)) = (some m, 0) := by
  have hl := Wi.enc_le h
  have hn := next_of [] hl
  rw [List.append_nil] at hn
  have hr := read_enc h []
  rw [List.append_nil] at hr
  unfold decM
  rw [hn]
  dsimp only
  rw [hr, if_neg (by simp)]
  dsimp only
  rw [Bd.sSign_of, h, Frm.put_length]
  simp [Bd.sDone]
theorem decM_more {m : Wi.Msg} (h : Wi.good m = true) {r : List UInt8} (hr : r ≠ []) : decM (Frm.put (Wi.enc m) ++ r) = (none, 3) := by
  have hl := Wi.enc_le h
  have hn := next_of r hl
  have hp : decide (((8 + (Wi.enc m).length : Nat) : Int) = ((Frm.put (Wi.enc m) ++ r).length : Int)) = false := by
    rw [List.length_append, Frm.put_length]
    have := List.length_pos_iff.2 hr
    exact decide_eq_false (by omega)
  unfold decM
  rw [hn]
  dsimp only
  rw [if_neg (by simp), hp]
  simp
theorem decM_zero {s : List UInt8} (h : (decM s).2 = 0) : ∃ m, decM s = (some m, 0) := by
  unfold decM at h ⊢
  split at h
  · rename_i h1; exact absurd h h1
  · rename_i h1
    rw [if_neg h1]
    split at h
    · rename_i h2; rw [if_pos h2]; exact ⟨_, rfl⟩
    · cases h
theorem decM_not {s : List UInt8} (h : (decM s).2 ≠ 0) : (decM s).1 = none := by
  unfold decM at h ⊢
  split
  · rfl
  · rename_i h1
    rw [if_neg h1] at h
    split
    · rename_i h2; rw [if_pos h2] at h; exact absurd rfl h
    · rfl
theorem sDone_zero {q : Bd.St} (h : Bd.sDone q = 0) : q = ([], false) := by
  obtain ⟨s, b⟩ := q
  cases b <;> cases s <;> simp_all [Bd.sDone]
theorem four_num (a b c d : UInt8) : Crc.four (Crc.num [a, b, c, d]) = [a, b, c, d] := Crc.num_inj (Crc.num_four (Crc.num [a, b, c, d]))
theorem next_was {s : List UInt8} (h : (Frm.next s 0).2.2 = 0) (hp : (Frm.next s 0).2.1 = s.length) : s = Frm.put (Frm.next s 0).1 := by
  obtain ⟨h1, h2, h3, h4, h5, h6⟩ := Frm.next_zero (l := s) (k := 0) h
  rw [List.drop_zero] at h1 h2 h3 h4 h5 h6
  have h3' : (Frm.next s 0).1 = (s.take (8 + (Crc.num s).toNat)).drop 8 := h3
  have h4' : (Frm.next s 0).2.1 = ((0 : Nat) : Int) + 8 + ((Crc.num s).toNat : Int) := h4
  have h5' : Crc.sum (Frm.next s 0).1 = Crc.num (s.drop 4) := h5
  rw [hp] at h4'
  have hl : s.length = 8 + (Crc.num s).toNat := by omega
  rw [← hl, List.take_length] at h3'
  rw [h3'] at h5' ⊢
  clear h h1 h2 h3 h4 h5 h6 hp h3' h4'
  match s, hl with
  | a :: b :: c :: d :: e :: f :: g :: i :: t, hl =>
    have e1 : Crc.num (a :: b :: c :: d :: e :: f :: g :: i :: t) = Crc.num [a, b, c, d] := rfl
    have e2 : Crc.num ((a :: b :: c :: d :: e :: f :: g :: i :: t).drop 4) = Crc.num [e, f, g, i] := rfl
    have e3 : (a :: b :: c :: d :: e :: f :: g :: i :: t).drop 8 = t := rfl
    rw [e1] at hl
    rw [e2, e3] at h5'
    have ht : t.length = (Crc.num [a, b, c, d]).toNat := by simp only [List.length_cons] at hl; omega
    rw [e3, Frm.put, h5', ht, four_num, BitVec.ofNat_toNat, BitVec.setWidth_eq, four_num]
    rfl
  | [], hl => simp at hl; omega
  | [_], hl => simp at hl; omega
  | [_, _], hl => simp at hl; omega
  | [_, _, _], hl => simp at hl; omega
  | [_, _, _, _], hl => simp at hl; omega
  | [_, _, _, _, _], hl => simp at hl; omega
  | [_, _, _, _, _, _], hl => simp at hl; omega
  | [_, _, _, _, _, _, _], hl => simp at hl; omega
theorem decM_was {s : List UInt8} {m : Wi.Msg} (h : decM s = (some m, 0)) : Wi.good m = true ∧ s = Frm.put (Wi.enc m) := by
  unfold decM at h
  split at h
  · cases h
  rename_i h0
  have h0 : (Frm.next s 0).2.2 = 0 := by simpa using h0
  split at h
  · rename_i h1
    simp only [Bool.and_eq_true, decide_eq_true_eq] at h1
    obtain ⟨h1, h2, h3, h4⟩ := h1
    injection h with h _
    injection h with h
    rw [h] at h4
    refine ⟨h4, ?_⟩
    have hd := sDone_zero h3
    have e1 : (Wi.sMsg (Bd.sSign 108 ((Frm.next s 0).1, false))).2.2 = false ∧ (Wi.sMsg (Bd.sSign 108 ((Frm.next s 0).1, false))).2.1 = 101 :: (Bd.sSign 101 (Wi.sMsg (Bd.sSign 108 ((Frm.next s 0).1, false))).2).1 := Cr.sSign_was (by rw [hd])
    rw [hd] at e1
    obtain ⟨f1, f2⟩ := Wi.sMsg_was e1.1 h1
    have g1 : ((Frm.next s 0).1, false).2 = false ∧ ((Frm.next s 0).1, false).1 = 108 :: (Bd.sSign 108 ((Frm.next s 0).1, false)).1 := Cr.sSign_was f1
    have hb : (Frm.next s 0).1 = Wi.enc m := by
      rw [enc_eq]
      have := g1.2
      simp only at this
      rw [this, f2, e1.2, h]
    have hs := next_was h0 h2
    rw [hb] at hs
    exact hs
  · cases h
theorem put_inj {a b : Wi.Msg} (ha : Wi.good a = true) (hb : Wi.good b = true) (h : Frm.put (Wi.enc a) = Frm.put (Wi.enc b)) : a = b := by
  have h1 := decM_put ha
  rw [h, decM_put hb] at h1
  injection h1 with h1 _
  injection h1 with h1
  exact h1.symm
theorem put_same {a b : Wi.Msg} (ha : Wi.good a = true) (hb : Wi.good b = true) : decide (Frm.put (Wi.enc a) = Frm.put (Wi.enc b)) = Wi.same a b := by
  by_cases h : a = b
  · subst h
    rw [decide_eq_true rfl, Wi.same_refl]
  · rw [decide_eq_false (fun e => h (put_inj ha hb e))]
    cases hs : Wi.same a b with
    | false => rfl
    | true => exact absurd (Wi.same_iff.1 hs) h
theorem enc_long {m : Wi.Msg} : 8 ≤ (Wi.enc m).length := by
  have hi : ∀ n : Int, 2 ≤ (Bd.bInt n).length := fun n => by
    simp only [Bd.bInt, List.length_cons, List.length_append, List.length_nil]
    omega
  have h1 := hi m.kind
  have h2 := hi m.frm
  have h3 := hi m.«to»
  rw [enc_eq, Wi.fieldsL, Wi.headL]
  simp only [List.map_cons, List.map_nil, List.flatten_append, List.flatten_cons, List.flatten_nil, List.length_cons, List.length_append, List.length_nil]
  omega
def chg (x : List UInt8) (k : Nat) (c0 c1 c2 c3 : UInt8) : List UInt8 := x.take k ++ [c0, c1, c2, c3] ++ x.drop (k + 4)
theorem chg_form (b : List UInt8) (j : Nat) (hj : j + 4 ≤ b.length) (c0 c1 c2 c3 : UInt8) :
    chg (Frm.put b) (8 + j) c0 c1 c2 c3 = Crc.four (BitVec.ofNat 32 b.length) ++ (Crc.four (Crc.sum b) ++ (b.take j ++ [c0, c1, c2, c3] ++ b.drop (j + 4))) := by
  have hp : Frm.put b = (Crc.four (BitVec.ofNat 32 b.length) ++ Crc.four (Crc.sum b)) ++ b := by rw [Frm.put, List.append_assoc]
  have h8 : (Crc.four (BitVec.ofNat 32 b.length) ++ Crc.four (Crc.sum b)).length = 8 := by simp [Crc.four_length]
  have e3 : (Frm.put b).take (8 + j) = (Crc.four (BitVec.ofNat 32 b.length) ++ Crc.four (Crc.sum b)) ++ b.take j := by
    rw [hp, ← h8, List.take_length_add_append]
  have e4 : (Frm.put b).drop (8 + j + 4) = b.drop (j + 4) := by
    rw [hp, List.drop_append, List.drop_eq_nil_of_le (by omega), h8, Nat.add_assoc]
    simp
  rw [chg, e3, e4]
  simp [List.append_assoc]
theorem wire_tells {m : Wi.Msg} (h : Wi.good m = true) (j : Nat) (hj : j + 4 ≤ (Wi.enc m).length) (c0 c1 c2 c3 : UInt8) :
    decide ((decM (chg (Frm.put (Wi.enc m)) (8 + j) c0 c1 c2 c3)).2 = 0) = decide (Frm.put (Wi.enc m) = chg (Frm.put (Wi.enc m)) (8 + j) c0 c1 c2 c3) := by
  by_cases he : Frm.put (Wi.enc m) = chg (Frm.put (Wi.enc m)) (8 + j) c0 c1 c2 c3
  · rw [decide_eq_true he, ← he, decM_put h]
    rfl
  · rw [decide_eq_false he]
    have hl := Wi.enc_le h
    rw [chg_form _ j hj] at he ⊢
    have hpb : Wi.enc m = (Wi.enc m).take j ++ [(Wi.enc m)[j], (Wi.enc m)[j + 1], (Wi.enc m)[j + 2], (Wi.enc m)[j + 3]] ++ (Wi.enc m).drop (j + 4) := by
      conv => lhs; rw [← List.take_append_drop j (Wi.enc m)]
      rw [List.append_assoc]
      congr 1
      rw [List.drop_eq_getElem_cons (by omega), List.drop_eq_getElem_cons (by omega), List.drop_eq_getElem_cons (by omega), List.drop_eq_getElem_cons (by omega)]
      rfl
    have hs : Crc.sum ((Wi.enc m).take j ++ [c0, c1, c2, c3] ++ (Wi.enc m).drop (j + 4)) ≠ Crc.sum (Wi.enc m) := by
      intro e
      refine he ?_
      rw [Frm.put]
      congr 2
      have e2 : Crc.sum ((Wi.enc m).take j ++ [c0, c1, c2, c3] ++ (Wi.enc m).drop (j + 4)) = Crc.sum ((Wi.enc m).take j ++ [(Wi.enc m)[j], (Wi.enc m)[j + 1], (Wi.enc m)[j + 2], (Wi.enc m)[j + 3]] ++ (Wi.enc m).drop (j + 4)) := by rw [← hpb]; exact e
      rw [Crc.sum_tells _ _ e2, ← hpb]
    have hn := Frm.next_changed [] (Wi.enc m) ((Wi.enc m).take j ++ [c0, c1, c2, c3] ++ (Wi.enc m).drop (j + 4)) hl (by simp; omega) hs
    rw [List.nil_append] at hn
    have hn' : Frm.next (Crc.four (BitVec.ofNat 32 (Wi.enc m).length) ++ (Crc.four (Crc.sum (Wi.enc m)) ++ ((Wi.enc m).take j ++ [c0, c1, c2, c3] ++ (Wi.enc m).drop (j + 4)))) 0 = ([], 0, 6) := hn
    unfold decM
    rw [hn', if_pos (by decide)]
    rfl
theorem scan_nil0 : Frm.scan [] = ([], 0) := by
  apply Frm.scan_end
  rw [Frm.next_short (l := []) (k := 0) (by simp) (by simp)]; decide
theorem wire_fits {m : Wi.Msg} (h : Wi.good m = true) : Frm.scan (Frm.put (Wi.enc m)) = ([Wi.enc m], (Frm.put (Wi.enc m)).length) := by
  have h1 := Frm.scan_put (Wi.enc m) [] (Wi.enc_le h)
  rw [List.append_nil, scan_nil0] at h1
  exact h1
end Go.Proofs.YtjfpbeccpcbpcaaGreatDoor
namespace Go.Proofs.YtjfpbeccpcbpcaaGreatDoor
open Go.RowKit
theorem msg_cells (m : Wi.Msg) (v : MsgV) (w : World) (h : MsgAt w m v) : ∃ cs : List Value, msgV m v = .agg cs.toArray ∧ Hid (cs = msgC m v) ∧ Hid ((Tryz.prog.info? 36).map (·.size) = some cs.length) ∧ Hid ((Tryz.prog.info? 36).map (·.size) = some (cs.toArray : Array Value).size) ∧
    Hid ((cs.toArray : Array Value).all (·.oneCell') = true) ∧ Hid (((.int .i64 0 :: .int .i64 0 :: .int .i64 0 :: .int .i64 0 :: .int .i64 0 :: .int .i64 0 :: .int .i64 0 :: .int .i64 0 :: .int .i64 0 :: .slice none 0 0 :: .int .i64 0 :: .slice none 0 0 :: .int .i64 0 :: .int .i64 0 :: .int .i64 0 :: .int .i64 0 :: .int .i64 0 :: .slice none 0 0 :: .slice none 0 0 :: .int .i64 0 :: .int .i64 0 :: .int .i64 0 :: .int .i64 0 :: .int .i64 0 :: .int .i64 0 :: .int .i64 0 :: .int .i64 0 :: .string ⟨#[]⟩ :: .string ⟨#[]⟩ :: .slice none 0 0 :: .int .i64 0 :: .int .i64 0 :: .int .i64 0 :: .int .i64 0 :: .int .i64 0 :: .int .i64 0 :: .slice none 0 0 :: .slice none 0 0 :: []).toArray : Array Value).size = (cs.toArray : Array Value).size) := by
  refine ⟨msgC m v, rfl, rfl, ?_, ?_, ?_, rfl⟩
  · rw [Hid, show (msgC m v).length = 38 from rfl]; kernel_rfl
  · rw [Hid, List.size_toArray, show (msgC m v).length = 38 from rfl]; kernel_rfl
  · obtain ⟨_, _, e1⟩ := h.chain.form
    obtain ⟨_, _, e2⟩ := h.lives.form
    obtain ⟨_, _, e3⟩ := h.brecs.form
    obtain ⟨_, _, e4⟩ := h.table.form
    obtain ⟨_, _, e5⟩ := h.qrecs.form
    obtain ⟨_, _, e6⟩ := h.parts.form
    obtain ⟨_, _, e7⟩ := h.arecs.form
    rw [Hid, msgC, e1, e2, e3, e4, e5, e6, e7]
    simp [Value.oneCell']
theorem zero_at (w : World) : MsgAt w Wi.zMsg zeroV := ⟨Ints.nil w, Rw.nil _ _ w, recs_nil0 w, Tbl.nil w, recs_nil0 w, Ints.nil w, recs_nil0 w⟩
theorem zero_cap : CapOk zeroV.arecs := fun a n cap e => by injection e with e1 e2 e3; omega
theorem wencode_yes' {m : Wi.Msg} (hg : Wi.good m = true) : wencR m = .tuple #[.string ⟨(Frm.put (Wi.enc m)).toArray⟩, .int .i64 0] := by unfold wencR; rw [if_pos hg]
theorem wencode_no' {m : Wi.Msg} (hg : Wi.good m = false) : wencR m = .tuple #[.string ⟨#[]⟩, .int .i64 1] := by unfold wencR; rw [hg]; rfl
theorem beat7_good : Wi.good (beatM 2 0 7) = true := by decide +kernel
theorem beat7_enc : Wi.enc (beatM 2 0 7) = [108, 105, 51, 101, 105, 50, 101, 105, 48, 101, 105, 55, 101, 101] := by decide +kernel
theorem zero_bad : Wi.good Wi.zMsg = false := by decide +kernel
theorem beat7_ok : MsgOk (beatM 2 0 7) := msgOk_of (by simp only [beatM, List.mem_cons, List.not_mem_nil, or_false, forall_eq_or_imp, forall_eq]; exact ⟨⟨by decide, by decide⟩, ⟨by decide, by decide⟩, ⟨by decide, by decide⟩, ⟨by decide, by decide⟩, ⟨by decide, by decide⟩, ⟨by decide, by decide⟩, ⟨by decide, by decide⟩, ⟨by decide, by decide⟩, ⟨by decide, by decide⟩, ⟨by decide, by decide⟩⟩) ⟨Nat.zero_le _, fun x hx => by cases hx⟩ ⟨Nat.zero_le _, fun x hx => by cases hx⟩ zBat_ok zTab_ok zReq_ok zResp_ok
set_option maxRecDepth 20000 in
set_option maxHeartbeats 12800000 in
theorem awake_any (w : World) (hw : Lw w) : Calls Tryz.prog 9 #[] w fun e w' => e = .returned (.bool true) ∧ Below w.heap.size w w' := by
  have HW := Lib.hid hw
  have HM0 : Hid (msgV (beatM 2 0 7) zeroV = .agg (.int .i64 3 :: .int .i64 2 :: .int .i64 0 :: .int .i64 0 :: .int .i64 0 :: .int .i64 0 :: .int .i64 0 :: .int .i64 7 :: .int .i64 0 :: .slice none 0 0 :: .int .i64 0 :: .slice none 0 0 :: .int .i64 0 :: .int .i64 0 :: .int .i64 0 :: .int .i64 0 :: .int .i64 0 :: .slice none 0 0 :: .slice none 0 0 :: .int .i64 0 :: .int .i64 0 :: .int .i64 0 :: .int .i64 0 :: .int .i64 0 :: .int .i64 0 :: .int .i64 0 :: .int .i64 0 :: .string ⟨#[]⟩ :: .string ⟨#[]⟩ :: .slice none 0 0 :: .int .i64 0 :: .int .i64 0 :: .int .i64 0 :: .int .i64 0 :: .int .i64 0 :: .int .i64 0 :: .slice none 0 0 :: .slice none 0 0 :: []).toArray) := rfl
  have HZ0 : Hid (msgV Wi.zMsg zeroV = .agg (.int .i64 0 :: .int .i64 0 :: .int .i64 0 :: .int .i64 0 :: .int .i64 0 :: .int .i64 0 :: .int .i64 0 :: .int .i64 0 :: .int .i64 0 :: .slice none 0 0 :: .int .i64 0 :: .slice none 0 0 :: .int .i64 0 :: .int .i64 0 :: .int .i64 0 :: .int .i64 0 :: .int .i64 0 :: .slice none 0 0 :: .slice none 0 0 :: .int .i64 0 :: .int .i64 0 :: .int .i64 0 :: .int .i64 0 :: .int .i64 0 :: .int .i64 0 :: .int .i64 0 :: .int .i64 0 :: .string ⟨#[]⟩ :: .string ⟨#[]⟩ :: .slice none 0 0 :: .int .i64 0 :: .int .i64 0 :: .int .i64 0 :: .int .i64 0 :: .int .i64 0 :: .int .i64 0 :: .slice none 0 0 :: .slice none 0 0 :: []).toArray) := rfl
  have HE1 := Lib.hid (fun (W : World) (hL : Lw W) => wencode_any (beatM 2 0 7) zeroV W (beat_at 2 0 7 W) beat7_ok zero_cap hL)
  have HE2 := Lib.hid (fun (W : World) (hL : Lw W) => wencode_any Wi.zMsg zeroV W (zero_at W) zMsg_ok zero_cap hL)
  have HG1 := Lib.hid (fun (W : World) (hL : Lw W) => wgood_any (beatM 2 0 7) zeroV W (beat_at 2 0 7 W) beat7_ok zero_cap hL)
  have HSM := Lib.hid (fun (W : World) (v : MsgV) (h : MsgAt W (beatM 2 0 7) v) => wsame_any (beatM 2 0 7) (beatM 2 0 7) zeroV v W (beat_at 2 0 7 W) h beat7_ok beat7_ok)
  have HPU : Hid (∀ W, Calls Tryz.prog 19 #[.string ⟨#[108, 105, 51, 101, 105, 50, 101, 105, 48, 101, 105, 55, 101, 101]⟩] W fun e w' => e = .returned (.tuple #[.string ⟨(Frm.put (Wi.enc (beatM 2 0 7))).toArray⟩, .int .i64 0]) ∧ Below W.heap.size W w') := fun W => by
    rw [beat7_enc]
    exact put_any [108, 105, 51, 101, 105, 50, 101, 105, 48, 101, 105, 55, 101, 101] W (by decide)
  have hpl := Frm.put_length (Wi.enc (beatM 2 0 7))
  have HDC := Lib.hid (fun (W : World) (hL : Lw W) => wdecode_any (Frm.put (Wi.enc (beatM 2 0 7))) (by rw [hpl, beat7_enc]; decide) W hL)
  rw [decM_put beat7_good] at HDC
  rw [wencode_yes' beat7_good] at HE1
  rw [wencode_no' zero_bad] at HE2
  rw [beat7_good] at HG1
  rw [Wi.same_refl] at HSM
  unfold DecR at HDC
  simp only [Option.getD_some] at HDC
  rw [HM0.out] at HE1 HG1 HSM
  rw [HZ0.out] at HE2
  generalize Frm.put (Wi.enc (beatM 2 0 7)) = S at *
  clear hpl hw
  have HI38 := Lib.hid (show (Tryz.prog.info? 36).map (·.size) = some ((.int .i64 3 :: .int .i64 2 :: .int .i64 0 :: .int .i64 0 :: .int .i64 0 :: .int .i64 0 :: .int .i64 0 :: .int .i64 7 :: .int .i64 0 :: .slice none 0 0 :: .int .i64 0 :: .slice none 0 0 :: .int .i64 0 :: .int .i64 0 :: .int .i64 0 :: .int .i64 0 :: .int .i64 0 :: .slice none 0 0 :: .slice none 0 0 :: .int .i64 0 :: .int .i64 0 :: .int .i64 0 :: .int .i64 0 :: .int .i64 0 :: .int .i64 0 :: .int .i64 0 :: .int .i64 0 :: .string ⟨#[]⟩ :: .string ⟨#[]⟩ :: .slice none 0 0 :: .int .i64 0 :: .int .i64 0 :: .int .i64 0 :: .int .i64 0 :: .int .i64 0 :: .int .i64 0 :: .slice none 0 0 :: .slice none 0 0 :: []) : List Value).length by kernel_rfl)
  have HI39 := Lib.hid (show (Tryz.prog.info? 36).map (·.size) = some ((.int .i64 3 :: .int .i64 2 :: .int .i64 0 :: .int .i64 0 :: .int .i64 0 :: .int .i64 0 :: .int .i64 0 :: .int .i64 7 :: .int .i64 0 :: .slice none 0 0 :: .int .i64 0 :: .slice none 0 0 :: .int .i64 0 :: .int .i64 0 :: .int .i64 0 :: .int .i64 0 :: .int .i64 0 :: .slice none 0 0 :: .slice none 0 0 :: .int .i64 0 :: .int .i64 0 :: .int .i64 0 :: .int .i64 0 :: .int .i64 0 :: .int .i64 0 :: .int .i64 0 :: .int .i64 0 :: .string ⟨#[]⟩ :: .string ⟨#[]⟩ :: .slice none 0 0 :: .int .i64 0 :: .int .i64 0 :: .int .i64 0 :: .int .i64 0 :: .int .i64 0 :: .int .i64 0 :: .slice none 0 0 :: .slice none 0 0 :: []).toArray : Array Value).size by kernel_rfl)
  have HONE : Hid (((.int .i64 3 :: .int .i64 2 :: .int .i64 0 :: .int .i64 0 :: .int .i64 0 :: .int .i64 0 :: .int .i64 0 :: .int .i64 7 :: .int .i64 0 :: .slice none 0 0 :: .int .i64 0 :: .slice none 0 0 :: .int .i64 0 :: .int .i64 0 :: .int .i64 0 :: .int .i64 0 :: .int .i64 0 :: .slice none 0 0 :: .slice none 0 0 :: .int .i64 0 :: .int .i64 0 :: .int .i64 0 :: .int .i64 0 :: .int .i64 0 :: .int .i64 0 :: .int .i64 0 :: .int .i64 0 :: .string ⟨#[]⟩ :: .string ⟨#[]⟩ :: .slice none 0 0 :: .int .i64 0 :: .int .i64 0 :: .int .i64 0 :: .int .i64 0 :: .int .i64 0 :: .int .i64 0 :: .slice none 0 0 :: .slice none 0 0 :: []).toArray : Array Value).all (·.oneCell') = true) := by simp [Hid, Value.oneCell']
  have CM : Hid ((w.alloc (.cells (.int .i64 0 :: .int .i64 0 :: .int .i64 0 :: .int .i64 0 :: .int .i64 0 :: .int .i64 0 :: .int .i64 0 :: .int .i64 0 :: .int .i64 0 :: .slice none 0 0 :: .int .i64 0 :: .slice none 0 0 :: .int .i64 0 :: .int .i64 0 :: .int .i64 0 :: .int .i64 0 :: .int .i64 0 :: .slice none 0 0 :: .slice none 0 0 :: .int .i64 0 :: .int .i64 0 :: .int .i64 0 :: .int .i64 0 :: .int .i64 0 :: .int .i64 0 :: .int .i64 0 :: .int .i64 0 :: .string ⟨#[]⟩ :: .string ⟨#[]⟩ :: .slice none 0 0 :: .int .i64 0 :: .int .i64 0 :: .int .i64 0 :: .int .i64 0 :: .int .i64 0 :: .int .i64 0 :: .slice none 0 0 :: .slice none 0 0 :: []).toArray 36)).heap[w.heap.size]? = some (.cells (.int .i64 0 :: .int .i64 0 :: .int .i64 0 :: .int .i64 0 :: .int .i64 0 :: .int .i64 0 :: .int .i64 0 :: .int .i64 0 :: .int .i64 0 :: .slice none 0 0 :: .int .i64 0 :: .slice none 0 0 :: .int .i64 0 :: .int .i64 0 :: .int .i64 0 :: .int .i64 0 :: .int .i64 0 :: .slice none 0 0 :: .slice none 0 0 :: .int .i64 0 :: .int .i64 0 :: .int .i64 0 :: .int .i64 0 :: .int .i64 0 :: .int .i64 0 :: .int .i64 0 :: .int .i64 0 :: .string ⟨#[]⟩ :: .string ⟨#[]⟩ :: .slice none 0 0 :: .int .i64 0 :: .int .i64 0 :: .int .i64 0 :: .int .i64 0 :: .int .i64 0 :: .int .i64 0 :: .slice none 0 0 :: .slice none 0 0 :: []).toArray 36 (0, 0))) := Cl.new w (.int .i64 0 :: .int .i64 0 :: .int .i64 0 :: .int .i64 0 :: .int .i64 0 :: .int .i64 0 :: .int .i64 0 :: .int .i64 0 :: .int .i64 0 :: .slice none 0 0 :: .int .i64 0 :: .slice none 0 0 :: .int .i64 0 :: .int .i64 0 :: .int .i64 0 :: .int .i64 0 :: .int .i64 0 :: .slice none 0 0 :: .slice none 0 0 :: .int .i64 0 :: .int .i64 0 :: .int .i64 0 :: .int .i64 0 :: .int .i64 0 :: .int .i64 0 :: .int .i64 0 :: .int .i64 0 :: .string ⟨#[]⟩ :: .string ⟨#[]⟩ :: .slice none 0 0 :: .int .i64 0 :: .int .i64 0 :: .int .i64 0 :: .int .i64 0 :: .int .i64 0 :: .int .i64 0 :: .slice none 0 0 :: .slice none 0 0 :: []) _
  have C1 : Hid (Cl ((w.alloc (.cells (.int .i64 0 :: .int .i64 0 :: .int .i64 0 :: .int .i64 0 :: .int .i64 0 :: .int .i64 0 :: .int .i64 0 :: .int .i64 0 :: .int .i64 0 :: .slice none 0 0 :: .int .i64 0 :: .slice none 0 0 :: .int .i64 0 :: .int .i64 0 :: .int .i64 0 :: .int .i64 0 :: .int .i64 0 :: .slice none 0 0 :: .slice none 0 0 :: .int .i64 0 :: .int .i64 0 :: .int .i64 0 :: .int .i64 0 :: .int .i64 0 :: .int .i64 0 :: .int .i64 0 :: .int .i64 0 :: .string ⟨#[]⟩ :: .string ⟨#[]⟩ :: .slice none 0 0 :: .int .i64 0 :: .int .i64 0 :: .int .i64 0 :: .int .i64 0 :: .int .i64 0 :: .int .i64 0 :: .slice none 0 0 :: .slice none 0 0 :: []).toArray 36)).setRow w.heap.size (.int .i64 3 :: .int .i64 2 :: .int .i64 0 :: .int .i64 0 :: .int .i64 0 :: .int .i64 0 :: .int .i64 0 :: .int .i64 7 :: .int .i64 0 :: .slice none 0 0 :: .int .i64 0 :: .slice none 0 0 :: .int .i64 0 :: .int .i64 0 :: .int .i64 0 :: .int .i64 0 :: .int .i64 0 :: .slice none 0 0 :: .slice none 0 0 :: .int .i64 0 :: .int .i64 0 :: .int .i64 0 :: .int .i64 0 :: .int .i64 0 :: .int .i64 0 :: .int .i64 0 :: .int .i64 0 :: .string ⟨#[]⟩ :: .string ⟨#[]⟩ :: .slice none 0 0 :: .int .i64 0 :: .int .i64 0 :: .int .i64 0 :: .int .i64 0 :: .int .i64 0 :: .int .i64 0 :: .slice none 0 0 :: .slice none 0 0 :: []).toArray) w.heap.size (.int .i64 3 :: .int .i64 2 :: .int .i64 0 :: .int .i64 0 :: .int .i64 0 :: .int .i64 0 :: .int .i64 0 :: .int .i64 7 :: .int .i64 0 :: .slice none 0 0 :: .int .i64 0 :: .slice none 0 0 :: .int .i64 0 :: .int .i64 0 :: .int .i64 0 :: .int .i64 0 :: .int .i64 0 :: .slice none 0 0 :: .slice none 0 0 :: .int .i64 0 :: .int .i64 0 :: .int .i64 0 :: .int .i64 0 :: .int .i64 0 :: .int .i64 0 :: .int .i64 0 :: .int .i64 0 :: .string ⟨#[]⟩ :: .string ⟨#[]⟩ :: .slice none 0 0 :: .int .i64 0 :: .int .i64 0 :: .int .i64 0 :: .int .i64 0 :: .int .i64 0 :: .int .i64 0 :: .slice none 0 0 :: .slice none 0 0 :: []) 36) := Cl.row (Cl.new w (.int .i64 0 :: .int .i64 0 :: .int .i64 0 :: .int .i64 0 :: .int .i64 0 :: .int .i64 0 :: .int .i64 0 :: .int .i64 0 :: .int .i64 0 :: .slice none 0 0 :: .int .i64 0 :: .slice none 0 0 :: .int .i64 0 :: .int .i64 0 :: .int .i64 0 :: .int .i64 0 :: .int .i64 0 :: .slice none 0 0 :: .slice none 0 0 :: .int .i64 0 :: .int .i64 0 :: .int .i64 0 :: .int .i64 0 :: .int .i64 0 :: .int .i64 0 :: .int .i64 0 :: .int .i64 0 :: .string ⟨#[]⟩ :: .string ⟨#[]⟩ :: .slice none 0 0 :: .int .i64 0 :: .int .i64 0 :: .int .i64 0 :: .int .i64 0 :: .int .i64 0 :: .int .i64 0 :: .slice none 0 0 :: .slice none 0 0 :: []) _) _
  have B1 : Hid (Below w.heap.size w ((w.alloc (.cells (.int .i64 0 :: .int .i64 0 :: .int .i64 0 :: .int .i64 0 :: .int .i64 0 :: .int .i64 0 :: .int .i64 0 :: .int .i64 0 :: .int .i64 0 :: .slice none 0 0 :: .int .i64 0 :: .slice none 0 0 :: .int .i64 0 :: .int .i64 0 :: .int .i64 0 :: .int .i64 0 :: .int .i64 0 :: .slice none 0 0 :: .slice none 0 0 :: .int .i64 0 :: .int .i64 0 :: .int .i64 0 :: .int .i64 0 :: .int .i64 0 :: .int .i64 0 :: .int .i64 0 :: .int .i64 0 :: .string ⟨#[]⟩ :: .string ⟨#[]⟩ :: .slice none 0 0 :: .int .i64 0 :: .int .i64 0 :: .int .i64 0 :: .int .i64 0 :: .int .i64 0 :: .int .i64 0 :: .slice none 0 0 :: .slice none 0 0 :: []).toArray 36)).setRow w.heap.size (.int .i64 3 :: .int .i64 2 :: .int .i64 0 :: .int .i64 0 :: .int .i64 0 :: .int .i64 0 :: .int .i64 0 :: .int .i64 7 :: .int .i64 0 :: .slice none 0 0 :: .int .i64 0 :: .slice none 0 0 :: .int .i64 0 :: .int .i64 0 :: .int .i64 0 :: .int .i64 0 :: .int .i64 0 :: .slice none 0 0 :: .slice none 0 0 :: .int .i64 0 :: .int .i64 0 :: .int .i64 0 :: .int .i64 0 :: .int .i64 0 :: .int .i64 0 :: .int .i64 0 :: .int .i64 0 :: .string ⟨#[]⟩ :: .string ⟨#[]⟩ :: .slice none 0 0 :: .int .i64 0 :: .int .i64 0 :: .int .i64 0 :: .int .i64 0 :: .int .i64 0 :: .int .i64 0 :: .slice none 0 0 :: .slice none 0 0 :: []).toArray)) := ((Below.refl _ _).alloc (Nat.le_refl _) _).trans ((Keeps.row (S := fun j => j = w.heap.size) _ w.heap.size _ rfl).toBelow (by simp) (fun k hk e => by omega))
  go_enter Tryz.func9, Tryz.ntmps9
  go_upto_region 2 with (refine wpList_store_row (by rfl) _ _ _ (by rfl) w.heap.size (.int .i64 3 :: .int .i64 2 :: .int .i64 0 :: .int .i64 0 :: .int .i64 0 :: .int .i64 0 :: .int .i64 0 :: .int .i64 7 :: .int .i64 0 :: .slice none 0 0 :: .int .i64 0 :: .slice none 0 0 :: .int .i64 0 :: .int .i64 0 :: .int .i64 0 :: .int .i64 0 :: .int .i64 0 :: .slice none 0 0 :: .slice none 0 0 :: .int .i64 0 :: .int .i64 0 :: .int .i64 0 :: .int .i64 0 :: .int .i64 0 :: .int .i64 0 :: .int .i64 0 :: .int .i64 0 :: .string ⟨#[]⟩ :: .string ⟨#[]⟩ :: .slice none 0 0 :: .int .i64 0 :: .int .i64 0 :: .int .i64 0 :: .int .i64 0 :: .int .i64 0 :: .int .i64 0 :: .slice none 0 0 :: .slice none 0 0 :: []).toArray (by rfl) (by rfl) 36 _ CM.out HI39.out rfl HONE.out ?_)
  clear CM
  generalize (w.alloc (.cells (.int .i64 0 :: .int .i64 0 :: .int .i64 0 :: .int .i64 0 :: .int .i64 0 :: .int .i64 0 :: .int .i64 0 :: .int .i64 0 :: .int .i64 0 :: .slice none 0 0 :: .int .i64 0 :: .slice none 0 0 :: .int .i64 0 :: .int .i64 0 :: .int .i64 0 :: .int .i64 0 :: .int .i64 0 :: .slice none 0 0 :: .slice none 0 0 :: .int .i64 0 :: .int .i64 0 :: .int .i64 0 :: .int .i64 0 :: .int .i64 0 :: .int .i64 0 :: .int .i64 0 :: .int .i64 0 :: .string ⟨#[]⟩ :: .string ⟨#[]⟩ :: .slice none 0 0 :: .int .i64 0 :: .int .i64 0 :: .int .i64 0 :: .int .i64 0 :: .int .i64 0 :: .int .i64 0 :: .slice none 0 0 :: .slice none 0 0 :: []).toArray 36)).setRow w.heap.size (.int .i64 3 :: .int .i64 2 :: .int .i64 0 :: .int .i64 0 :: .int .i64 0 :: .int .i64 0 :: .int .i64 0 :: .int .i64 7 :: .int .i64 0 :: .slice none 0 0 :: .int .i64 0 :: .slice none 0 0 :: .int .i64 0 :: .int .i64 0 :: .int .i64 0 :: .int .i64 0 :: .int .i64 0 :: .slice none 0 0 :: .slice none 0 0 :: .int .i64 0 :: .int .i64 0 :: .int .i64 0 :: .int .i64 0 :: .int .i64 0 :: .int .i64 0 :: .int .i64 0 :: .int .i64 0 :: .string ⟨#[]⟩ :: .string ⟨#[]⟩ :: .slice none 0 0 :: .int .i64 0 :: .int .i64 0 :: .int .i64 0 :: .int .i64 0 :: .int .i64 0 :: .int .i64 0 :: .slice none 0 0 :: .slice none 0 0 :: []).toArray = w1 at *
  generalize hb1 : w.heap.size = b1 at *
  have HB1 := Lib.hid hb1
  clear hb1
  have R1 := Lib.hid C1.out.range
  go_wp2_with (refine wpList_load_mid (by rfl) _ _ (by rfl) b1 0 (by rfl) (.int .i64 3 :: .int .i64 2 :: .int .i64 0 :: .int .i64 0 :: .int .i64 0 :: .int .i64 0 :: .int .i64 0 :: .int .i64 7 :: .int .i64 0 :: .slice none 0 0 :: .int .i64 0 :: .slice none 0 0 :: .int .i64 0 :: .int .i64 0 :: .int .i64 0 :: .int .i64 0 :: .int .i64 0 :: .slice none 0 0 :: .slice none 0 0 :: .int .i64 0 :: .int .i64 0 :: .int .i64 0 :: .int .i64 0 :: .int .i64 0 :: .int .i64 0 :: .int .i64 0 :: .int .i64 0 :: .string ⟨#[]⟩ :: .string ⟨#[]⟩ :: .slice none 0 0 :: .int .i64 0 :: .int .i64 0 :: .int .i64 0 :: .int .i64 0 :: .int .i64 0 :: .int .i64 0 :: .slice none 0 0 :: .slice none 0 0 :: []) _ R1.out Tryz.underlying36 (by rfl) HI38.out ?_)
  refine (HE1.out _ (HW.out.below (by rw [HB1.out]; exact B1.out))).mono ?_
  rintro e w2 ⟨rfl, hb⟩
  have C2 := Lib.hid (C1.out.below hb)
  have B2 : Hid (Below w.heap.size w w2) := bt (by rw [HB1.out]; exact B1.out) hb
  clear hb C1 R1 HE1 B1
  go_wp2_with fail
  refine (HPU.out _).mono ?_
  rintro e w3 ⟨rfl, hb⟩
  have C3 := Lib.hid (C2.out.below hb)
  have B3 := Lib.hid (bt B2.out hb)
  clear hb C2 B2 HPU
  go_wp2_with fail
  refine (HDC.out _ (HW.out.below B3.out)).mono ?_
  rintro e w4 ⟨v, rfl, hmo, hmk, hb⟩
  have C4 := Lib.hid (C3.out.below hb)
  have B4 := Lib.hid (bt B3.out hb)
  have M4 := Lib.hid hmo.at
  obtain ⟨cs, hmv, HCS, HIL, HIA, HON, HSZ⟩ := msg_cells (beatM 2 0 7) v w4 hmo.at
  clear hb C3 B3 HDC hmo hmk
  rw [hmv]
  have HMV := Lib.hid hmv
  clear hmv
  have CM : Hid ((w4.alloc (.cells (.int .i64 0 :: .int .i64 0 :: .int .i64 0 :: .int .i64 0 :: .int .i64 0 :: .int .i64 0 :: .int .i64 0 :: .int .i64 0 :: .int .i64 0 :: .slice none 0 0 :: .int .i64 0 :: .slice none 0 0 :: .int .i64 0 :: .int .i64 0 :: .int .i64 0 :: .int .i64 0 :: .int .i64 0 :: .slice none 0 0 :: .slice none 0 0 :: .int .i64 0 :: .int .i64 0 :: .int .i64 0 :: .int .i64 0 :: .int .i64 0 :: .int .i64 0 :: .int .i64 0 :: .int .i64 0 :: .string ⟨#[]⟩ :: .string ⟨#[]⟩ :: .slice none 0 0 :: .int .i64 0 :: .int .i64 0 :: .int .i64 0 :: .int .i64 0 :: .int .i64 0 :: .int .i64 0 :: .slice none 0 0 :: .slice none 0 0 :: []).toArray 36)).heap[w4.heap.size]? = some (.cells (.int .i64 0 :: .int .i64 0 :: .int .i64 0 :: .int .i64 0 :: .int .i64 0 :: .int .i64 0 :: .int .i64 0 :: .int .i64 0 :: .int .i64 0 :: .slice none 0 0 :: .int .i64 0 :: .slice none 0 0 :: .int .i64 0 :: .int .i64 0 :: .int .i64 0 :: .int .i64 0 :: .int .i64 0 :: .slice none 0 0 :: .slice none 0 0 :: .int .i64 0 :: .int .i64 0 :: .int .i64 0 :: .int .i64 0 :: .int .i64 0 :: .int .i64 0 :: .int .i64 0 :: .int .i64 0 :: .string ⟨#[]⟩ :: .string ⟨#[]⟩ :: .slice none 0 0 :: .int .i64 0 :: .int .i64 0 :: .int .i64 0 :: .int .i64 0 :: .int .i64 0 :: .int .i64 0 :: .slice none 0 0 :: .slice none 0 0 :: []).toArray 36 (0, 0))) := Cl.new w4 (.int .i64 0 :: .int .i64 0 :: .int .i64 0 :: .int .i64 0 :: .int .i64 0 :: .int .i64 0 :: .int .i64 0 :: .int .i64 0 :: .int .i64 0 :: .slice none 0 0 :: .int .i64 0 :: .slice none 0 0 :: .int .i64 0 :: .int .i64 0 :: .int .i64 0 :: .int .i64 0 :: .int .i64 0 :: .slice none 0 0 :: .slice none 0 0 :: .int .i64 0 :: .int .i64 0 :: .int .i64 0 :: .int .i64 0 :: .int .i64 0 :: .int .i64 0 :: .int .i64 0 :: .int .i64 0 :: .string ⟨#[]⟩ :: .string ⟨#[]⟩ :: .slice none 0 0 :: .int .i64 0 :: .int .i64 0 :: .int .i64 0 :: .int .i64 0 :: .int .i64 0 :: .int .i64 0 :: .slice none 0 0 :: .slice none 0 0 :: []) _
  have C5 : Hid (Cl ((w4.alloc (.cells (.int .i64 0 :: .int .i64 0 :: .int .i64 0 :: .int .i64 0 :: .int .i64 0 :: .int .i64 0 :: .int .i64 0 :: .int .i64 0 :: .int .i64 0 :: .slice none 0 0 :: .int .i64 0 :: .slice none 0 0 :: .int .i64 0 :: .int .i64 0 :: .int .i64 0 :: .int .i64 0 :: .int .i64 0 :: .slice none 0 0 :: .slice none 0 0 :: .int .i64 0 :: .int .i64 0 :: .int .i64 0 :: .int .i64 0 :: .int .i64 0 :: .int .i64 0 :: .int .i64 0 :: .int .i64 0 :: .string ⟨#[]⟩ :: .string ⟨#[]⟩ :: .slice none 0 0 :: .int .i64 0 :: .int .i64 0 :: .int .i64 0 :: .int .i64 0 :: .int .i64 0 :: .int .i64 0 :: .slice none 0 0 :: .slice none 0 0 :: []).toArray 36)).setRow w4.heap.size cs.toArray) w4.heap.size cs 36) := by
    have := Cl.row (Cl.new w4 (.int .i64 0 :: .int .i64 0 :: .int .i64 0 :: .int .i64 0 :: .int .i64 0 :: .int .i64 0 :: .int .i64 0 :: .int .i64 0 :: .int .i64 0 :: .slice none 0 0 :: .int .i64 0 :: .slice none 0 0 :: .int .i64 0 :: .int .i64 0 :: .int .i64 0 :: .int .i64 0 :: .int .i64 0 :: .slice none 0 0 :: .slice none 0 0 :: .int .i64 0 :: .int .i64 0 :: .int .i64 0 :: .int .i64 0 :: .int .i64 0 :: .int .i64 0 :: .int .i64 0 :: .int .i64 0 :: .string ⟨#[]⟩ :: .string ⟨#[]⟩ :: .slice none 0 0 :: .int .i64 0 :: .int .i64 0 :: .int .i64 0 :: .int .i64 0 :: .int .i64 0 :: .int .i64 0 :: .slice none 0 0 :: .slice none 0 0 :: []) 36) cs.toArray
    rwa [List.toList_toArray] at this
  have b45 : Hid (Below w4.heap.size w4 ((w4.alloc (.cells (.int .i64 0 :: .int .i64 0 :: .int .i64 0 :: .int .i64 0 :: .int .i64 0 :: .int .i64 0 :: .int .i64 0 :: .int .i64 0 :: .int .i64 0 :: .slice none 0 0 :: .int .i64 0 :: .slice none 0 0 :: .int .i64 0 :: .int .i64 0 :: .int .i64 0 :: .int .i64 0 :: .int .i64 0 :: .slice none 0 0 :: .slice none 0 0 :: .int .i64 0 :: .int .i64 0 :: .int .i64 0 :: .int .i64 0 :: .int .i64 0 :: .int .i64 0 :: .int .i64 0 :: .int .i64 0 :: .string ⟨#[]⟩ :: .string ⟨#[]⟩ :: .slice none 0 0 :: .int .i64 0 :: .int .i64 0 :: .int .i64 0 :: .int .i64 0 :: .int .i64 0 :: .int .i64 0 :: .slice none 0 0 :: .slice none 0 0 :: []).toArray 36)).setRow w4.heap.size cs.toArray)) := ((Below.refl _ _).alloc (Nat.le_refl _) _).trans ((Keeps.row (S := fun j => j = w4.heap.size) _ w4.heap.size _ rfl).toBelow (by simp) (fun k hk e => by omega))
  go_upto_region 5 with (refine wpList_store_row (by rfl) _ _ _ (by rfl) w4.heap.size cs.toArray (by rfl) (by rfl) 36 _ CM.out HIA.out HSZ.out HON.out ?_)
  clear CM
  generalize (w4.alloc (.cells (.int .i64 0 :: .int .i64 0 :: .int .i64 0 :: .int .i64 0 :: .int .i64 0 :: .int .i64 0 :: .int .i64 0 :: .int .i64 0 :: .int .i64 0 :: .slice none 0 0 :: .int .i64 0 :: .slice none 0 0 :: .int .i64 0 :: .int .i64 0 :: .int .i64 0 :: .int .i64 0 :: .int .i64 0 :: .slice none 0 0 :: .slice none 0 0 :: .int .i64 0 :: .int .i64 0 :: .int .i64 0 :: .int .i64 0 :: .int .i64 0 :: .int .i64 0 :: .int .i64 0 :: .int .i64 0 :: .string ⟨#[]⟩ :: .string ⟨#[]⟩ :: .slice none 0 0 :: .int .i64 0 :: .int .i64 0 :: .int .i64 0 :: .int .i64 0 :: .int .i64 0 :: .int .i64 0 :: .slice none 0 0 :: .slice none 0 0 :: []).toArray 36)).setRow w4.heap.size cs.toArray = w5 at *
  have D5 := Lib.hid (C4.out.below b45.out)
  have B5 := Lib.hid (bt B4.out b45.out)
  have M5 := Lib.hid (M4.out.kept b45.out)
  clear C4 B4 M4 b45
  generalize w4.heap.size = b4 at *
  go_wp2_with fail
  refine (HE2.out _ (HW.out.below B5.out)).mono ?_
  rintro e w6 ⟨rfl, hb⟩
  have C6 := Lib.hid (C5.out.below hb)
  have D6 := Lib.hid (D5.out.below hb)
  have B6 := Lib.hid (bt B5.out hb)
  have M6 := Lib.hid (M5.out.kept hb)
  clear hb C5 D5 B5 M5 HE2
  have R6 := Lib.hid C6.out.range
  have Q6 := Lib.hid D6.out.range
  have HS6 := Lib.hid (HSM.out w6 v M6.out)
  rw [HMV.out] at HS6
  clear HSM
  go_wp2_with (first
    | (refine wpList_load_yes (by rfl) _ _ (by rfl) b1 0 (by rfl) (.int .i64 3 :: .int .i64 2 :: .int .i64 0 :: .int .i64 0 :: .int .i64 0 :: .int .i64 0 :: .int .i64 0 :: .int .i64 7 :: .int .i64 0 :: .slice none 0 0 :: .int .i64 0 :: .slice none 0 0 :: .int .i64 0 :: .int .i64 0 :: .int .i64 0 :: .int .i64 0 :: .int .i64 0 :: .slice none 0 0 :: .slice none 0 0 :: .int .i64 0 :: .int .i64 0 :: .int .i64 0 :: .int .i64 0 :: .int .i64 0 :: .int .i64 0 :: .int .i64 0 :: .int .i64 0 :: .string ⟨#[]⟩ :: .string ⟨#[]⟩ :: .slice none 0 0 :: .int .i64 0 :: .int .i64 0 :: .int .i64 0 :: .int .i64 0 :: .int .i64 0 :: .int .i64 0 :: .slice none 0 0 :: .slice none 0 0 :: []) _ Q6.out Tryz.underlying36 (by rfl) HI38.out ?_)
    | (refine wpList_load_yes (by rfl) _ _ (by rfl) b4 0 (by rfl) cs _ R6.out Tryz.underlying36 (by rfl) HIL.out ?_))
  refine HS6.out.mono ?_
  rintro e w7 ⟨rfl, hb⟩
  have D7 := Lib.hid (D6.out.below hb)
  have B7 := Lib.hid (bt B6.out hb)
  clear hb C6 D6 B6 M6 R6 Q6 HS6
  have Q7 := Lib.hid D7.out.range
  go_wp2_with (refine wpList_load_yes (by rfl) _ _ (by rfl) b1 0 (by rfl) (.int .i64 3 :: .int .i64 2 :: .int .i64 0 :: .int .i64 0 :: .int .i64 0 :: .int .i64 0 :: .int .i64 0 :: .int .i64 7 :: .int .i64 0 :: .slice none 0 0 :: .int .i64 0 :: .slice none 0 0 :: .int .i64 0 :: .int .i64 0 :: .int .i64 0 :: .int .i64 0 :: .int .i64 0 :: .slice none 0 0 :: .slice none 0 0 :: .int .i64 0 :: .int .i64 0 :: .int .i64 0 :: .int .i64 0 :: .int .i64 0 :: .int .i64 0 :: .int .i64 0 :: .int .i64 0 :: .string ⟨#[]⟩ :: .string ⟨#[]⟩ :: .slice none 0 0 :: .int .i64 0 :: .int .i64 0 :: .int .i64 0 :: .int .i64 0 :: .int .i64 0 :: .int .i64 0 :: .slice none 0 0 :: .slice none 0 0 :: []) _ Q7.out Tryz.underlying36 (by rfl) HI38.out ?_)
  refine (HG1.out _ (HW.out.below B7.out)).mono ?_
  rintro e w8 ⟨rfl, hb⟩
  have B8 := Lib.hid (bt B7.out hb)
  clear hb
  go_wp2
  go_ret
  exact ⟨rfl, B8.out⟩
end Go.Proofs.YtjfpbeccpcbpcaaGreatDoor
