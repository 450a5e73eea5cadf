/-
  Walkb / Wf3 / Ast / Frma / Wr3 / Ga / Gb: texts of one proof, one behind the other.
  Conditions: none of its own.
-/
import Derived.Test.YtbljbdjmgogknaaGreatDoorZac
import Derived.Test.YtbljbdjmgogknaaGreatDoorZag
import Derived.Test.YtbljbdjmgogknaaGreatDoorZaj
import Derived.Test.YtbljbdjmgogknaaGreatDoorZak
import Derived.Deep.RegionWith
import Derived.Deep.AppendLies
import Derived.Deep.RegionLaw
import Derived.Deep.AppendSrc
import Derived.Lib.JoinLaws
import Derived.Lib.SliceRun
set_option linter.unusedVariables false
set_option linter.unusedSimpArgs false
namespace Go.Proofs.YtbljbdjmgogknaaGreatDoor
open Go.RowKit
attribute [local go_sem] Crc.four_length
theorem ne_no {a b : BitVec 32} (h : a = b) : ((a.toNat : Int) != (b.toNat : Int)) = false := by rw [h]; simp
theorem ne_yes {a b : BitVec 32} (h : a ≠ b) : ((a.toNat : Int) != (b.toNat : Int)) = true := by
 rw [bne_iff_ne]
 intro e
 exact h (BitVec.eq_of_toNat_eq (by omega))
theorem four_int (n : Int) (w : World) (h0 : 0 ≤ n) (h1 : n < 4294967296) :
  Calls Tryz.prog 77 #[.int .u32 n] w fun e w' => e = .returned (.string ⟨(Crc.four (BitVec.ofNat 32 n.toNat)).toArray⟩) ∧ Below w.heap.size w w' := by
 have e : n = ((BitVec.ofNat 32 n.toNat).toNat : Int) := by rw [BitVec.toNat_ofNat]; omega
 have h := four_any (BitVec.ofNat 32 n.toNat) w
 rwa [← e] at h
set_option maxHeartbeats 400000 in
theorem put_any (l : List UInt8) (w : World) (hs : l.length ≤ 16384) :
  Calls Tryz.prog 45 #[.string ⟨l.toArray⟩] w fun e w' => e = .returned (.tuple #[.string ⟨(Frm.put l).toArray⟩, .int .i64 0]) ∧ Below w.heap.size w w' := by
 go_enter Tryz.func45, Tryz.ntmps45
 go_wp2_with fail
 refine (four_int _ _ (by omega) (by omega)).mono ?_
 rintro e w1 ⟨rfl, hb1⟩
 have HB1 := Lib.hid hb1
 clear hb1
 go_wp2_with fail
 refine (sum_any _ _ (by unfold maxLen; omega)).mono ?_
 rintro e w2 ⟨rfl, hb2⟩
 have HB2 := Lib.hid hb2
 clear hb2
 go_wp2_with fail
 refine (four_any _ _).mono ?_
 rintro e w3 ⟨rfl, hb3⟩
 have HB3 := Lib.hid hb3
 clear hb3
 go_wp2
 go_ret2
 exact ⟨rfl, bt (bt HB1.out HB2.out) HB3.out⟩
theorem next_arg (l : List UInt8) (k : Int) (w : World) (h : k < 0 ∨ (l.length : Int) < k) (hm : l.length ≤ maxLen) :
  Calls Tryz.prog 56 #[.string ⟨l.toArray⟩, .int .i64 k] w fun e w' => e = .returned (.tuple #[.string ⟨#[]⟩, .int .i64 0, .int .i64 1]) ∧ w = w' := by
 unfold maxLen at hm
 by_cases h0 : k < 0
 ·go_enter Tryz.func56, Tryz.ntmps56
  go_wp2
  go_ret3
  exact ⟨rfl, rfl⟩
 ·have h1 : (l.length : Int) < k := by omega
  clear h
  go_enter Tryz.func56, Tryz.ntmps56
  go_wp2
  go_ret3
  exact ⟨rfl, rfl⟩
set_option maxHeartbeats 400000 in
theorem next_short (l : List UInt8) (k : Nat) (w : World) (h : k ≤ l.length) (h8 : l.length - k < 8) (hm : l.length ≤ maxLen) :
  Calls Tryz.prog 56 #[.string ⟨l.toArray⟩, .int .i64 k] w fun e w' => e = .returned (.tuple #[.string ⟨#[]⟩, .int .i64 0, .int .i64 5]) ∧ w = w' := by
 unfold maxLen at hm
 have hs := str_from (P := Tryz.prog) l k k rfl h 9 .i64 Tryz.underlying9
 have hl : (l.drop k).length < 8 := by simp; omega
 generalize l.drop k = r at hs hl
 go_enter Tryz.func56, Tryz.ntmps56
 go_wp2
 go_ret3
 exact ⟨rfl, rfl⟩
set_option maxHeartbeats 400000 in
theorem next_rest (l : List UInt8) (k : Nat) (w : World) (h : k ≤ l.length) (h8 : 8 ≤ l.length - k) (hm : l.length ≤ maxLen) :
  Calls Tryz.prog 56 #[.string ⟨l.toArray⟩, .int .i64 k] w fun e w' => e = .returned (.tuple #[.string ⟨(Frm.next l k).1.toArray⟩, .int .i64 (Frm.next l k).2.1, .int .i64 (Frm.next l k).2.2]) ∧ Below w.heap.size w w' := by
 unfold maxLen at hm
 have hs := str_from (P := Tryz.prog) l k k rfl h 9 .i64 Tryz.underlying9
 have hl : 8 ≤ (l.drop k).length := by simp; omega
 have hl2 : (l.drop k).length + k ≤ 9223372036854775807 := by simp; omega
 have H1 := Lib.hid (@Frm.next_long l k h h8)
 have H2 := Lib.hid (@Frm.next_short2 l k h h8)
 have H3 := Lib.hid (@Frm.next_sum l k h h8)
 have H4 := Lib.hid (@Frm.next_ok l k h h8)
 have hlen : l.length - k - 8 = (l.drop k).length - 8 := by simp
 rw [hlen] at H2 H3 H4
 clear hlen
 generalize l.drop k = r at hs hl hl2 H1 H2 H3 H4
 generalize Frm.next l k = q at H1 H2 H3 H4
 obtain ⟨q1, q2, q3⟩ := q
 have hn := (Crc.num r).isLt
 go_enter Tryz.func56, Tryz.ntmps56
 go_wp2_with fail
 refine (number_any _ _ (by omega) (by unfold maxLen; omega)).mono ?_
 rintro e w1 ⟨rfl, rfl⟩
 by_cases c1 : 16384 < (Crc.num r).toNat
 ·have e1 := H1.out c1
  injection e1 with e1 e2
  injection e2 with e2 e3
  subst e1 e2 e3
  go_wp2
  go_ret3
  exact ⟨rfl, Below.refl _ _⟩
 ·by_cases c2 : r.length - 8 < (Crc.num r).toNat
  ·have e1 := H2.out (by omega) c2
   injection e1 with e1 e2
   injection e2 with e2 e3
   subst e1 e2 e3
   go_wp2
   go_ret3
   exact ⟨rfl, Below.refl _ _⟩
  ·have hc := str_cut (P := Tryz.prog) r 8 (8 + (Crc.num r).toNat) 8 (8 + (Crc.num r).toNat) .i64 .u32 rfl (by omega) (by omega) (by omega) 9 Tryz.underlying9
   have h4 := str_from (P := Tryz.prog) r 4 4 rfl (by omega) 9 .i64 Tryz.underlying9
   have hb : ((r.take (8 + (Crc.num r).toNat)).drop 8).length ≤ 16384 := by simp; omega
   have h4l : 4 ≤ (r.drop 4).length := by simp; omega
   have h4m : (r.drop 4).length ≤ 9223372036854775807 := by simp; omega
   generalize (r.take (8 + (Crc.num r).toNat)).drop 8 = b at hc hb H3 H4
   generalize r.drop 4 = r4 at h4 h4l h4m H3 H4
   by_cases c3 : Crc.sum b = Crc.num r4
   ·have e1 := H4.out (by omega) (by omega) c3
    injection e1 with e1 e2
    injection e2 with e2 e3
    subst e1 e2 e3
    have ht := ne_no c3
    clear hn c3
    go_wp2_with fail
    go_region_with (first | (go_at_call 78; refine (sum_any _ _ (by unfold maxLen; omega)).mono ?_; rintro e w2 ⟨rfl, hb2⟩) | (go_at_call 90; refine (number_any _ _ h4l (by unfold maxLen; omega)).mono ?_; rintro e w3 ⟨rfl, rfl⟩))
    all_goals
     have HB2 := Lib.hid hb2
     clear hb2
     go_wp2
     go_ret3
     exact ⟨rfl, bd HB2.out⟩
   ·have e1 := H3.out (by omega) (by omega) c3
    injection e1 with e1 e2
    injection e2 with e2 e3
    subst e1 e2 e3
    have ht := ne_yes c3
    clear hn c3
    go_wp2_with fail
    go_region_with (first | (go_at_call 78; refine (sum_any _ _ (by unfold maxLen; omega)).mono ?_; rintro e w2 ⟨rfl, hb2⟩) | (go_at_call 90; refine (number_any _ _ h4l (by unfold maxLen; omega)).mono ?_; rintro e w3 ⟨rfl, rfl⟩))
    all_goals
     have HB2 := Lib.hid hb2
     clear hb2
     go_wp2
     go_ret3
     exact ⟨rfl, bd HB2.out⟩
theorem next_any (l : List UInt8) (k : Int) (w : World) (hm : l.length ≤ maxLen) :
  Calls Tryz.prog 56 #[.string ⟨l.toArray⟩, .int .i64 k] w fun e w' => e = .returned (.tuple #[.string ⟨(Frm.next l k).1.toArray⟩, .int .i64 (Frm.next l k).2.1, .int .i64 (Frm.next l k).2.2]) ∧ Below w.heap.size w w' := by
 by_cases h : k < 0 ∨ (l.length : Int) < k
 ·rw [Frm.next_arg h]
  exact (next_arg l k w h hm).mono fun e w' ⟨he, hw⟩ => ⟨he, hw ▸ Below.refl _ _⟩
 ·obtain ⟨n, rfl⟩ := Int.eq_ofNat_of_zero_le (show 0 ≤ k by omega)
  by_cases h8 : l.length - n < 8
  ·rw [Frm.next_short (by omega) h8]
   exact (next_short l n w (by omega) h8 hm).mono fun e w' ⟨he, hw⟩ => ⟨he, hw ▸ Below.refl _ _⟩
  ·exact next_rest l n w (by omega) (by omega) hm
/- The reference's. -/
end Go.Proofs.YtbljbdjmgogknaaGreatDoor
namespace Go.Proofs.YtbljbdjmgogknaaGreatDoor
open Go.RowKit
def WStrs (w : World) (ls : List (List UInt8)) (e : Ending) (w' : World) : Prop := ∃ v, e = .returned v ∧ w'.ownsRow w.heap.size 9 1 v ls.length (sv ls) ∧ Below w.heap.size w w'
theorem sv_append (a b : List (List UInt8)) : sv (a ++ b) = sv a ++ sv b := by simp [sv]
theorem ownsRow_weaken {w : World} {b b' : Nat} {e : TypeId} {size : Nat} {v : Value} {n : Nat} {xs : List Value} (h : w.ownsRow b e size v n xs) (hb : b' ≤ b) : w.ownsRow b' e size v n xs := by
 refine ⟨h.1, ?_⟩
 rcases h.2 with h2 | ⟨g, cap, cur, e1, hB, r⟩
 ·exact .inl h2
 ·exact .inr ⟨g, cap, cur, e1, Nat.le_trans hb hB, r⟩
set_option maxRecDepth 20000 in
set_option maxHeartbeats 1600000 in
theorem wints_any (l : List Int) (hl : l.length ≤ 100000) (hr : ∀ x ∈ l, Bd.inR x) (v : Value) (w : World) (h : Ints w v l) (hw : Lw w) :
  Calls Tryz.prog 80 #[v] w (WStrs w (l.map Bd.bInt)) := by
 have HZ := Lib.hid h
 have HW := Lib.hid hw
 have HR := Lib.hid hr
 obtain ⟨a, cap, rfl⟩ := h.form
 obtain ⟨i0, hi, hz0, hz1, hz2⟩ := info_parts cinfoStr
 clear h hw hr
 go_enter Tryz.func80, Tryz.ntmps80
 go_wp2
 go_loopw [2, 7] (fun tv ti wr => ∃ k : Nat, ti = .int .i64 k ∧ k ≤ l.length ∧ wr.ownsRow w.heap.size 9 1 tv k (sv ((l.map Bd.bInt).take k)) ∧ Below w.heap.size w wr) (fun _ ti _ => l.length - (intOf ti).toNat)
 case atStart => exact ⟨0, rfl, by omega, ⟨by simp [sv], .inl ⟨rfl, rfl⟩⟩, Below.refl _ _⟩
 case round =>
  obtain ⟨k, rfl, hk, ho, hb⟩ := hrel
  have HO := Lib.hid ho
  have HB := Lib.hid hb
  clear ho hb
  by_cases hlt : k < l.length
  ·obtain ⟨x, hx⟩ : ∃ x, l[k]? = some x := ⟨l[k], by simp [hlt]⟩
   have HJ := Lib.hid (beadInt_any x (HR.out x (List.mem_of_getElem? hx)) wr (HW.out.below HB.out))
   have HT : Hid (sv ((l.map Bd.bInt).take (k + 1)) = sv ((l.map Bd.bInt).take k) ++ sv [Bd.bInt x]) := by
    rw [Hid, ← sv_append]
    congr 1
    rw [List.take_succ_eq_append_getElem (by simpa using hlt)]
    obtain ⟨_, rfl⟩ := List.getElem?_eq_some_iff.1 hx
    simp
   obtain ⟨g, off, cap', he, hg, p0⟩ := HZ.out.get HB.out hx
   injection he with he1 he2 he3
   subst he1 he3
   clear he2
   generalize Bd.bInt x = bx at *
   go_wp2_with fail
   refine HJ.out.mono ?_
   rintro e w1 ⟨rfl, hb1⟩
   have HO1 := Lib.hid (ownsRow_below HO.out hb1)
   have HB1 := Lib.hid (bt HB.out hb1)
   have hsz := HB1.out.size
   clear hb1 HJ HO p0
   go_wp2_with (at_builtin; refine wpList_append_own _ rfl _ _ 93 rfl w.heap.size 9 i0 (.string ⟨#[]⟩) 1 16 Tryz.underlying93 hi hz0 hz1 hz2 rfl (by decide) _ _ _ rfl (World.ownsRow.alloc HO1.out _) ⟨w1.heap.size, 0, none⟩ 1 1 [.string ⟨bx.toArray⟩] rfl rfl (cell_one_new _ _ _) ?_ ?_ ?_ ?_ ?_)
   ·simp [Value.oneCell']
   ·unfold maxLen; omega
   ·omega
   ·simp; omega
   intro v' w2 hown2 hg2 _
   have HN : Hid (w2.ownsRow w.heap.size 9 1 v' (k + 1) (sv ((l.map Bd.bInt).take (k + 1)))) := by rw [Hid, HT.out]; exact hown2
   have HB2 : Hid (Below w.heap.size w w2) := (HB1.out.alloc hsz _).grown hg2 (by simp; omega) (fun kk hkk => (HO1.out.lt kk hkk).1)
   clear hown2 hg2
   go_wp2
   go_roundw
   case rel => exact ⟨k + 1, by go_num, by omega, HN.out, HB2.out⟩
   case measure => simp [intOf]; omega
  ·obtain rfl : k = l.length := by omega
   have h9 := HO.out
   rw [List.take_of_length_le (by simp), show l.length = (l.map Bd.bInt).length by simp] at h9
   have HF := Lib.hid h9
   clear h9
   go_wp2
   go_ret
   exact ⟨_, rfl, HF.out, HB.out⟩
theorem ints3_cl {W : World} {g : Nat} {a b c : Int} {t : TypeId} (C : Cl W g [.int .i64 a, .int .i64 b, .int .i64 c] t) : Ints W (.slice (some ⟨g, 0, none⟩) 3 3) [a, b, c] := by
 refine ⟨_, 3, rfl, fun i hi => ⟨g, 0, rfl, C.lt, ?_⟩⟩
 rw [Nat.zero_add, Cl.cell C i]
 rcases (show i = 0 ∨ i = 1 ∨ i = 2 by simp at hi; omega) with rfl | rfl | rfl <;> rfl
end Go.Proofs.YtbljbdjmgogknaaGreatDoor
namespace Go.Proofs.YtbljbdjmgogknaaGreatDoor
open Go.RowKit
theorem Keeps.fresh {S T : Nat → Prop} {a b c : World} (h : Keeps S a b) (k : Keeps T b c) (hT : ∀ k, k < a.heap.size → T k → S k) : Keeps S a c :=
 ⟨k.os.trans h.os, k.tape.trans h.tape, k.output.trans h.output, Nat.le_trans h.size k.size, fun i hi hs => (k.block i (Nat.lt_of_lt_of_le hi h.size) (fun ht => hs (hT i hi ht))).trans (h.block i hi hs)⟩
theorem step_append_sl {P : Program} (w : World) {ops : Array Oper} {o : Oper} {a : Act} {K : Act → World → Prop} {Q : Exit → Act → World → Prop} {E : Prop} (hgd : o.guard = none) (s x : Operand) (t : TypeId)
  (ho : o.op = .call { callee := .builtin .append, args := #[s, x], argTypes := #[t, t] })
  (base : Nat) (e : TypeId) (i : TypeInfo) (z : Value) (size bytes : Nat) (ht : P.underlying t = some (.slice e)) (hi : P.info? e = some i) (hz : i.zero = some z)
  (hsize : i.size = size) (hby : i.bytes = bytes) (hzs : z.cells.size = size) (hsz : 0 < size)
  (v : Value) (n : Nat) (xs : List Value) (hs : a.eval s = v) (hown : Sl w base size v n xs) (sv : Value) (m : Nat) (ys : List Value) (hx : a.eval x = sv) (hsrc : SrcIs w size sv m ys) (h1 : ∀ u ∈ ys, u.oneCell' = true)
  (h63 : n + m ≤ maxLen) (hbytes : (n + m) * bytes ≤ 140737488355328) (hbase : base ≤ w.heap.size) (hm : 0 < m)
  (h : ∀ g off cap w', Sl w' base size (.slice (some ⟨g, off, none⟩) (n + m) cap) (n + m) (xs ++ ys) → w.grownBy w' v.ownBlock → (v.ownBlock = some g ∨ w.heap.size ≤ g) → K (a.put o.dst (.slice (some ⟨g, off, none⟩) (n + m) cap)) w') :
  if Region.wanted o (yielded ops a.tmps) = true then Oper.wp P o a w K Q else E := by
 have hw : Region.wanted o (yielded ops a.tmps) = true := by simp [Region.wanted, hgd]
 rw [if_pos hw]
 obtain ⟨v', w', hr, h2, h3, h4⟩ := run_append_sl (P := P) w t o.type e i z size bytes ht hi hz hsize hby hzs hsz base v n xs hown sv m ys hsrc h1 h63 hbytes hbase
 have h2' := h2
 rcases h2.2 with ⟨_, h0⟩ | ⟨g, off, cap, rfl, _⟩
 ·omega
 unfold Oper.wp execOp
 simp only [ho, resolve, invoke, builtin, Sem.run_bind, Sem.run_pure, Result.andThen_ok, List.map_toArray, List.map_cons, List.map_nil, hs, hx, hr]
 refine h g off cap w' h2' h3 ?_
 rcases h4 with h4 | h4
 ·exact .inl (by rw [← h4]; rfl)
 ·exact .inr (h4 g rfl)
end Go.Proofs.YtbljbdjmgogknaaGreatDoor
namespace Go.Proofs.YtbljbdjmgogknaaGreatDoor.Frm
open Crc
theorem put_length (l : List UInt8) : (put l).length = 8 + l.length := by simp [put, four_length]; omega
theorem put_head (l : List UInt8) (h : l.length ≤ 16384) (r : List UInt8) : num (put l ++ r) = BitVec.ofNat 32 l.length := by
 have := num_four (BitVec.ofNat 32 l.length)
 unfold put
 unfold four at this ⊢
 simpa [num] using this
theorem put_check (l r : List UInt8) : num ((put l ++ r).drop 4) = sum l := by
 have := num_four (sum l)
 unfold put
 unfold four at this ⊢
 simpa [num] using this
theorem put_body (l r : List UInt8) : ((put l ++ r).take (8 + l.length)).drop 8 = l := by
 have : (put l ++ r).take (8 + l.length) = put l := by
  rw [List.take_append_of_le_length (by rw [put_length]; omega), List.take_of_length_le (by rw [put_length]; omega)]
 rw [this]
 rfl
theorem next_put (l r : List UInt8) (h : l.length ≤ 16384) : next (put l ++ r) ((0 : Nat) : Int) = (l, ((8 + l.length : Nat) : Int), 0) := by
 have hn : (num ((put l ++ r).drop 0)).toNat = l.length := by
  rw [List.drop_zero, put_head l h r, BitVec.toNat_ofNat]; omega
 have hl : (put l ++ r).length = 8 + l.length + r.length := by rw [List.length_append, put_length]
 have hb : (((put l ++ r).drop 0).take (8 + (num ((put l ++ r).drop 0)).toNat)).drop 8 = l := by rw [hn, List.drop_zero]; exact put_body l r
 rw [next_ok (l := put l ++ r) (k := 0) (by omega) (by omega) (by omega) (by omega) (by rw [hb]; rw [List.drop_zero]; exact (put_check l r).symm), hb, hn]
 simp
def puts (ts : List (List UInt8)) : List UInt8 := (ts.map put).flatten
end Go.Proofs.YtbljbdjmgogknaaGreatDoor.Frm
namespace Go.Proofs.YtbljbdjmgogknaaGreatDoor
open Go.RowKit
def beatM (f t n : Int) : Wi.Msg := ⟨3, f, t, 0, 0, 0, 0, n, 0, [], 0, [], Wi.zBatch, [], Wi.zReq, Wi.zResp⟩
def zeroV : MsgV := ⟨.slice none 0 0, .slice none 0 0, .slice none 0 0, .slice none 0 0, .slice none 0 0, .slice none 0 0, .slice none 0 0⟩
theorem beat_at (f t n : Int) (w : World) : MsgAt w (beatM f t n) zeroV := ⟨Ints.nil w, Rw.nil _ _ w, recs_nil0 w, Tbl.nil w, recs_nil0 w, Ints.nil w, recs_nil0 w⟩
theorem wpList_load_yes {P : Program} {ops : Array Oper} {rest : List Oper} {op : Oper} {a : Act} {w : World} {Q : Exit → Act → World → Prop} (hw : Region.wanted op (yielded ops a.tmps) = true) (ty : TypeId) (x : Operand) (ho : op.op = .load ty x)
  (b o : Nat) (hx : a.eval x = .pointer (some ⟨b, o, none⟩)) (cs : List Value) (d : TypeDesc) (hc : w.rangeAt b o cs)
  (hu : P.underlying ty = some d) (hd : d.isRow = true) (hi : (P.info? ty).map (·.size) = some cs.length)
  (h : wpList P ops Q rest (a.put op.dst (.agg cs.toArray)) w) : wpList P ops Q (op :: rest) a w :=
 wpList_step fun K hK => by rw [if_pos hw]; exact wp_load_mid ty x ho b o hx cs d hc hu hd hi (hK _ _ h)
end Go.Proofs.YtbljbdjmgogknaaGreatDoor
namespace Go.Proofs.YtbljbdjmgogknaaGreatDoor
open Go.RowKit
abbrev Item := List UInt8 × Int
def itC (l : List Item) : List Value := l.flatMap fun x => [.string ⟨x.1.toArray⟩, .int .i64 x.2]
theorem itC_len (l : List Item) : (itC l).length = l.length * 2 := by
 induction l with
 | nil => rfl
 | cons x l ih => simp only [itC, List.flatMap_cons, List.length_append, List.length_cons, List.length_nil] at ih ⊢; omega
theorem itC_append (a b : List Item) : itC (a ++ b) = itC a ++ itC b := by simp [itC]
theorem itC_one (l : List Item) : ∀ u ∈ itC l, u.oneCell' = true := by
 intro u hu
 obtain ⟨x, _, hx⟩ := List.mem_flatMap.1 hu
 simp only [List.mem_cons, List.not_mem_nil, or_false] at hx
 rcases hx with rfl | rfl <;> rfl
theorem itC_at {l : List Item} {k : Nat} {x : Item} (h : l[k]? = some x) : (itC l)[k * 2]? = some (.string ⟨x.1.toArray⟩) ∧ (itC l)[k * 2 + 1]? = some (.int .i64 x.2) := by
 induction l generalizing k with
 | nil => simp at h
 | cons y l ih =>
  cases k with
  | zero =>
   simp only [List.getElem?_cons_zero, Option.some.injEq] at h
   subst h
   exact ⟨rfl, rfl⟩
  | succ k =>
   have := ih (k := k) (by simpa using h)
   rw [show (k + 1) * 2 = k * 2 + 2 by omega]
   exact this
structure BagW (w : World) (B pb : Nat) (lv : Value) (l : List Item) : Prop where
 c : Cl w pb [lv] 65
 s : Sl w B 2 lv l.length (itC l)
 n : ∀ j, lv.ownBlock = some j → j ≠ pb
 b : B ≤ pb
 m : l.length ≤ 256
theorem BagW.below {w w' : World} {B pb : Nat} {lv : Value} {l : List Item} (h : BagW w B pb lv l) (hb : Below w.heap.size w w') : BagW w' B pb lv l :=
 ⟨Cl.below h.c hb, h.s.kept (Keeps.below (fun _ => False) hb) (fun _ _ => id), h.n, h.b, h.m⟩
theorem BagW.keep {S : Nat → Prop} {w w' : World} {B pb : Nat} {lv : Value} {l : List Item} (h : BagW w B pb lv l) (k : Keeps S w w') (hp : ¬ S pb) (hl : ∀ j, lv.ownBlock = some j → ¬ S j) : BagW w' B pb lv l :=
 ⟨Cl.keep h.c k hp, h.s.kept k hl, h.n, h.b, h.m⟩
structure BagK (pb : Nat) (lv lv' : Value) (w w' : World) : Prop where
 k : Keeps (fun j => j = pb ∨ lv.ownBlock = some j) w w'
 n : ∀ j, lv'.ownBlock = some j → lv.ownBlock = some j ∨ w.heap.size ≤ j
theorem BagK.below {B pb : Nat} {lv lv' : Value} {l : List Item} {w w' : World} (k : BagK pb lv lv' w w') (h : BagW w B pb lv l) (hB : B ≤ w.heap.size) : Below B w w' :=
 k.k.toBelow hB (fun j hj e => by
  rcases e with e | e
  ·have := h.b; omega
  ·have := (h.s.lt j e).1; omega)
theorem BagK.of {pb : Nat} {lv : Value} {w w' : World} (b : Below w.heap.size w w') : BagK pb lv lv w w' := ⟨Keeps.below _ b, fun j h => .inl h⟩
theorem BagK.trans {pb : Nat} {lv lv1 lv2 : Value} {w w1 w2 : World} (a : BagK pb lv lv1 w w1) (b : BagK pb lv1 lv2 w1 w2) : BagK pb lv lv2 w w2 :=
 ⟨a.k.fresh b.k (fun k hk e => by
  rcases e with e | e
  ·exact .inl e
  ·rcases a.n k e with e2 | e2
   ·exact .inr e2
   ·omega), fun j hj => by
  rcases b.n j hj with e | e
  ·exact a.n j e
  ·exact .inr (Nat.le_trans a.k.size e)⟩
theorem bagNew_any (w : World) : Calls Tryz.prog 8 #[] w fun e w' => e = .returned (.pointer (some ⟨w.heap.size, 0, none⟩)) ∧ BagW w' w.heap.size w.heap.size (.slice none 0 0) [] ∧ Below w.heap.size w w' := by
 have C : Hid (Cl (w.alloc (.cells #[.slice none 0 0] 65)) w.heap.size [.slice none 0 0] 65) := Cl.new w _ _
 have B : Hid (Below w.heap.size w (w.alloc (.cells #[.slice none 0 0] 65))) := (Below.refl _ _).alloc (Nat.le_refl _) _
 go_enter Tryz.func8, Tryz.ntmps8
 go_wp2
 go_ret
 exact ⟨rfl, ⟨C.out, Sl.nil _ _ _, fun j hj => by simp [Value.ownBlock] at hj, Nat.le_refl _, by simp⟩, B.out⟩
theorem bagLen_any (B pb : Nat) (lv : Value) (l : List Item) (w : World) (h : BagW w B pb lv l) :
  Calls Tryz.prog 19 #[.pointer (some ⟨pb, 0, none⟩)] w fun e w' => e = .returned (.int .i64 l.length) ∧ w' = w := by
 have c0 := h.c.cell 0
 obtain ⟨a, cap, rfl, _⟩ := h.s.form
 simp only [List.getElem?_cons_zero] at c0
 have hm := h.m
 clear h
 go_enter Tryz.func19, Tryz.ntmps19
 go_wp2
 go_ret
 exact ⟨rfl, rfl⟩
theorem bagHas_any (B pb : Nat) (lv : Value) (l : List Item) (n : Int) (w : World) (h : BagW w B pb lv l) :
  Calls Tryz.prog 25 #[.pointer (some ⟨pb, 0, none⟩), .int .i64 n] w fun e w' => e = .returned (.bool (decide (0 ≤ n ∧ n < l.length))) ∧ w' = w := by
 have HL := Lib.hid (bagLen_any B pb lv l w h)
 clear h
 by_cases h0 : 0 ≤ n
 ·by_cases h1 : n < l.length
  ·go_enter Tryz.func25, Tryz.ntmps25
   go_wp2_with fail
   refine HL.out.mono ?_
   rintro e w1 ⟨rfl, rfl⟩
   go_wp2
   go_ret
   exact ⟨by simp [h0, h1] <;> omega, rfl⟩
  ·go_enter Tryz.func25, Tryz.ntmps25
   go_wp2_with fail
   refine HL.out.mono ?_
   rintro e w1 ⟨rfl, rfl⟩
   go_wp2
   go_ret
   exact ⟨by simp [h0, h1] <;> omega, rfl⟩
 ·go_enter Tryz.func25, Tryz.ntmps25
  go_wp2
  go_ret
  exact ⟨by simp [h0] <;> omega, rfl⟩
theorem bag_put_post {B pb : Nat} {lv : Value} {l : List Item} {x : Item} {w2 w4 : World} {v' : Value} (H : BagW w2 B pb lv l) (hlt : l.length < 256)
  (h1 : Sl w4 B 2 v' (l.length + 1) (itC l ++ [.string ⟨x.1.toArray⟩, .int .i64 x.2])) (h2 : (w2.alloc (.cells #[.string ⟨x.1.toArray⟩, .int .i64 x.2] 74)).drew.grownBy w4 lv.ownBlock)
  (h3 : v'.ownBlock = lv.ownBlock ∨ ∀ k, v'.ownBlock = some k → (w2.alloc (.cells #[.string ⟨x.1.toArray⟩, .int .i64 x.2] 74)).drew.heap.size ≤ k) :
  (BagW (w4.setCell ⟨pb, 0, none⟩ v') B pb v' (l ++ [x]) ∧ BagK pb lv v' w2 (w4.setCell ⟨pb, 0, none⟩ v')) ∧ w4.cell? ⟨pb, 0, none⟩ = some lv ∧ w4.frozen? ⟨pb, 0, none⟩ = false := by
 have C0 : Cl (w2.alloc (.cells #[.string ⟨x.1.toArray⟩, .int .i64 x.2] 74)).drew pb [lv] 65 := Cl.drewN (H.c.alloc _) 1
 have C4 : Cl w4 pb [lv] 65 := C0.grown h2 (fun e => H.n pb e.symm rfl)
 have hsz : (w2.alloc (.cells #[.string ⟨x.1.toArray⟩, .int .i64 x.2] 74)).drew.heap.size = w2.heap.size + 1 := World.size_alloc _ _
 have HN : ∀ j, v'.ownBlock = some j → j ≠ pb := fun j hj => by
  have hlt := H.c.lt
  rcases h3 with e | e
  ·exact H.n j (e ▸ hj)
  ·have := e j hj
   omega
 have k : Keeps (fun j => j = pb) w4 (w4.setCell ⟨pb, 0, none⟩ v') := Keeps.setCell _ _ _ _ rfl
 have KK : BagK pb lv v' w2 (w4.setCell ⟨pb, 0, none⟩ v') := by
  refine ⟨(((Keeps.alloc _ _ _).trans (Keeps.drew _ _)).trans (Keeps.grown h2 (fun j hj => .inr hj))).trans (k.mono (fun j _ e => .inl e)), fun j hj => ?_⟩
  rcases h3 with e | e
  ·exact .inl (e ▸ hj)
  ·exact .inr (by have := e j hj; omega)
 refine ⟨⟨⟨Cl.set C4 0 v', ?_, HN, H.b, by simp; omega⟩, KK⟩, C4.cell 0, C4.free 0⟩
 have := h1.kept k (fun j hj e => HN j hj e)
 rw [itC_append, List.length_append]
 exact this
theorem infoItem : (Tryz.prog.info? 74).map (fun i => (i.zero, i.size, i.bytes)) = some (some (.agg #[.string ⟨#[]⟩, .int .i64 0]), 2, 24) := by kernel_rfl
def PutPost (B pb : Nat) (lv : Value) (l : List Item) (x : Item) (w : World) (e : Ending) (w' : World) : Prop :=
 e = .returned (.int .i64 (if l.length < 256 then 0 else 11)) ∧ ∃ lv', BagW w' B pb lv' (if l.length < 256 then l ++ [x] else l) ∧ BagK pb lv lv' w w'
set_option maxRecDepth 20000 in
set_option maxHeartbeats 3200000 in
theorem bagPut_cs (cs : List Value) (hlen : cs.length = 38) (t : Int) (ht : cs[2]? = some (.int .i64 t)) (B pb : Nat) (lv : Value) (l : List Item) (data : List UInt8) (w : World) (h : BagW w B pb lv l) (hB : B ≤ w.heap.size)
  (HE : ∀ W, Below w.heap.size w W → Calls Tryz.prog 23 #[.agg cs.toArray] W fun e w' => e = .returned (.tuple #[.string ⟨data.toArray⟩, .int .i64 0]) ∧ Below W.heap.size W w') :
  Calls Tryz.prog 10 #[.pointer (some ⟨pb, 0, none⟩), .agg cs.toArray] w (PutPost B pb lv l (data, t) w) := by
 have H0 := Lib.hid h
 have HEE := Lib.hid HE
 obtain ⟨a, cap, hlv, _⟩ := h.s.form
 subst hlv
 have hm := h.m
 clear h HE
 have HI38 : Hid ((Tryz.prog.info? 44).map (·.size) = some cs.length) := by rw [Hid, hlen]; kernel_rfl
 have HU := Lib.hid Tryz.underlying44
 obtain ⟨i0, hi, hz0, hz1, hz2⟩ := info_parts infoItem
 go_enter Tryz.func10, Tryz.ntmps10
 obtain ⟨w1, hw1, CA, B1⟩ := oneBox (w := w) cs 44
 have HW1 := Lib.hid hw1
 clear hw1
 go_upto_region 3 with (fail)
 first | rw [HW1.out] | skip
 clear HW1
 have H1 := Lib.hid (H0.out.below B1.out)
 have BB : Hid (∀ W, Below w1.heap.size w1 W → Below B w W ∧ B ≤ W.heap.size) := fun W hW => ⟨(bt B1.out hW).mono hB, Nat.le_trans hB (Nat.le_trans B1.out.size hW.size)⟩
 have HE1 := Lib.hid (HEE.out _ B1.out)
 obtain ⟨pa, hpa⟩ : ∃ pa, pa = w.heap.size := ⟨_, rfl⟩
 have hpl := H0.out.c.lt
 have hpne : pa ≠ pb := by omega
 rw [← hpa] at CA
 first | rw [← hpa] | skip
 have HPA := Lib.hid hpa
 clear hpa hpl
 have R1 := Lib.hid CA.out.range
 go_wp2_with (refine wpList_load_mid (by rfl) _ _ (by rfl) pa 0 (by rfl) cs _ R1.out HU.out (by rfl) HI38.out ?_)
 refine HE1.out.mono ?_
 rintro e w2 ⟨rfl, hb2⟩
 have H2 := Lib.hid (H1.out.below hb2)
 have C2 := Lib.hid (Cl.below CA.out hb2)
 have B2 := Lib.hid (BB.out _ hb2)
 have B22 := Lib.hid (bt B1.out hb2)
 clear hb2 R1 HE1 HEE H1 CA BB B1
 have c0 := H2.out.c.cell 0
 simp only [List.getElem?_cons_zero] at c0
 by_cases hlt : l.length < 256
 ·have g0 := H2.out.c.cell 0
  have f0 := H2.out.c.free 0
  have m0 := fun x : BelowOf w2 => x.cell (show w2.cell? ⟨pb, 0, none⟩ = _ from H2.out.c.cell 0)
  have m2 := fun x : BelowOf w2 => x.cell (show w2.cell? ⟨pa, 2, none⟩ = some (.int .i64 t) from (C2.out.cell 2).trans ht)
  simp only [List.getElem?_cons_zero] at g0 m0
  have ITM : Hid (Cl (w2.alloc (.cells #[.string ⟨data.toArray⟩, .int .i64 t] 74)) w2.heap.size [.string ⟨data.toArray⟩, .int .i64 t] 74) := Cl.new w2 _ _
  have hsl : Hid (Sl (w2.alloc (.cells #[.string ⟨data.toArray⟩, .int .i64 t] 74)).drew B 2 (.slice a l.length cap) l.length (itC l)) := H2.out.s.kept (S := fun _ => False) ((Keeps.alloc _ _ _).trans (Keeps.drew _ _)) (fun _ _ => id)
  have hsrc : Hid (SrcIs (w2.alloc (.cells #[.string ⟨data.toArray⟩, .int .i64 t] 74)).drew 2 (.slice (some ⟨w2.heap.size, 0, none⟩) 1 1) 1 [.string ⟨data.toArray⟩, .int .i64 t]) := ITM.out.src 2 1 1 rfl
  have hone : ∀ u ∈ [Value.string ⟨data.toArray⟩, .int .i64 t], u.oneCell' = true := by simp [Value.oneCell']
  have h63 : l.length + 1 ≤ maxLen := by unfold maxLen; omega
  have hby : (l.length + 1) * 24 ≤ 140737488355328 := by omega
  have hba : B ≤ ((w2.alloc (.cells #[.string ⟨data.toArray⟩, .int .i64 t] 74)).drew).heap.size := by have := B2.out.2; have h2 := World.size_alloc w2 (.cells #[.string ⟨data.toArray⟩, .int .i64 t] 74); show B ≤ (w2.alloc (.cells #[.string ⟨data.toArray⟩, .int .i64 t] 74)).heap.size; omega
  have HPO := Lib.hid (fun (w4 : World) (v' : Value) h1 h2 h3 => bag_put_post (x := (data, t)) (w4 := w4) (v' := v') H2.out hlt h1 h2 h3)
  have gA : (w2.alloc (.cells #[.string ⟨data.toArray⟩, .int .i64 t] 74)).cell? ⟨pb, 0, none⟩ = some (.slice a l.length cap) := (H2.out.c.alloc _).cell 0
  have d2 : w2.cell? ⟨pa, 2, none⟩ = some (.int .i64 t) := (C2.out.cell 2).trans ht
  have dA : (w2.alloc (.cells #[.string ⟨data.toArray⟩, .int .i64 t] 74)).cell? ⟨pa, 2, none⟩ = some (.int .i64 t) := ((C2.out.alloc _).cell 2).trans ht
  clear m0 m2 c0
  go_upto_region 8 with (fail)
  go_region_law (first
   | (refine step_append_sl _ (by rfl) _ _ _ (by rfl) B 74 i0 _ 2 24 Tryz.underlying63 hi hz0 hz1 hz2 rfl (by decide) (.slice a l.length cap) l.length (itC l) (by rfl) hsl.out (.slice (some ⟨w2.heap.size, 0, none⟩) 1 1) 1 [.string ⟨data.toArray⟩, .int .i64 t] (by rfl) hsrc.out hone h63 hby hba Nat.one_pos ?_; intro g4 off4 cap4 w4 hown4 hg4 hnew4; obtain ⟨hpost, hcell4, hfree4⟩ := HPO.out _ _ hown4 hg4 (hnew4.imp (fun e => e.symm) (fun e k hk => (Option.some.inj hk) ▸ e)); have HP := Lib.hid hpost; clear hpost hown4 hg4 hnew4))
  all_goals
   go_wp2
   go_ret
   unfold PutPost
   rw [if_pos hlt, if_pos hlt]
   exact ⟨rfl, _, HP.out.1, (BagK.of B22.out).trans HP.out.2⟩
 ·go_wp2
  go_ret
  unfold PutPost
  rw [if_neg hlt, if_neg hlt]
  exact ⟨rfl, _, H2.out, BagK.of B22.out⟩
end Go.Proofs.YtbljbdjmgogknaaGreatDoor
namespace Go.Proofs.YtbljbdjmgogknaaGreatDoor
open Go.RowKit
theorem itC_take (l : List Item) (k : Nat) : itC (l.take k) = (itC l).take (k * 2) := by
 induction l generalizing k with
 | nil => simp [itC]
 | cons x l ih =>
  cases k with
  | zero => simp [itC]
  | succ k =>
   have := ih k
   simp only [itC, List.take_succ_cons, List.flatMap_cons] at this ⊢
   rw [this, show (k + 1) * 2 = k * 2 + 1 + 1 by omega]
   rfl
theorem itC_drop (l : List Item) (k : Nat) : itC (l.drop k) = (itC l).drop (k * 2) := by
 induction l generalizing k with
 | nil => simp [itC]
 | cons x l ih =>
  cases k with
  | zero => simp [itC]
  | succ k =>
   have := ih k
   simp only [itC, List.drop_succ_cons, List.flatMap_cons] at this ⊢
   rw [this, show (k + 1) * 2 = k * 2 + 1 + 1 by omega]
   rfl
def DelPost (B : Nat) (l : List Item) (k : Nat) (lv : Value) (w : World) (e : Ending) (w' : World) : Prop :=
 ∃ v', e = .returned v' ∧ v'.ownBlock = lv.ownBlock ∧ Sl w' B 2 v' (l.eraseIdx k).length (itC (l.eraseIdx k)) ∧ Keeps (fun j => lv.ownBlock = some j) w w'
theorem run_clear_rows {P : Program} (w : World) (t e ty : TypeId) (z : Value) (ht : P.underlying t = some (.slice e)) (hv : ∀ w, (zeroValue e).run P w = .ok z w) (b o n c : Nat) (hn : 0 < n)
  (h1 : ∀ v ∈ (Builtin.zeroCells z.cells n).toList, v.oneCell' = true)
  (hc : ∀ j, j < (Builtin.zeroCells z.cells n).toList.length → (w.cell? ⟨b, o + j, none⟩).isSome = true) (hf : ∀ j, j < (Builtin.zeroCells z.cells n).toList.length → w.frozen? ⟨b, o + j, none⟩ = false) :
  (Builtin.clear_ #[t] ty #[.slice (some ⟨b, o, none⟩) n c]).run P w = .ok (.tuple #[]) (w.setCells b o (Builtin.zeroCells z.cells n).toList) := by
 have hst := run_storeCells_cells (P := P) b o (Builtin.zeroCells z.cells n).toList 0 w (by simpa using hc) (by simpa using hf) h1
 simp only [Nat.add_zero] at hst
 obtain ⟨m, rfl⟩ : ∃ m, n = m + 1 := ⟨n - 1, by omega⟩
 simp [Builtin.clear_, run_underlying ht, hv, hst]
theorem wpList_clear {P : Program} {w : World} {ops : Array Oper} {rest : List Oper} {o : Oper} {a : Act} {Q : Exit → Act → World → Prop} (hgd : o.guard = none) (x : Operand) (t : TypeId)
  (ho : o.op = .call { callee := .builtin .clear, args := #[x], argTypes := #[t] }) (v : Value) (hx : a.eval x = v) (w' : World) (hr : ∀ ty, (Builtin.clear_ #[t] ty #[v]).run P w = .ok (.tuple #[]) w')
  (h : wpList P ops Q rest (a.put o.dst (.tuple #[])) w') : wpList P ops Q (o :: rest) a w := by
 refine wpList_plain hgd fun K hK => ?_
 unfold Oper.wp execOp
 simp only [ho, resolve, invoke, builtin, Sem.run_bind, Sem.run_pure, Result.andThen_ok, List.map_toArray, List.map_cons, List.map_nil, hx, hr]
 exact hK _ _ h
theorem Keeps.cells {S : Nat → Prop} (w : World) (g o : Nat) (vs : List Value) (h : S g) : Keeps S w (w.setCells g o vs) := by
 induction vs generalizing o w with
 | nil => exact Keeps.refl _ _
 | cons v r ih => exact (Keeps.setCell S w ⟨g, o, none⟩ v h).trans (ih _ _)
set_option maxRecDepth 20000 in
set_option maxHeartbeats 3200000 in
theorem bagDelete (B : Nat) (l : List Item) (k : Nat) (hk : k < l.length) (hl : l.length ≤ 256) (lv : Value) (w : World) (h : Sl w B 2 lv l.length (itC l)) :
  Calls Tryz.prog 27 #[lv, .int .i64 k, .int .i64 (k + 1)] w (DelPost B l k lv w) := by
 obtain ⟨n, hnl⟩ : ∃ n, n = l.length := ⟨_, rfl⟩
 rw [← hnl] at hk hl h
 rcases h.2 with ⟨_, h0⟩ | ⟨g, off, cap, rfl, hB, hg, hn, hm, hr, ht⟩
 ·omega
 have hm' : cap ≤ 2 ^ 63 - 1 := hm
 obtain ⟨i0, hi, hz0, hz1, hz2⟩ := info_parts infoItem
 have hlen : (itC l).length = n * 2 := by rw [hnl]; exact itC_len l
 -- what is moved
 have hnews : ((itC l).drop ((k + 1) * 2)).length = (n - (k + 1)) * 2 := by rw [List.length_drop, hlen]; omega
 obtain ⟨A, hA, hcell⟩ : ∃ A : Addr, (if cap = k + 1 then some (⟨g, off, none⟩ : Addr) else some ⟨g, off + (k + 1) * 2, none⟩) = some A ∧ Hid (∀ j u, ((itC l).drop ((k + 1) * 2))[j]? = some u → w.drew.cell? (A.add j) = some u) := by
  by_cases hc : cap = k + 1
  ·refine ⟨⟨g, off, none⟩, by simp [hc], fun j u hu => ?_⟩
   have h0 : ((itC l).drop ((k + 1) * 2)).length = 0 := by rw [hnews]; omega
   rw [List.length_eq_zero_iff.1 h0] at hu
   simp at hu
  ·refine ⟨⟨g, off + (k + 1) * 2, none⟩, by simp [hc], fun j u hu => ?_⟩
   rw [Addr.add_mid]
   have := hr ((k + 1) * 2 + j) u (by rw [← hu, List.getElem?_drop])
   rw [show off + (k + 1) * 2 + j = off + ((k + 1) * 2 + j) by omega]
   exact this
 have hone : Hid (∀ u ∈ (itC l).drop ((k + 1) * 2), u.oneCell' = true) := fun u hu => itC_one l u (List.mem_of_mem_drop hu)
 have hspare : Hid (∀ j, j < ((itC l).drop ((k + 1) * 2)).length → (w.drew.cell? ⟨g, off + k * 2 + j, none⟩).isSome = true ∧ w.drew.frozen? ⟨g, off + k * 2 + j, none⟩ = false) := fun j hj => by
  rw [hnews] at hj
  have := ht (k * 2 + j) (by omega)
  rw [show off + (k * 2 + j) = off + k * 2 + j by omega] at this
  exact this
 have HN := Lib.hid hnews
 have HE : Hid (itC (l.eraseIdx k) = (itC l).take (k * 2) ++ (itC l).drop ((k + 1) * 2)) := by rw [Hid, List.eraseIdx_eq_take_drop_succ, itC_append, itC_take, itC_drop]
 have HEL : Hid ((l.eraseIdx k).length = n - 1) := by rw [Hid, hnl]; exact List.length_eraseIdx_of_lt (hnl ▸ hk)
 have W1 : ∃ w1, w.drew.setCells g (off + k * 2) ((itC l).drop ((k + 1) * 2)) = w1 ∧ Hid (w1.rangeAt g off (itC (l.eraseIdx k))) ∧ Hid (w1.there g off (cap * 2)) ∧ Hid (Keeps (fun j => j = g) w w1) := by
  refine ⟨_, rfl, ?_, World.there_setCells (w := w.drew) ht _ _ _, (Keeps.drew _ _).trans (Keeps.cells _ _ _ _ rfl)⟩
  rw [Hid, HE.out]
  have hlt : ((itC l).take (k * 2)).length = k * 2 := by rw [List.length_take, hlen]; omega
  refine rangeAt_append ?_ ?_
  ·refine World.rangeAt_setCells_apart (w := w.drew) (fun j v hv => ?_) _ _ _ (.inr (.inl (by rw [hlt]; omega)))
   have hj : j < k * 2 := by have := (List.getElem?_eq_some_iff.1 hv).1; rw [hlt] at this; exact this
   rw [List.getElem?_take_of_lt hj] at hv
   exact hr j v hv
  ·rw [hlt]
   exact World.rangeAt_setCells_same _ _ _ _ (fun j hj => hspare.out j hj)
 obtain ⟨w1, hw1, R1, T1, K1⟩ := W1
 have HW1 := Lib.hid hw1
 clear hw1
 have hzv := Tryz.zeroValue74
 have HNL := Lib.hid hnl
 clear hnl hlen hr ht h hnews
 generalize hnw : (itC l).drop ((k + 1) * 2) = news at *
 clear hnw
 have hkk : ((k : Int) == (k : Int) + 1) = false := by rw [beq_eq_false_iff_ne]; omega
 have hkn : (k : Int) + 1 ≤ (n : Int) := by omega
 have hk0 : (0 : Int) ≤ (k : Int) + 1 := by omega
 have hki : (k : Int) ≤ (n : Int) := by omega
 have hkc : k ≤ cap := by omega
 have hne : n ≠ k := by omega
 have hne2 : ¬ n = k := by omega
 have hp2 : ((k : Int) + 1).toNat = k + 1 := by omega
 go_enter Tryz.func27, Tryz.ntmps27
 go_upto_region 5 with (fail)
 go_region_law (first
  | (refine step_append_room rfl (.tmp 22) (.tmp 25) 63 rfl 74 i0 2 Tryz.underlying63 hi hz1 g off k cap (by simp [Act.eval, Act.put]) A (n - (k + 1)) (cap - (k + 1)) news (by simp [Act.eval, Act.put]) HN.out hcell.out hone.out (by omega) hspare.out ?_))
 rename_i K hK
 refine hK _ _ ?_
 clear hK K
 simp only [Act.put, List.getElem_toArray, List.getElem_cons_succ, List.getElem_cons_zero]
 rw [HW1.out, show k + (n - (k + 1)) = n - 1 by omega]
 clear HW1 hcell hone hspare HN hA
 have hm1 : ((n - 1 : Nat) : Int) ≤ (n : Int) := by omega
 have hm2 : ((n - 1 : Nat) : Int) ≤ (cap : Int) := by omega
 have hm3 : n - 1 ≤ n := by omega
 have hm4 : n - (n - 1) = 1 := by omega
 have hm5 : cap ≠ n - 1 := by omega
 have hm6 : ¬ cap = n - 1 := by omega
 have hm7 : n ≠ n - 1 := by omega
 have hzl : (Builtin.zeroCells (Value.agg #[Value.string { data := #[] }, Value.int IntKind.i64 0]).cells 1).toList = [Value.string { data := #[] }, Value.int IntKind.i64 0] := by kernel_rfl
 have hcl := run_clear_rows (P := Tryz.prog) w1 63 74 63 (Value.agg #[Value.string { data := #[] }, Value.int IntKind.i64 0]) Tryz.underlying63 hzv g (off + (n - 1) * 2) 1 (cap - (n - 1)) Nat.one_pos (by rw [hzl]; simp [Value.oneCell']) (fun j hj => by
  rw [hzl] at hj
  have := (T1.out ((n - 1) * 2 + j) (by simp at hj; omega)).1
  rw [← Nat.add_assoc] at this
  exact this) (fun j hj => by
  rw [hzl] at hj
  have := (T1.out ((n - 1) * 2 + j) (by simp at hj; omega)).2
  rw [← Nat.add_assoc] at this
  exact this)
 have HCL := Lib.hid hcl
 clear hcl hzv
 go_wp2_with (first
  | (refine wpList_clear rfl _ _ rfl _ rfl _ (fun _ => HCL.out) ?_))
 go_ret
 have hown : (Value.slice (some ⟨g, off, none⟩) n cap).ownBlock = some g := by
  simp only [Value.ownBlock]
 generalize hzz : (Builtin.zeroCells #[Value.string { data := #[] }, Value.int IntKind.i64 0] 1).toList = zz
 have K2 : Keeps (fun j => j = g) w (w1.setCells g (off + (n - 1) * 2) zz) := K1.out.trans (Keeps.cells _ _ _ _ rfl)
 refine ⟨.slice (some ⟨g, off, none⟩) (n - 1) cap, rfl, ?_, ⟨itC_len _, .inr ⟨g, off, cap, by rw [HEL.out], hB, Nat.lt_of_lt_of_le hg K2.size, by rw [HEL.out]; omega, hm, ?_, World.there_setCells (w := w1) T1.out _ _ _⟩⟩, ⟨K2.os, K2.tape, K2.output, K2.size, fun i hi hs => K2.block i hi (fun e => hs (by subst e; exact hown))⟩⟩
 ·rfl
 ·refine World.rangeAt_setCells_apart (w := w1) R1.out _ _ _ (.inr (.inl ?_))
  rw [itC_len, HEL.out]
  omega
end Go.Proofs.YtbljbdjmgogknaaGreatDoor
