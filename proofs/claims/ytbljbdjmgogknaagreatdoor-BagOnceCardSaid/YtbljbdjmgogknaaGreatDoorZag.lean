/-
  Walkb / Wf3 / Ast / Frma / Wr3: texts of one proof, one behind the other.
  Conditions: none of its own.
-/
import Derived.Test.YtbljbdjmgogknaaGreatDoorZab
import Derived.Test.YtbljbdjmgogknaaGreatDoorZad
import Derived.Test.YtbljbdjmgogknaaGreatDoorZaf
import Derived.Deep.RegionWith
import Derived.Deep.AppendLies
/-
  The walks of Put and Next, the program's and the reference's.
  Conditions: texts of at most the model's longest length (Next), a bound that leaves room for the frame (Put).
-/
set_option linter.unusedVariables false
set_option linter.unusedSimpArgs false
namespace Go.Proofs.YtbljbdjmgogknaaGreatDoor
open Go.RowKit

attribute [local go_sem] Crc.four_length
theorem ne_no {a b : BitVec 32} (h : a = b) : ((a.toNat : Int) != (b.toNat : Int)) = false := by rw [h]; simp
theorem ne_yes {a b : BitVec 32} (h : a ≠ b) : ((a.toNat : Int) != (b.toNat : Int)) = true := by
  rw [bne_iff_ne]
  intro e
  exact h (BitVec.eq_of_toNat_eq (by omega))

theorem four_int (n : Int) (w : World) (h0 : 0 ≤ n) (h1 : n < 4294967296) :
    Calls Tryz.prog 77 #[.int .u32 n] w fun e w' => e = .returned (.string ⟨(Crc.four (BitVec.ofNat 32 n.toNat)).toArray⟩) ∧ Below w.heap.size w w' := by
  have e : n = ((BitVec.ofNat 32 n.toNat).toNat : Int) := by rw [BitVec.toNat_ofNat]; omega
  have h := four_any (BitVec.ofNat 32 n.toNat) w
  rwa [← e] at h
set_option maxHeartbeats 400000 in
theorem put_any (l : List UInt8) (w : World) (hs : l.length ≤ 16384) :
    Calls Tryz.prog 45 #[.string ⟨l.toArray⟩] w fun e w' => e = .returned (.tuple #[.string ⟨(Frm.put l).toArray⟩, .int .i64 0]) ∧ Below w.heap.size w w' := by
  go_enter Tryz.func45, Tryz.ntmps45
  go_wp2_with fail
  refine (four_int _ _ (by omega) (by omega)).mono ?_
  rintro e w1 ⟨rfl, hb1⟩
  have HB1 := Lib.hid hb1
  clear hb1
  go_wp2_with fail
  refine (sum_any _ _ (by unfold maxLen; omega)).mono ?_
  rintro e w2 ⟨rfl, hb2⟩
  have HB2 := Lib.hid hb2
  clear hb2
  go_wp2_with fail
  refine (four_any _ _).mono ?_
  rintro e w3 ⟨rfl, hb3⟩
  have HB3 := Lib.hid hb3
  clear hb3
  go_wp2
  go_ret2
  exact ⟨rfl, bt (bt HB1.out HB2.out) HB3.out⟩

set_option maxHeartbeats 400000 in
theorem put_long (l : List UInt8) (w : World) (hs : 16384 < l.length) (hm : l.length ≤ maxLen) :
    Calls Tryz.prog 45 #[.string ⟨l.toArray⟩] w fun e w' => e = .returned (.tuple #[.string ⟨#[]⟩, .int .i64 4]) ∧ w = w' := by
  unfold maxLen at hm
  go_enter Tryz.func45, Tryz.ntmps45
  go_wp2
  go_ret2
  exact ⟨rfl, rfl⟩

/-- Next: the place lies outside. -/
theorem next_arg (l : List UInt8) (k : Int) (w : World) (h : k < 0 ∨ (l.length : Int) < k) (hm : l.length ≤ maxLen) :
    Calls Tryz.prog 56 #[.string ⟨l.toArray⟩, .int .i64 k] w fun e w' => e = .returned (.tuple #[.string ⟨#[]⟩, .int .i64 0, .int .i64 1]) ∧ w = w' := by
  unfold maxLen at hm
  by_cases h0 : k < 0
  · go_enter Tryz.func56, Tryz.ntmps56
    go_wp2
    go_ret3
    exact ⟨rfl, rfl⟩
  · have h1 : (l.length : Int) < k := by omega
    clear h
    go_enter Tryz.func56, Tryz.ntmps56
    go_wp2
    go_ret3
    exact ⟨rfl, rfl⟩
set_option maxHeartbeats 400000 in
theorem next_short (l : List UInt8) (k : Nat) (w : World) (h : k ≤ l.length) (h8 : l.length - k < 8) (hm : l.length ≤ maxLen) :
    Calls Tryz.prog 56 #[.string ⟨l.toArray⟩, .int .i64 k] w fun e w' => e = .returned (.tuple #[.string ⟨#[]⟩, .int .i64 0, .int .i64 5]) ∧ w = w' := by
  unfold maxLen at hm
  have hs := str_from (P := Tryz.prog) l k k rfl h 9 .i64 Tryz.underlying9
  have hl : (l.drop k).length < 8 := by simp; omega
  generalize l.drop k = r at hs hl
  go_enter Tryz.func56, Tryz.ntmps56
  go_wp2
  go_ret3
  exact ⟨rfl, rfl⟩
set_option maxHeartbeats 400000 in
theorem next_rest (l : List UInt8) (k : Nat) (w : World) (h : k ≤ l.length) (h8 : 8 ≤ l.length - k) (hm : l.length ≤ maxLen) :
    Calls Tryz.prog 56 #[.string ⟨l.toArray⟩, .int .i64 k] w fun e w' => e = .returned (.tuple #[.string ⟨(Frm.next l k).1.toArray⟩, .int .i64 (Frm.next l k).2.1, .int .i64 (Frm.next l k).2.2]) ∧ Below w.heap.size w w' := by
  unfold maxLen at hm
  have hs := str_from (P := Tryz.prog) l k k rfl h 9 .i64 Tryz.underlying9
  have hl : 8 ≤ (l.drop k).length := by simp; omega
  have hl2 : (l.drop k).length + k ≤ 9223372036854775807 := by simp; omega
  have H1 := Lib.hid (@Frm.next_long l k h h8)
  have H2 := Lib.hid (@Frm.next_short2 l k h h8)
  have H3 := Lib.hid (@Frm.next_sum l k h h8)
  have H4 := Lib.hid (@Frm.next_ok l k h h8)
  have hlen : l.length - k - 8 = (l.drop k).length - 8 := by simp
  rw [hlen] at H2 H3 H4
  clear hlen
  generalize l.drop k = r at hs hl hl2 H1 H2 H3 H4
  generalize Frm.next l k = q at H1 H2 H3 H4
  obtain ⟨q1, q2, q3⟩ := q
  have hn := (Crc.num r).isLt
  go_enter Tryz.func56, Tryz.ntmps56
  go_wp2_with fail
  refine (number_any _ _ (by omega) (by unfold maxLen; omega)).mono ?_
  rintro e w1 ⟨rfl, rfl⟩
  by_cases c1 : 16384 < (Crc.num r).toNat
  · have e1 := H1.out c1
    injection e1 with e1 e2
    injection e2 with e2 e3
    subst e1 e2 e3
    go_wp2
    go_ret3
    exact ⟨rfl, Below.refl _ _⟩
  · by_cases c2 : r.length - 8 < (Crc.num r).toNat
    · have e1 := H2.out (by omega) c2
      injection e1 with e1 e2
      injection e2 with e2 e3
      subst e1 e2 e3
      go_wp2
      go_ret3
      exact ⟨rfl, Below.refl _ _⟩
    · have hc := str_cut (P := Tryz.prog) r 8 (8 + (Crc.num r).toNat) 8 (8 + (Crc.num r).toNat) .i64 .u32 rfl (by omega) (by omega) (by omega) 9 Tryz.underlying9
      have h4 := str_from (P := Tryz.prog) r 4 4 rfl (by omega) 9 .i64 Tryz.underlying9
      have hb : ((r.take (8 + (Crc.num r).toNat)).drop 8).length ≤ 16384 := by simp; omega
      have h4l : 4 ≤ (r.drop 4).length := by simp; omega
      have h4m : (r.drop 4).length ≤ 9223372036854775807 := by simp; omega
      generalize (r.take (8 + (Crc.num r).toNat)).drop 8 = b at hc hb H3 H4
      generalize r.drop 4 = r4 at h4 h4l h4m H3 H4
      by_cases c3 : Crc.sum b = Crc.num r4
      · have e1 := H4.out (by omega) (by omega) c3
        injection e1 with e1 e2
        injection e2 with e2 e3
        subst e1 e2 e3
        have ht := ne_no c3
        clear hn c3
        go_wp2_with fail
        go_region_with (first | (go_at_call 78; refine (sum_any _ _ (by unfold maxLen; omega)).mono ?_; rintro e w2 ⟨rfl, hb2⟩) | (go_at_call 90; refine (number_any _ _ h4l (by unfold maxLen; omega)).mono ?_; rintro e w3 ⟨rfl, rfl⟩))
        all_goals
          have HB2 := Lib.hid hb2
          clear hb2
          go_wp2
          go_ret3
          exact ⟨rfl, bd HB2.out⟩
      · have e1 := H3.out (by omega) (by omega) c3
        injection e1 with e1 e2
        injection e2 with e2 e3
        subst e1 e2 e3
        have ht := ne_yes c3
        clear hn c3
        go_wp2_with fail
        go_region_with (first | (go_at_call 78; refine (sum_any _ _ (by unfold maxLen; omega)).mono ?_; rintro e w2 ⟨rfl, hb2⟩) | (go_at_call 90; refine (number_any _ _ h4l (by unfold maxLen; omega)).mono ?_; rintro e w3 ⟨rfl, rfl⟩))
        all_goals
          have HB2 := Lib.hid hb2
          clear hb2
          go_wp2
          go_ret3
          exact ⟨rfl, bd HB2.out⟩

/-- Next, whatever the place. -/
theorem next_any (l : List UInt8) (k : Int) (w : World) (hm : l.length ≤ maxLen) :
    Calls Tryz.prog 56 #[.string ⟨l.toArray⟩, .int .i64 k] w fun e w' => e = .returned (.tuple #[.string ⟨(Frm.next l k).1.toArray⟩, .int .i64 (Frm.next l k).2.1, .int .i64 (Frm.next l k).2.2]) ∧ Below w.heap.size w w' := by
  by_cases h : k < 0 ∨ (l.length : Int) < k
  · rw [Frm.next_arg h]
    exact (next_arg l k w h hm).mono fun e w' ⟨he, hw⟩ => ⟨he, hw ▸ Below.refl _ _⟩
  · obtain ⟨n, rfl⟩ := Int.eq_ofNat_of_zero_le (show 0 ≤ k by omega)
    by_cases h8 : l.length - n < 8
    · rw [Frm.next_short (by omega) h8]
      exact (next_short l n w (by omega) h8 hm).mono fun e w' ⟨he, hw⟩ => ⟨he, hw ▸ Below.refl _ _⟩
    · exact next_rest l n w (by omega) (by omega) hm

/- The reference's. -/
end Go.Proofs.YtbljbdjmgogknaaGreatDoor
/-
  Wire: numbers' bytes; the fields of a message of kind 3, its bytes (printed by wip/gen/mkwfields.py).
  Conditions: the numbers are such as a message's; the library's variables hold what they are laid with.
-/
set_option linter.unusedVariables false
set_option linter.unusedSimpArgs false
namespace Go.Proofs.YtbljbdjmgogknaaGreatDoor
open Go.RowKit

def WStrs (w : World) (ls : List (List UInt8)) (e : Ending) (w' : World) : Prop := ∃ v, e = .returned v ∧ w'.ownsRow w.heap.size 9 1 v ls.length (sv ls) ∧ Below w.heap.size w w'
theorem sv_append (a b : List (List UInt8)) : sv (a ++ b) = sv a ++ sv b := by simp [sv]
theorem sv_len (a : List (List UInt8)) : (sv a).length = a.length := by simp [sv]
theorem ownsRow_weaken {w : World} {b b' : Nat} {e : TypeId} {size : Nat} {v : Value} {n : Nat} {xs : List Value} (h : w.ownsRow b e size v n xs) (hb : b' ≤ b) : w.ownsRow b' e size v n xs := by
  refine ⟨h.1, ?_⟩
  rcases h.2 with h2 | ⟨g, cap, cur, e1, hB, r⟩
  · exact .inl h2
  · exact .inr ⟨g, cap, cur, e1, Nat.le_trans hb hB, r⟩
set_option maxRecDepth 20000 in
set_option maxHeartbeats 1600000 in
theorem wints_any (l : List Int) (hl : l.length ≤ 100000) (hr : ∀ x ∈ l, Bd.inR x) (v : Value) (w : World) (h : Ints w v l) (hw : Lw w) :
    Calls Tryz.prog 80 #[v] w (WStrs w (l.map Bd.bInt)) := by
  have HZ := Lib.hid h
  have HW := Lib.hid hw
  have HR := Lib.hid hr
  obtain ⟨a, cap, rfl⟩ := h.form
  obtain ⟨i0, hi, hz0, hz1, hz2⟩ := info_parts cinfoStr
  clear h hw hr
  go_enter Tryz.func80, Tryz.ntmps80
  go_wp2
  go_loopw [2, 7] (fun tv ti wr => ∃ k : Nat, ti = .int .i64 k ∧ k ≤ l.length ∧ wr.ownsRow w.heap.size 9 1 tv k (sv ((l.map Bd.bInt).take k)) ∧ Below w.heap.size w wr) (fun _ ti _ => l.length - (intOf ti).toNat)
  case atStart => exact ⟨0, rfl, by omega, ⟨by simp [sv], .inl ⟨rfl, rfl⟩⟩, Below.refl _ _⟩
  case round =>
    obtain ⟨k, rfl, hk, ho, hb⟩ := hrel
    have HO := Lib.hid ho
    have HB := Lib.hid hb
    clear ho hb
    by_cases hlt : k < l.length
    · obtain ⟨x, hx⟩ : ∃ x, l[k]? = some x := ⟨l[k], by simp [hlt]⟩
      have HJ := Lib.hid (beadInt_any x (HR.out x (List.mem_of_getElem? hx)) wr (HW.out.below HB.out))
      have HT : Hid (sv ((l.map Bd.bInt).take (k + 1)) = sv ((l.map Bd.bInt).take k) ++ sv [Bd.bInt x]) := by
        rw [Hid, ← sv_append]
        congr 1
        rw [List.take_succ_eq_append_getElem (by simpa using hlt)]
        obtain ⟨_, rfl⟩ := List.getElem?_eq_some_iff.1 hx
        simp
      obtain ⟨g, off, cap', he, hg, p0⟩ := HZ.out.get HB.out hx
      injection he with he1 he2 he3
      subst he1 he3
      clear he2
      generalize Bd.bInt x = bx at *
      go_wp2_with fail
      refine HJ.out.mono ?_
      rintro e w1 ⟨rfl, hb1⟩
      have HO1 := Lib.hid (ownsRow_below HO.out hb1)
      have HB1 := Lib.hid (bt HB.out hb1)
      have hsz := HB1.out.size
      clear hb1 HJ HO p0
      go_wp2_with (at_builtin; refine wpList_append_own _ rfl _ _ 93 rfl w.heap.size 9 i0 (.string ⟨#[]⟩) 1 16 Tryz.underlying93 hi hz0 hz1 hz2 rfl (by decide) _ _ _ rfl (World.ownsRow.alloc HO1.out _) ⟨w1.heap.size, 0, none⟩ 1 1 [.string ⟨bx.toArray⟩] rfl rfl (cell_one_new _ _ _) ?_ ?_ ?_ ?_ ?_)
      · simp [Value.oneCell']
      · unfold maxLen; omega
      · omega
      · simp; omega
      intro v' w2 hown2 hg2 _
      have HN : Hid (w2.ownsRow w.heap.size 9 1 v' (k + 1) (sv ((l.map Bd.bInt).take (k + 1)))) := by rw [Hid, HT.out]; exact hown2
      have HB2 : Hid (Below w.heap.size w w2) := (HB1.out.alloc hsz _).grown hg2 (by simp; omega) (fun kk hkk => (HO1.out.lt kk hkk).1)
      clear hown2 hg2
      go_wp2
      go_roundw
      case rel => exact ⟨k + 1, by go_num, by omega, HN.out, HB2.out⟩
      case measure => simp [intOf]; omega
    · obtain rfl : k = l.length := by omega
      have h9 := HO.out
      rw [List.take_of_length_le (by simp), show l.length = (l.map Bd.bInt).length by simp] at h9
      have HF := Lib.hid h9
      clear h9
      go_wp2
      go_ret
      exact ⟨_, rfl, HF.out, HB.out⟩
theorem ints3_cl {W : World} {g : Nat} {a b c : Int} {t : TypeId} (C : Cl W g [.int .i64 a, .int .i64 b, .int .i64 c] t) : Ints W (.slice (some ⟨g, 0, none⟩) 3 3) [a, b, c] := by
  refine ⟨_, 3, rfl, fun i hi => ⟨g, 0, rfl, C.lt, ?_⟩⟩
  rw [Nat.zero_add, Cl.cell C i]
  rcases (show i = 0 ∨ i = 1 ∨ i = 2 by simp at hi; omega) with rfl | rfl | rfl <;> rfl
theorem WStrs.strs {w w' : World} {ls : List (List UInt8)} {v : Value} (h : w'.ownsRow w.heap.size 9 1 v ls.length (sv ls)) : Strs w' v ls := strs_own h
def beatF (m : Wi.Msg) : List (List UInt8) := [Bd.bInt m.kind, Bd.bInt m.frm, Bd.bInt m.to, Bd.bInt m.life]
set_option maxRecDepth 20000 in
set_option maxHeartbeats 6400000 in
theorem fields_k3 (m : Wi.Msg) (v : MsgV) (w : World) (h : MsgAt w m v) (ok : MsgOk m) (hk : m.kind = 3) (hw : Lw w) :
    Calls Tryz.prog 47 #[msgV m v] w (WStrs w (beatF m)) := by
  have HW := Lib.hid hw
  have hn := ok.n
  simp only [List.mem_cons, List.not_mem_nil, or_false, forall_eq_or_imp, forall_eq] at hn
  obtain ⟨n0, n1, n2, n3, n4, n5, n6, n7, _⟩ := hn
  obtain ⟨i0, hi, hz0, hz1, hz2⟩ := info_parts cinfoStr
  obtain ⟨s0, c0, hh0⟩ := h.chain.form
  obtain ⟨s1, c1, hh1⟩ := h.lives.form
  obtain ⟨s2, c2, hh2⟩ := h.brecs.form
  obtain ⟨s3, c3, hh3⟩ := h.table.form
  obtain ⟨s4, c4, hh4⟩ := h.qrecs.form
  obtain ⟨s5, c5, hh5⟩ := h.parts.form
  obtain ⟨s6, c6, hh6⟩ := h.arecs.form
  obtain ⟨v0, v1, v2, v3, v4, v5, v6⟩ := v
  dsimp only at hh0 hh1 hh2 hh3 hh4 hh5 hh6
  subst hh0 hh1 hh2 hh3 hh4 hh5 hh6
  obtain ⟨x_kind, x_frm, x_to, x_part, x_ep, x_off, x_high, x_life, x_pep, x_chain, x_learner, x_lives, x_batch, x_table, x_req, x_resp⟩ := m
  dsimp only at *
  subst hk
  clear h ok hw n3 n4 n5 n6
  have HFM : Hid (beatF ⟨3, x_frm, x_to, x_part, x_ep, x_off, x_high, x_life, x_pep, x_chain, x_learner, x_lives, x_batch, x_table, x_req, x_resp⟩ = [3, x_frm, x_to].map Bd.bInt ++ [Bd.bInt x_life]) := rfl
  rw [HFM.out]
  unfold msgV msgC
  dsimp only
  go_enter Tryz.func47, Tryz.ntmps47
  obtain ⟨w1, hw1, CA, B1⟩ := oneBox (w := w) (.int .i64 3 :: .int .i64 x_frm :: .int .i64 x_to :: .int .i64 x_part :: .int .i64 x_ep :: .int .i64 x_off :: .int .i64 x_high :: .int .i64 x_life :: .int .i64 x_pep :: .slice s0 x_chain.length c0 :: .int .i64 x_learner :: .slice s1 x_lives.length c1 :: .int .i64 x_batch.base :: .int .i64 x_batch.count :: .int .i64 x_batch.prod :: .int .i64 x_batch.seq :: .int .i64 x_batch.time :: .slice s2 x_batch.recs.length c2 :: .slice s3 x_table.length c3 :: .int .i64 x_req.client :: .int .i64 x_req.n :: .int .i64 x_req.kind :: .int .i64 x_req.part :: .int .i64 x_req.seq :: .int .i64 x_req.off :: .int .i64 x_req.max :: .int .i64 x_req.gen :: .string ⟨x_req.group.toArray⟩ :: .string ⟨x_req.member.toArray⟩ :: .slice s4 x_req.recs.length c4 :: .int .i64 x_resp.client :: .int .i64 x_resp.n :: .int .i64 x_resp.code :: .int .i64 x_resp.off :: .int .i64 x_resp.high :: .int .i64 x_resp.gen :: .slice s5 x_resp.parts.length c5 :: .slice s6 x_resp.recs.length c6 :: []) 44
  have HW1 := Lib.hid hw1
  clear hw1
  go_upto_region 1 with (fail)
  first | rw [HW1.out] | skip
  clear HW1
  have hpa := CA.out.lt
  have HI : Hid (∀ W, Below w1.heap.size w1 W → w.heap.size ≤ W.heap.size) := fun W h => Nat.le_trans B1.out.size h.size
  have BW : Hid (∀ W, Below w1.heap.size w1 W → Below w.heap.size w W) := fun W h => bt B1.out h
  have LW1 := Lib.hid (HW.out.below B1.out)
  have HSW : Hid (w.heap.size ≤ w1.heap.size) := B1.out.size
  obtain ⟨pa, hpa2⟩ : ∃ pa, pa = w.heap.size := ⟨_, rfl⟩
  rw [← hpa2] at CA ⊢
  have HPA := Lib.hid hpa2
  clear hpa2 hpa
  have a0 := CA.out.cell 0
  have a1 := CA.out.cell 1
  have a2 := CA.out.cell 2
  simp only [List.getElem?_cons_zero, List.getElem?_cons_succ] at a0 a1 a2
  have C3 : Hid (Cl (w1.alloc (.cells #[.int .i64 3, .int .i64 x_frm, .int .i64 x_to] 3)) w1.heap.size [.int .i64 3, .int .i64 x_frm, .int .i64 x_to] 3) := Cl.new w1 _ _
  have B3 : Hid (Below w1.heap.size w1 (w1.alloc (.cells #[.int .i64 3, .int .i64 x_frm, .int .i64 x_to] 3))) := (Below.refl _ _).alloc (Nat.le_refl _) _
  have HC := Lib.hid (wints_any [3, x_frm, x_to] (by simp) (by simp only [List.mem_cons, List.not_mem_nil, or_false, forall_eq_or_imp, forall_eq]; exact ⟨n0, n1, n2⟩) _ _ (ints3_cl C3.out) (LW1.out.below B3.out))
  go_wp2_with fail
  refine HC.out.mono ?_
  rintro e w2 ⟨v2, rfl, ho2, hb2⟩
  have B2 := Lib.hid (bt B3.out hb2)
  have HO2 := Lib.hid ho2
  have hz2' : Hid (w1.heap.size + 1 ≤ w2.heap.size) := by have := hb2.size; rw [World.size_alloc] at this; exact this
  have HBA : Hid (w.heap.size ≤ (w1.alloc (.cells #[.int .i64 3, .int .i64 x_frm, .int .i64 x_to] 3)).heap.size) := by have := HSW.out; rw [Hid, World.size_alloc]; omega
  clear hb2 ho2 a0 a1 a2 HC C3 B3
  have CA2 := Lib.hid (CA.out.below B2.out)
  have a0 := CA2.out.cell 0
  have a7 := CA2.out.cell 7
  simp only [List.getElem?_cons_zero, List.getElem?_cons_succ] at a0 a7
  have LW2 := Lib.hid (LW1.out.below B2.out)
  have HJ := Lib.hid (beadInt_any x_life n7 w2 LW2.out)
  generalize hbl : Bd.bInt x_life = bl at *
  clear hbl
  have HOB : Hid (w2.ownsRow w.heap.size 9 1 v2 ([3, x_frm, x_to].map Bd.bInt).length (sv ([3, x_frm, x_to].map Bd.bInt))) := ownsRow_weaken HO2.out HBA.out
  go_wp2_with fail
  refine HJ.out.mono ?_
  rintro e w3 ⟨rfl, hb3⟩
  have HO3 := Lib.hid (ownsRow_below HOB.out hb3)
  have B3 := Lib.hid (bt B2.out hb3)
  have hs3 := HI.out _ B3.out
  clear hb3 HJ a0 a7 CA2 HO2 HOB
  go_wp2_with (at_builtin; refine wpList_append_own _ rfl _ _ 93 rfl w.heap.size 9 i0 (.string ⟨#[]⟩) 1 16 Tryz.underlying93 hi hz0 hz1 hz2 rfl (by decide) _ _ _ rfl (World.ownsRow.alloc HO3.out _) ⟨w3.heap.size, 0, none⟩ 1 1 [.string ⟨bl.toArray⟩] rfl rfl (cell_one_new _ _ _) ?_ ?_ ?_ ?_ ?_)
  · simp [Value.oneCell']
  · unfold maxLen; simp
  · simp
  · simp; omega
  intro v' w4 hown4 hg4 _
  have HF : Hid (w4.ownsRow w.heap.size 9 1 v' ([3, x_frm, x_to].map Bd.bInt ++ [bl]).length (sv ([3, x_frm, x_to].map Bd.bInt ++ [bl]))) := by rw [Hid, sv_append]; exact hown4
  have B4 : Hid (Below w.heap.size w w4) := ((BW.out _ B3.out).alloc hs3 _).grown hg4 (by simp; omega) (fun kk hkk => (HO3.out.lt kk hkk).1)
  clear hown4 hg4
  go_wp2
  go_ret
  exact ⟨_, rfl, HF.out, B4.out⟩
/-- The bytes of a message of kind 3, without their frame. -/
def beatB (m : Wi.Msg) : List UInt8 := 108 :: ((beatF m).flatten ++ [101])
set_option maxRecDepth 20000 in
set_option maxHeartbeats 6400000 in
theorem encode_k3 (m : Wi.Msg) (v : MsgV) (w : World) (h : MsgAt w m v) (ok : MsgOk m) (hk : m.kind = 3) (hf : Wi.first m = true) (hlen : (beatB m).length ≤ 16384) (hw : Lw w) :
    Calls Tryz.prog 23 #[msgV m v] w fun e w' => e = .returned (.tuple #[.string ⟨(Frm.put (beatB m)).toArray⟩, .int .i64 0]) ∧ Below w.heap.size w w' := by
  have HW := Lib.hid hw
  have HM := Lib.hid h
  have HO := Lib.hid ok
  have HF := Lib.hid hf
  have HLN := Lib.hid hlen
  obtain ⟨s0, c0, hh0⟩ := h.chain.form
  obtain ⟨s1, c1, hh1⟩ := h.lives.form
  obtain ⟨s2, c2, hh2⟩ := h.brecs.form
  obtain ⟨s3, c3, hh3⟩ := h.table.form
  obtain ⟨s4, c4, hh4⟩ := h.qrecs.form
  obtain ⟨s5, c5, hh5⟩ := h.parts.form
  obtain ⟨s6, c6, hh6⟩ := h.arecs.form
  obtain ⟨v0, v1, v2, v3, v4, v5, v6⟩ := v
  dsimp only at hh0 hh1 hh2 hh3 hh4 hh5 hh6
  subst hh0 hh1 hh2 hh3 hh4 hh5 hh6
  obtain ⟨x_kind, x_frm, x_to, x_part, x_ep, x_off, x_high, x_life, x_pep, x_chain, x_learner, x_lives, x_batch, x_table, x_req, x_resp⟩ := m
  dsimp only at *
  subst hk
  clear h ok hw hf hlen
  have HI38 := Lib.hid (show (Tryz.prog.info? 44).map (·.size) = some ((.int .i64 3 :: .int .i64 x_frm :: .int .i64 x_to :: .int .i64 x_part :: .int .i64 x_ep :: .int .i64 x_off :: .int .i64 x_high :: .int .i64 x_life :: .int .i64 x_pep :: .slice s0 x_chain.length c0 :: .int .i64 x_learner :: .slice s1 x_lives.length c1 :: .int .i64 x_batch.base :: .int .i64 x_batch.count :: .int .i64 x_batch.prod :: .int .i64 x_batch.seq :: .int .i64 x_batch.time :: .slice s2 x_batch.recs.length c2 :: .slice s3 x_table.length c3 :: .int .i64 x_req.client :: .int .i64 x_req.n :: .int .i64 x_req.kind :: .int .i64 x_req.part :: .int .i64 x_req.seq :: .int .i64 x_req.off :: .int .i64 x_req.max :: .int .i64 x_req.gen :: .string ⟨x_req.group.toArray⟩ :: .string ⟨x_req.member.toArray⟩ :: .slice s4 x_req.recs.length c4 :: .int .i64 x_resp.client :: .int .i64 x_resp.n :: .int .i64 x_resp.code :: .int .i64 x_resp.off :: .int .i64 x_resp.high :: .int .i64 x_resp.gen :: .slice s5 x_resp.parts.length c5 :: .slice s6 x_resp.recs.length c6 :: []) : List Value).length by kernel_rfl)
  have HU := Lib.hid Tryz.underlying44
  have HG := Lib.hid (fun (W : World) (hW : Below w.heap.size w W) => good_k3 ⟨3, x_frm, x_to, x_part, x_ep, x_off, x_high, x_life, x_pep, x_chain, x_learner, x_lives, x_batch, x_table, x_req, x_resp⟩ ⟨.slice s0 x_chain.length c0, .slice s1 x_lives.length c1, .slice s2 x_batch.recs.length c2, .slice s3 x_table.length c3, .slice s4 x_req.recs.length c4, .slice s5 x_resp.parts.length c5, .slice s6 x_resp.recs.length c6⟩ W (HM.out.kept hW) HO.out rfl HF.out)
  have HFD := Lib.hid (fun (W : World) (hW : Below w.heap.size w W) => fields_k3 ⟨3, x_frm, x_to, x_part, x_ep, x_off, x_high, x_life, x_pep, x_chain, x_learner, x_lives, x_batch, x_table, x_req, x_resp⟩ ⟨.slice s0 x_chain.length c0, .slice s1 x_lives.length c1, .slice s2 x_batch.recs.length c2, .slice s3 x_table.length c3, .slice s4 x_req.recs.length c4, .slice s5 x_resp.parts.length c5, .slice s6 x_resp.recs.length c6⟩ W (HM.out.kept hW) HO.out rfl (HW.out.below hW))
  have HBL : Hid (∀ W v, Strs W v (beatF ⟨3, x_frm, x_to, x_part, x_ep, x_off, x_high, x_life, x_pep, x_chain, x_learner, x_lives, x_batch, x_table, x_req, x_resp⟩) → Calls Tryz.prog 46 #[v] W fun e w' => e = .returned (.string ⟨(beatB ⟨3, x_frm, x_to, x_part, x_ep, x_off, x_high, x_life, x_pep, x_chain, x_learner, x_lives, x_batch, x_table, x_req, x_resp⟩).toArray⟩) ∧ Below W.heap.size W w') := fun W v hv => by
    have := HLN.out
    unfold beatB at this
    simp only [List.length_cons, List.length_append] at this
    exact beadList_any v _ W hv (by simp [beatF]) (by omega)
  have HPT := Lib.hid (fun (W : World) => put_any (beatB ⟨3, x_frm, x_to, x_part, x_ep, x_off, x_high, x_life, x_pep, x_chain, x_learner, x_lives, x_batch, x_table, x_req, x_resp⟩) W HLN.out)
  generalize beatB ⟨3, x_frm, x_to, x_part, x_ep, x_off, x_high, x_life, x_pep, x_chain, x_learner, x_lives, x_batch, x_table, x_req, x_resp⟩ = bb at *
  generalize hbf : beatF ⟨3, x_frm, x_to, x_part, x_ep, x_off, x_high, x_life, x_pep, x_chain, x_learner, x_lives, x_batch, x_table, x_req, x_resp⟩ = bf at *
  clear hbf HLN HF
  unfold msgV msgC at HG HFD ⊢
  dsimp only at HG HFD ⊢
  go_enter Tryz.func23, Tryz.ntmps23
  obtain ⟨w1, hw1, CA, B1⟩ := oneBox (w := w) (.int .i64 3 :: .int .i64 x_frm :: .int .i64 x_to :: .int .i64 x_part :: .int .i64 x_ep :: .int .i64 x_off :: .int .i64 x_high :: .int .i64 x_life :: .int .i64 x_pep :: .slice s0 x_chain.length c0 :: .int .i64 x_learner :: .slice s1 x_lives.length c1 :: .int .i64 x_batch.base :: .int .i64 x_batch.count :: .int .i64 x_batch.prod :: .int .i64 x_batch.seq :: .int .i64 x_batch.time :: .slice s2 x_batch.recs.length c2 :: .slice s3 x_table.length c3 :: .int .i64 x_req.client :: .int .i64 x_req.n :: .int .i64 x_req.kind :: .int .i64 x_req.part :: .int .i64 x_req.seq :: .int .i64 x_req.off :: .int .i64 x_req.max :: .int .i64 x_req.gen :: .string ⟨x_req.group.toArray⟩ :: .string ⟨x_req.member.toArray⟩ :: .slice s4 x_req.recs.length c4 :: .int .i64 x_resp.client :: .int .i64 x_resp.n :: .int .i64 x_resp.code :: .int .i64 x_resp.off :: .int .i64 x_resp.high :: .int .i64 x_resp.gen :: .slice s5 x_resp.parts.length c5 :: .slice s6 x_resp.recs.length c6 :: []) 44
  have HW1 := Lib.hid hw1
  clear hw1
  go_upto_region 1 with (fail)
  first | rw [HW1.out] | skip
  clear HW1
  have BW : Hid (∀ W, Below w1.heap.size w1 W → Below w.heap.size w W) := fun W h => bt B1.out h
  obtain ⟨pa, hpa2⟩ : ∃ pa, pa = w.heap.size := ⟨_, rfl⟩
  rw [← hpa2] at CA
  first | rw [← hpa2] | skip
  have HPA := Lib.hid hpa2
  clear hpa2
  have R1 := Lib.hid CA.out.range
  go_wp2_with (refine wpList_load_mid (by rfl) _ _ (by rfl) pa 0 (by rfl) (.int .i64 3 :: .int .i64 x_frm :: .int .i64 x_to :: .int .i64 x_part :: .int .i64 x_ep :: .int .i64 x_off :: .int .i64 x_high :: .int .i64 x_life :: .int .i64 x_pep :: .slice s0 x_chain.length c0 :: .int .i64 x_learner :: .slice s1 x_lives.length c1 :: .int .i64 x_batch.base :: .int .i64 x_batch.count :: .int .i64 x_batch.prod :: .int .i64 x_batch.seq :: .int .i64 x_batch.time :: .slice s2 x_batch.recs.length c2 :: .slice s3 x_table.length c3 :: .int .i64 x_req.client :: .int .i64 x_req.n :: .int .i64 x_req.kind :: .int .i64 x_req.part :: .int .i64 x_req.seq :: .int .i64 x_req.off :: .int .i64 x_req.max :: .int .i64 x_req.gen :: .string ⟨x_req.group.toArray⟩ :: .string ⟨x_req.member.toArray⟩ :: .slice s4 x_req.recs.length c4 :: .int .i64 x_resp.client :: .int .i64 x_resp.n :: .int .i64 x_resp.code :: .int .i64 x_resp.off :: .int .i64 x_resp.high :: .int .i64 x_resp.gen :: .slice s5 x_resp.parts.length c5 :: .slice s6 x_resp.recs.length c6 :: []) _ R1.out HU.out (by rfl) HI38.out ?_)
  refine (HG.out _ B1.out).mono ?_
  rintro e w2 ⟨rfl, hb2⟩
  have B2 := Lib.hid (bt B1.out hb2)
  have R2 := Lib.hid (CA.out.below hb2).range
  clear hb2 R1 HG
  go_wp2_with (refine wpList_load_mid (by rfl) _ _ (by rfl) pa 0 (by rfl) (.int .i64 3 :: .int .i64 x_frm :: .int .i64 x_to :: .int .i64 x_part :: .int .i64 x_ep :: .int .i64 x_off :: .int .i64 x_high :: .int .i64 x_life :: .int .i64 x_pep :: .slice s0 x_chain.length c0 :: .int .i64 x_learner :: .slice s1 x_lives.length c1 :: .int .i64 x_batch.base :: .int .i64 x_batch.count :: .int .i64 x_batch.prod :: .int .i64 x_batch.seq :: .int .i64 x_batch.time :: .slice s2 x_batch.recs.length c2 :: .slice s3 x_table.length c3 :: .int .i64 x_req.client :: .int .i64 x_req.n :: .int .i64 x_req.kind :: .int .i64 x_req.part :: .int .i64 x_req.seq :: .int .i64 x_req.off :: .int .i64 x_req.max :: .int .i64 x_req.gen :: .string ⟨x_req.group.toArray⟩ :: .string ⟨x_req.member.toArray⟩ :: .slice s4 x_req.recs.length c4 :: .int .i64 x_resp.client :: .int .i64 x_resp.n :: .int .i64 x_resp.code :: .int .i64 x_resp.off :: .int .i64 x_resp.high :: .int .i64 x_resp.gen :: .slice s5 x_resp.parts.length c5 :: .slice s6 x_resp.recs.length c6 :: []) _ R2.out HU.out (by rfl) HI38.out ?_)
  refine (HFD.out _ B2.out).mono ?_
  rintro e w3 ⟨v3, rfl, ho3, hb3⟩
  have B3 := Lib.hid (bt B2.out hb3)
  have S3 := Lib.hid (strs_own ho3)
  clear hb3 ho3 R2 HFD
  go_wp2_with fail
  refine (HBL.out _ _ S3.out).mono ?_
  rintro e w4 ⟨rfl, hb4⟩
  have B4 := Lib.hid (bt B3.out hb4)
  clear hb4 S3 HBL
  go_wp2_with fail
  refine (HPT.out _).mono ?_
  rintro e w5 ⟨rfl, hb5⟩
  have B5 := Lib.hid (bt B4.out hb5)
  clear hb5 HPT
  go_wp2
  go_ret2
  exact ⟨rfl, B5.out⟩

end Go.Proofs.YtbljbdjmgogknaaGreatDoor
/-
  'append' to a slice of the call's own that begins anywhere in its block, at a step of a region that draws its order. No program in sight.
  Conditions: the model's bounds on lengths and bytes.
-/
set_option linter.unusedVariables false
set_option linter.unusedSimpArgs false
namespace Go.Proofs.YtbljbdjmgogknaaGreatDoor
open Go.RowKit

theorem Keeps.fresh {S T : Nat → Prop} {a b c : World} (h : Keeps S a b) (k : Keeps T b c) (hT : ∀ k, k < a.heap.size → T k → S k) : Keeps S a c :=
  ⟨k.os.trans h.os, k.tape.trans h.tape, k.output.trans h.output, Nat.le_trans h.size k.size, fun i hi hs => (k.block i (Nat.lt_of_lt_of_le hi h.size) (fun ht => hs (hT i hi ht))).trans (h.block i hi hs)⟩
theorem keeps_two (S : Nat → Prop) (w : World) (g i j : Nat) (u v : Value) (h : S g) : Keeps S w ((w.setCell ⟨g, i, none⟩ u).setCell ⟨g, j, none⟩ v) := (Keeps.setCell S _ ⟨g, i, none⟩ _ h).trans (Keeps.setCell S _ ⟨g, j, none⟩ _ h)
theorem step_append_sl {P : Program} (w : World) {ops : Array Oper} {o : Oper} {a : Act} {K : Act → World → Prop} {Q : Exit → Act → World → Prop} {E : Prop} (hgd : o.guard = none) (s x : Operand) (t : TypeId)
    (ho : o.op = .call { callee := .builtin .append, args := #[s, x], argTypes := #[t, t] })
    (base : Nat) (e : TypeId) (i : TypeInfo) (z : Value) (size bytes : Nat) (ht : P.underlying t = some (.slice e)) (hi : P.info? e = some i) (hz : i.zero = some z)
    (hsize : i.size = size) (hby : i.bytes = bytes) (hzs : z.cells.size = size) (hsz : 0 < size)
    (v : Value) (n : Nat) (xs : List Value) (hs : a.eval s = v) (hown : Sl w base size v n xs) (sv : Value) (m : Nat) (ys : List Value) (hx : a.eval x = sv) (hsrc : SrcIs w size sv m ys) (h1 : ∀ u ∈ ys, u.oneCell' = true)
    (h63 : n + m ≤ maxLen) (hbytes : (n + m) * bytes ≤ 140737488355328) (hbase : base ≤ w.heap.size) (hm : 0 < m)
    (h : ∀ g off cap w', Sl w' base size (.slice (some ⟨g, off, none⟩) (n + m) cap) (n + m) (xs ++ ys) → w.grownBy w' v.ownBlock → (v.ownBlock = some g ∨ w.heap.size ≤ g) → K (a.put o.dst (.slice (some ⟨g, off, none⟩) (n + m) cap)) w') :
    if Region.wanted o (yielded ops a.tmps) = true then Oper.wp P o a w K Q else E := by
  have hw : Region.wanted o (yielded ops a.tmps) = true := by simp [Region.wanted, hgd]
  rw [if_pos hw]
  obtain ⟨v', w', hr, h2, h3, h4⟩ := run_append_sl (P := P) w t o.type e i z size bytes ht hi hz hsize hby hzs hsz base v n xs hown sv m ys hsrc h1 h63 hbytes hbase
  have h2' := h2
  rcases h2.2 with ⟨_, h0⟩ | ⟨g, off, cap, rfl, _⟩
  · omega
  unfold Oper.wp execOp
  simp only [ho, resolve, invoke, builtin, Sem.run_bind, Sem.run_pure, Result.andThen_ok, List.map_toArray, List.map_cons, List.map_nil, hs, hx, hr]
  refine h g off cap w' h2' h3 ?_
  rcases h4 with h4 | h4
  · exact .inl (by rw [← h4]; rfl)
  · exact .inr (h4 g rfl)

end Go.Proofs.YtbljbdjmgogknaaGreatDoor
/-
  Plain laws of frames: put and found again, one behind the other, cut off, changed. No program in sight.
-/
set_option linter.unusedVariables false
set_option linter.unusedSimpArgs false
namespace Go.Proofs.YtbljbdjmgogknaaGreatDoor.Frm
open Crc

/-- A frame is the same one behind other bytes. -/
theorem next_shift (u t : List UInt8) (j : Nat) : next (u ++ t) ((u.length + j : Nat) : Int) =
    ((next t j).1, (if (next t j).2.2 = 0 then (u.length : Int) + (next t j).2.1 else 0), (next t j).2.2) := by
  have hd : (u ++ t).drop (u.length + j) = t.drop j := by rw [List.drop_append, List.drop_eq_nil_of_le (by omega)]; simp
  have hl : (u ++ t).length = u.length + t.length := List.length_append
  by_cases h0 : t.length < j
  · rw [next_arg (l := t) (by omega), next_arg (l := u ++ t) (by omega)]; rfl
  · by_cases h8 : t.length - j < 8
    · rw [next_short (l := t) (by omega) h8, next_short (l := u ++ t) (by omega) (by omega)]; rfl
    · by_cases h1 : 16384 < (num (t.drop j)).toNat
      · rw [next_long (l := t) (by omega) (by omega) h1, next_long (l := u ++ t) (by omega) (by omega) (by rw [hd]; exact h1)]; rfl
      · by_cases h2 : t.length - j - 8 < (num (t.drop j)).toNat
        · rw [next_short2 (l := t) (by omega) (by omega) (by omega) h2, next_short2 (l := u ++ t) (by omega) (by omega) (by rw [hd]; omega) (by rw [hd]; omega)]; rfl
        · by_cases h3 : sum (((t.drop j).take (8 + (num (t.drop j)).toNat)).drop 8) = num ((t.drop j).drop 4)
          · rw [next_ok (l := t) (by omega) (by omega) (by omega) (by omega) h3, next_ok (l := u ++ t) (by omega) (by omega) (by rw [hd]; omega) (by rw [hd]; omega) (by rw [hd]; exact h3), hd]
            simp
            omega
          · rw [next_sum (l := t) (by omega) (by omega) (by omega) (by omega) h3, next_sum (l := u ++ t) (by omega) (by omega) (by rw [hd]; omega) (by rw [hd]; omega) (by rw [hd]; exact h3)]; rfl
theorem scan_shift (u t : List UInt8) : ∀ n j, t.length - j ≤ n → scanFrom (u ++ t) (u.length + j) = ((scanFrom t j).1, u.length + (scanFrom t j).2) := by
  intro n
  induction n with
  | zero =>
    intro j hj
    have hs := next_shift u t j
    by_cases hz : (next t j).2.2 = 0
    · obtain ⟨h1, _⟩ := next_zero hz; omega
    · rw [scan_end hz, scan_end (by rw [hs]; exact hz)]
  | succ n ih =>
    intro j hj
    have hs := next_shift u t j
    by_cases hz : (next t j).2.2 = 0
    · obtain ⟨h1, h2, h3, h4, h5, h6⟩ := next_zero hz
      have e4 : (next t j).2.1 = ((j + 8 + (num (t.drop j)).toNat : Nat) : Int) := by rw [h4]; omega
      rw [scan_more hz e4, scan_more (l := u ++ t) (m := u.length + (j + 8 + (num (t.drop j)).toNat)) (by rw [hs]; exact hz) (by rw [hs]; simp only [hz, if_true]; rw [e4]; omega), ih _ (by omega), hs]
    · rw [scan_end hz, scan_end (by rw [hs]; exact hz)]
theorem scan_behind (u t : List UInt8) : scanFrom (u ++ t) u.length = ((scan t).1, u.length + (scan t).2) := scan_shift u t t.length 0 (by omega)
theorem getD_take_eq {s s' : List UInt8} {m : Nat} (h : s.take m = s'.take m) (i : Nat) (hi : i < m) : s.getD i 0 = s'.getD i 0 := by
  have e : ∀ x : List UInt8, x.getD i 0 = (x.take m).getD i 0 := fun x => by simp [List.getD, hi]
  rw [e s, e s', h]
theorem num_drop {s s' : List UInt8} {m k : Nat} (h : s.take m = s'.take m) (hk : k + 4 ≤ m) : num (s.drop k) = num (s'.drop k) := by
  have e : ∀ (x : List UInt8) (i : Nat), (x.drop k).getD i 0 = x.getD (k + i) 0 := fun x i => by simp [List.getD]
  simp only [num, e]
  rw [getD_take_eq h (k + 0) (by omega), getD_take_eq h (k + 1) (by omega), getD_take_eq h (k + 2) (by omega), getD_take_eq h (k + 3) (by omega)]
/-- A frame hangs on its own bytes alone. -/
theorem next_local {s s' : List UInt8} {k m : Nat} (hz : (next s k).2.2 = 0) (hm : (next s k).2.1 = m) (h : s.take m = s'.take m) (hl : m ≤ s'.length) : next s' k = next s k := by
  obtain ⟨h1, h2, h3, h4, h5, h6⟩ := next_zero hz
  have em : m = k + 8 + (num (s.drop k)).toNat := by omega
  have en : num (s'.drop k) = num (s.drop k) := (num_drop h (by omega)).symm
  have en2 : num ((s'.drop k).drop 4) = num ((s.drop k).drop 4) := by
    rw [List.drop_drop, List.drop_drop]; exact (num_drop h (by omega)).symm
  have eb : ((s'.drop k).take (8 + (num (s.drop k)).toNat)).drop 8 = ((s.drop k).take (8 + (num (s.drop k)).toNat)).drop 8 := by
    rw [List.take_drop, List.take_drop, show k + (8 + (num (s.drop k)).toNat) = m by omega, h]
  rw [h3] at h5
  rw [next_ok (l := s') (by omega) (by omega) (by rw [en]; exact h2) (by rw [en]; omega) (by rw [en, en2, eb]; exact h5)]
  rw [next_ok (l := s) (by omega) (by omega) h2 (by omega) h5, en, eb]
theorem scan_ge (s : List UInt8) : ∀ n k, s.length - k ≤ n → k ≤ s.length → k ≤ (scanFrom s k).2 ∧ (scanFrom s k).2 ≤ s.length := by
  intro n
  induction n with
  | zero =>
    intro k hk h
    by_cases hz : (next s k).2.2 = 0
    · obtain ⟨h1, _⟩ := next_zero hz; omega
    · rw [scan_end hz]; simp; exact h
  | succ n ih =>
    intro k hk h
    by_cases hz : (next s k).2.2 = 0
    · obtain ⟨h1, h2, h3, h4, h5, h6⟩ := next_zero hz
      rw [scan_more (m := k + 8 + (num (s.drop k)).toNat) hz (by rw [h4]; omega)]
      have := ih (k + 8 + (num (s.drop k)).toNat) (by omega) (by omega)
      exact ⟨by simp only; omega, this.2⟩
    · rw [scan_end hz]; simp; exact h
theorem scan_le (s : List UInt8) : (scan s).2 ≤ s.length := (scan_ge s s.length 0 (by omega) (by omega)).2
/-- The frames of the first are found, and then goes on what follows. -/
theorem scan_upto (s s' : List UInt8) (e : Nat) (h : s.take e = s'.take e) (he : e ≤ s'.length) : ∀ n k, s.length - k ≤ n → k ≤ s.length → (scanFrom s k).2 = e →
    scanFrom s' k = ((scanFrom s k).1 ++ (scanFrom s' e).1, (scanFrom s' e).2) := by
  intro n
  induction n with
  | zero =>
    intro k hk hks hek
    by_cases hz : (next s k).2.2 = 0
    · obtain ⟨h1, _⟩ := next_zero hz; omega
    · rw [scan_end hz] at hek ⊢
      subst hek
      simp
  | succ n ih =>
    intro k hk hks hek
    by_cases hz : (next s k).2.2 = 0
    · obtain ⟨h1, h2, h3, h4, h5, h6⟩ := next_zero hz
      have e4 : (next s k).2.1 = ((k + 8 + (num (s.drop k)).toNat : Nat) : Int) := by rw [h4]; omega
      have hm := scan_more hz e4
      rw [hm] at hek ⊢
      simp only at hek ⊢
      have hge := scan_ge s s.length (k + 8 + (num (s.drop k)).toNat) (by omega) (by omega)
      have hloc := next_local (s' := s') hz e4 (by
        have := congrArg (List.take (k + 8 + (num (s.drop k)).toNat)) h
        rwa [List.take_take, List.take_take, Nat.min_eq_left (by omega)] at this) (by omega)
      rw [scan_more (l := s') (m := k + 8 + (num (s.drop k)).toNat) (by rw [hloc]; exact hz) (by rw [hloc]; exact e4), ih _ (by omega) (by omega) hek, hloc]
      rfl
    · rw [scan_end hz] at hek ⊢
      subst hek
      simp
/-- FrameJoins' law. -/
theorem scan_joins (s t : List UInt8) : scan (s.take (scan s).2 ++ t) = ((scan s).1 ++ (scan t).1, (scan s).2 + (scan t).2) := by
  have hle := scan_le s
  have hl : (s.take (scan s).2).length = (scan s).2 := by rw [List.length_take]; omega
  have h1 := scan_upto s (s.take (scan s).2 ++ t) (scan s).2 (by rw [List.take_append_of_le_length (by omega), List.take_take, Nat.min_self]) (by rw [List.length_append]; omega) s.length 0 (by omega) (by omega) rfl
  have h2 := scan_behind (s.take (scan s).2) t
  rw [hl] at h2
  rw [h2] at h1
  exact h1
theorem put_length (l : List UInt8) : (put l).length = 8 + l.length := by simp [put, four_length]; omega
theorem put_head (l : List UInt8) (h : l.length ≤ 16384) (r : List UInt8) : num (put l ++ r) = BitVec.ofNat 32 l.length := by
  have := num_four (BitVec.ofNat 32 l.length)
  unfold put
  unfold four at this ⊢
  simpa [num] using this
theorem put_check (l r : List UInt8) : num ((put l ++ r).drop 4) = sum l := by
  have := num_four (sum l)
  unfold put
  unfold four at this ⊢
  simpa [num] using this
theorem put_body (l r : List UInt8) : ((put l ++ r).take (8 + l.length)).drop 8 = l := by
  have : (put l ++ r).take (8 + l.length) = put l := by
    rw [List.take_append_of_le_length (by rw [put_length]; omega), List.take_of_length_le (by rw [put_length]; omega)]
  rw [this]
  rfl
/-- A frame is found as it was put. -/
theorem next_put (l r : List UInt8) (h : l.length ≤ 16384) : next (put l ++ r) ((0 : Nat) : Int) = (l, ((8 + l.length : Nat) : Int), 0) := by
  have hn : (num ((put l ++ r).drop 0)).toNat = l.length := by
    rw [List.drop_zero, put_head l h r, BitVec.toNat_ofNat]; omega
  have hl : (put l ++ r).length = 8 + l.length + r.length := by rw [List.length_append, put_length]
  have hb : (((put l ++ r).drop 0).take (8 + (num ((put l ++ r).drop 0)).toNat)).drop 8 = l := by rw [hn, List.drop_zero]; exact put_body l r
  rw [next_ok (l := put l ++ r) (k := 0) (by omega) (by omega) (by omega) (by omega) (by rw [hb]; rw [List.drop_zero]; exact (put_check l r).symm), hb, hn]
  simp
theorem scan_put (l r : List UInt8) (h : l.length ≤ 16384) : scan (put l ++ r) = (l :: (scan r).1, (put l).length + (scan r).2) := by
  have hn := next_put l r h
  have h1 := scan_more (l := put l ++ r) (k := 0) (m := 8 + l.length) (by rw [hn]) (by rw [hn])
  have h2 := scan_behind (put l) r
  rw [put_length] at h2
  rw [scan, h1, h2, hn, put_length]
/-- A frame that is cut off is none. -/
theorem scan_cut (l : List UInt8) (h : l.length ≤ 16384) (n : Nat) (hn : n < 8 + l.length) : scan ((put l).take n) = ([], 0) := by
  have hl : ((put l).take n).length = n := by rw [List.length_take, put_length]; omega
  apply scan_end
  by_cases h8 : n < 8
  · rw [next_short (l := (put l).take n) (k := 0) (by omega) (by omega)]; decide
  · have hd : num (((put l).take n).drop 0) = num ((put l ++ []).drop 0) := num_drop (m := n) (by rw [List.append_nil, List.take_take, Nat.min_self]) (by omega)
    have hv : (num (((put l).take n).drop 0)).toNat = l.length := by
      rw [hd, List.drop_zero, put_head l h, BitVec.toNat_ofNat]; omega
    rw [next_short2 (l := (put l).take n) (k := 0) (by omega) (by omega) (by omega) (by omega)]
    decide
/-- All frames of these texts, one behind the other. -/
def puts (ts : List (List UInt8)) : List UInt8 := (ts.map put).flatten
theorem scan_puts (ts : List (List UInt8)) (h : ∀ t ∈ ts, t.length ≤ 16384) (r : List UInt8) : scan (puts ts ++ r) = (ts ++ (scan r).1, (puts ts).length + (scan r).2) := by
  induction ts with
  | nil => simp [puts]
  | cons t ts ih =>
    have e : puts (t :: ts) = put t ++ puts ts := by simp [puts]
    rw [e, List.append_assoc, scan_put _ _ (h t (by simp)), ih (fun x hx => h x (by simp [hx]))]
    simp [List.length_append]
    omega
/-- FrameTells' law: a changed text of the same length is told. -/
theorem next_changed (a l l' : List UInt8) (h : l.length ≤ 16384) (hl : l'.length = l.length) (hs : sum l' ≠ sum l) :
    next (a ++ (four (BitVec.ofNat 32 l.length) ++ (four (sum l) ++ l'))) (a.length : Int) = ([], 0, 6) := by
  have key : next (four (BitVec.ofNat 32 l.length) ++ (four (sum l) ++ l')) ((0 : Nat) : Int) = ([], 0, 6) := by
    have e1 : num ((four (BitVec.ofNat 32 l.length) ++ (four (sum l) ++ l')).drop 0) = BitVec.ofNat 32 l.length := by
      have := num_four (BitVec.ofNat 32 l.length)
      unfold four at this ⊢
      simpa [num] using this
    have e2 : num (((four (BitVec.ofNat 32 l.length) ++ (four (sum l) ++ l')).drop 0).drop 4) = sum l := by
      have := num_four (sum l)
      unfold four at this ⊢
      simpa [num] using this
    have ev : (num ((four (BitVec.ofNat 32 l.length) ++ (four (sum l) ++ l')).drop 0)).toNat = l.length := by rw [e1, BitVec.toNat_ofNat]; omega
    have elen : (four (BitVec.ofNat 32 l.length) ++ (four (sum l) ++ l')).length = 8 + l.length := by simp [four_length, hl]; omega
    have eb : (((four (BitVec.ofNat 32 l.length) ++ (four (sum l) ++ l')).drop 0).take (8 + l.length)).drop 8 = l' := by
      rw [List.drop_zero, List.take_of_length_le (by omega)]; rfl
    exact next_sum (k := 0) (by omega) (by omega) (by omega) (by omega) (by rw [ev, eb, e2]; exact hs)
  have := next_shift a (four (BitVec.ofNat 32 l.length) ++ (four (sum l) ++ l')) 0
  rw [key] at this
  simpa using this

end Go.Proofs.YtbljbdjmgogknaaGreatDoor.Frm
/-
  Wire: a message of kind 3 is read (printed by wip/gen/mkwread.py).
  Conditions: the numbers are such as Go's; the library's variables hold what they are laid with.
-/
set_option linter.unusedVariables false
set_option linter.unusedSimpArgs false
namespace Go.Proofs.YtbljbdjmgogknaaGreatDoor
open Go.RowKit

/-- A beat. -/
def beatM (f t n : Int) : Wi.Msg := ⟨3, f, t, 0, 0, 0, 0, n, 0, [], 0, [], Wi.zBatch, [], Wi.zReq, Wi.zResp⟩
def zeroV : MsgV := ⟨.slice none 0 0, .slice none 0 0, .slice none 0 0, .slice none 0 0, .slice none 0 0, .slice none 0 0, .slice none 0 0⟩
theorem beat_at (f t n : Int) (w : World) : MsgAt w (beatM f t n) zeroV := ⟨Ints.nil w, Rw.nil _ _ w, recs_nil0 w, Tbl.nil w, recs_nil0 w, Ints.nil w, recs_nil0 w⟩
theorem lwk {w0 w W : World} {p : Nat} (hw : Lw w0) (hb : Below w0.heap.size w0 w) (hp : w0.heap.size ≤ p) (k : Kp w p W) : Lw W :=
  hw.below (hb.trans (Keeps.toBelow k hb.size (fun j hj e => by have := hb.size; rcases e with e | e <;> omega)))
set_option maxRecDepth 20000 in
set_option maxHeartbeats 6400000 in
theorem read_k3 (f t n : Int) (rest : List UInt8) (p : Nat) (w0 w : World) (hf : Bd.inR f) (ht : Bd.inR t) (hn : Bd.inR n) (h : Rd w p (Bd.bInt 3 ++ (Bd.bInt f ++ (Bd.bInt t ++ (Bd.bInt n ++ rest))), false)) (hl : (Bd.bInt 3 ++ (Bd.bInt f ++ (Bd.bInt t ++ (Bd.bInt n ++ rest)))).length < 4294967281) (hw : Lw w0) (hb0 : Below w0.heap.size w0 w) (hp0 : w0.heap.size ≤ p) :
    Calls Tryz.prog 59 #[.pointer (some ⟨p, 0, none⟩)] w fun e w' => e = .returned (.tuple #[msgV (beatM f t n) zeroV, .bool true]) ∧ Rds w p (rest, false) w' := by
  have HLW : Hid (∀ W, Kp w p W → Lw W) := fun W k => lwk hw hb0 hp0 k
  have HRV : Hid (msgV (beatM f t n) zeroV = .agg (.int .i64 3 :: .int .i64 f :: .int .i64 t :: .int .i64 0 :: .int .i64 0 :: .int .i64 0 :: .int .i64 0 :: .int .i64 n :: .int .i64 0 :: .slice none 0 0 :: .int .i64 0 :: .slice none 0 0 :: .int .i64 0 :: .int .i64 0 :: .int .i64 0 :: .int .i64 0 :: .int .i64 0 :: .slice none 0 0 :: .slice none 0 0 :: .int .i64 0 :: .int .i64 0 :: .int .i64 0 :: .int .i64 0 :: .int .i64 0 :: .int .i64 0 :: .int .i64 0 :: .int .i64 0 :: .string ⟨#[]⟩ :: .string ⟨#[]⟩ :: .slice none 0 0 :: .int .i64 0 :: .int .i64 0 :: .int .i64 0 :: .int .i64 0 :: .int .i64 0 :: .int .i64 0 :: .slice none 0 0 :: .slice none 0 0 :: []).toArray) := rfl
  rw [HRV.out]
  have h3 : Bd.inR 3 := ⟨by decide, by decide⟩
  have l1 : (Bd.bInt f ++ (Bd.bInt t ++ (Bd.bInt n ++ rest))).length < 4294967281 := by simp only [List.length_append] at hl ⊢; omega
  have l2 : (Bd.bInt t ++ (Bd.bInt n ++ rest)).length < 4294967281 := by simp only [List.length_append] at hl ⊢; omega
  have l3 : (Bd.bInt n ++ rest).length < 4294967281 := by simp only [List.length_append] at hl ⊢; omega
  have I1 : Hid (∀ W, Rd W p (Bd.bInt 3 ++ (Bd.bInt f ++ (Bd.bInt t ++ (Bd.bInt n ++ rest))), false) → Lw W → Calls Tryz.prog 92 #[.pointer (some ⟨p, 0, none⟩)] W (RdV (.int .i64 3) W p (Bd.bInt f ++ (Bd.bInt t ++ (Bd.bInt n ++ rest)), false))) := fun W hr hL => by
    have := int_any p _ W hr hl hL
    rwa [Bd.sInt_of _ h3] at this
  have I2 : Hid (∀ W, Rd W p (Bd.bInt f ++ (Bd.bInt t ++ (Bd.bInt n ++ rest)), false) → Lw W → Calls Tryz.prog 92 #[.pointer (some ⟨p, 0, none⟩)] W (RdV (.int .i64 f) W p (Bd.bInt t ++ (Bd.bInt n ++ rest), false))) := fun W hr hL => by
    have := int_any p _ W hr l1 hL
    rwa [Bd.sInt_of _ hf] at this
  have I3 : Hid (∀ W, Rd W p (Bd.bInt t ++ (Bd.bInt n ++ rest), false) → Lw W → Calls Tryz.prog 92 #[.pointer (some ⟨p, 0, none⟩)] W (RdV (.int .i64 t) W p (Bd.bInt n ++ rest, false))) := fun W hr hL => by
    have := int_any p _ W hr l2 hL
    rwa [Bd.sInt_of _ ht] at this
  have I4 : Hid (∀ W, Rd W p (Bd.bInt n ++ rest, false) → Lw W → Calls Tryz.prog 92 #[.pointer (some ⟨p, 0, none⟩)] W (RdV (.int .i64 n) W p (rest, false))) := fun W hr hL => by
    have := int_any p _ W hr l3 hL
    rwa [Bd.sInt_of _ hn] at this
  generalize Bd.bInt n ++ rest = q3 at *
  generalize Bd.bInt t ++ q3 = q2 at *
  generalize Bd.bInt f ++ q2 = q1 at *
  generalize Bd.bInt 3 ++ q1 = q0 at *
  have X0 : Hid (Rx w p w.heap.size (w.alloc (.cells (.int .i64 0 :: .int .i64 0 :: .int .i64 0 :: .int .i64 0 :: .int .i64 0 :: .int .i64 0 :: .int .i64 0 :: .int .i64 0 :: .int .i64 0 :: .slice none 0 0 :: .int .i64 0 :: .slice none 0 0 :: .int .i64 0 :: .int .i64 0 :: .int .i64 0 :: .int .i64 0 :: .int .i64 0 :: .slice none 0 0 :: .slice none 0 0 :: .int .i64 0 :: .int .i64 0 :: .int .i64 0 :: .int .i64 0 :: .int .i64 0 :: .int .i64 0 :: .int .i64 0 :: .int .i64 0 :: .string ⟨#[]⟩ :: .string ⟨#[]⟩ :: .slice none 0 0 :: .int .i64 0 :: .int .i64 0 :: .int .i64 0 :: .int .i64 0 :: .int .i64 0 :: .int .i64 0 :: .slice none 0 0 :: .slice none 0 0 :: []).toArray 44)) (q0, false) (.int .i64 0 :: .int .i64 0 :: .int .i64 0 :: .int .i64 0 :: .int .i64 0 :: .int .i64 0 :: .int .i64 0 :: .int .i64 0 :: .int .i64 0 :: .slice none 0 0 :: .int .i64 0 :: .slice none 0 0 :: .int .i64 0 :: .int .i64 0 :: .int .i64 0 :: .int .i64 0 :: .int .i64 0 :: .slice none 0 0 :: .slice none 0 0 :: .int .i64 0 :: .int .i64 0 :: .int .i64 0 :: .int .i64 0 :: .int .i64 0 :: .int .i64 0 :: .int .i64 0 :: .int .i64 0 :: .string ⟨#[]⟩ :: .string ⟨#[]⟩ :: .slice none 0 0 :: .int .i64 0 :: .int .i64 0 :: .int .i64 0 :: .int .i64 0 :: .int .i64 0 :: .int .i64 0 :: .slice none 0 0 :: .slice none 0 0 :: []) 44) := Rx.new h (.int .i64 0 :: .int .i64 0 :: .int .i64 0 :: .int .i64 0 :: .int .i64 0 :: .int .i64 0 :: .int .i64 0 :: .int .i64 0 :: .int .i64 0 :: .slice none 0 0 :: .int .i64 0 :: .slice none 0 0 :: .int .i64 0 :: .int .i64 0 :: .int .i64 0 :: .int .i64 0 :: .int .i64 0 :: .slice none 0 0 :: .slice none 0 0 :: .int .i64 0 :: .int .i64 0 :: .int .i64 0 :: .int .i64 0 :: .int .i64 0 :: .int .i64 0 :: .int .i64 0 :: .int .i64 0 :: .string ⟨#[]⟩ :: .string ⟨#[]⟩ :: .slice none 0 0 :: .int .i64 0 :: .int .i64 0 :: .int .i64 0 :: .int .i64 0 :: .int .i64 0 :: .int .i64 0 :: .slice none 0 0 :: .slice none 0 0 :: []) _
  clear h hl l1 l2 l3 hw hb0
  go_enter Tryz.func59, Tryz.ntmps59
  go_upto_region 2 with (fail)
  generalize w.alloc (.cells (.int .i64 0 :: .int .i64 0 :: .int .i64 0 :: .int .i64 0 :: .int .i64 0 :: .int .i64 0 :: .int .i64 0 :: .int .i64 0 :: .int .i64 0 :: .slice none 0 0 :: .int .i64 0 :: .slice none 0 0 :: .int .i64 0 :: .int .i64 0 :: .int .i64 0 :: .int .i64 0 :: .int .i64 0 :: .slice none 0 0 :: .slice none 0 0 :: .int .i64 0 :: .int .i64 0 :: .int .i64 0 :: .int .i64 0 :: .int .i64 0 :: .int .i64 0 :: .int .i64 0 :: .int .i64 0 :: .string ⟨#[]⟩ :: .string ⟨#[]⟩ :: .slice none 0 0 :: .int .i64 0 :: .int .i64 0 :: .int .i64 0 :: .int .i64 0 :: .int .i64 0 :: .int .i64 0 :: .slice none 0 0 :: .slice none 0 0 :: []).toArray 44) = w1 at *
  obtain ⟨pr, hpr⟩ : ∃ pr, pr = w.heap.size := ⟨_, rfl⟩
  rw [← hpr] at X0 ⊢
  have HPR := Lib.hid hpr
  clear hpr
  go_wp2_with fail
  refine (I1.out _ X0.out.1 (HLW.out _ X0.out.2.2.2.2)).mono ?_
  rintro e w2 ⟨rfl, hr⟩
  have X1 := Lib.hid (X0.out.call hr)
  clear hr X0
  go_wp2_with fail
  refine (I2.out _ X1.out.1 (HLW.out _ X1.out.2.2.2.2)).mono ?_
  rintro e w3 ⟨rfl, hr⟩
  have X2 := Lib.hid (X1.out.call hr)
  clear hr X1
  go_wp2_with fail
  refine (I3.out _ X2.out.1 (HLW.out _ X2.out.2.2.2.2)).mono ?_
  rintro e w4 ⟨rfl, hr⟩
  have X3 := Lib.hid (X2.out.call hr)
  clear hr X2
  have c0 := X3.out.2.1.cell 0
  have c1 := X3.out.2.1.cell 1
  have c2 := X3.out.2.1.cell 2
  have f0 := X3.out.2.1.free 0
  have f1 := X3.out.2.1.free 1
  have f2 := X3.out.2.1.free 2
  simp only [List.getElem?_cons_zero, List.getElem?_cons_succ] at c0 c1 c2
  have X4 : Hid (Rx w p pr (((w4.setCell ⟨pr, 0, none⟩ (.int .i64 3)).setCell ⟨pr, 1, none⟩ (.int .i64 f)).setCell ⟨pr, 2, none⟩ (.int .i64 t)) (q3, false) (.int .i64 3 :: .int .i64 f :: .int .i64 t :: .int .i64 0 :: .int .i64 0 :: .int .i64 0 :: .int .i64 0 :: .int .i64 0 :: .int .i64 0 :: .slice none 0 0 :: .int .i64 0 :: .slice none 0 0 :: .int .i64 0 :: .int .i64 0 :: .int .i64 0 :: .int .i64 0 :: .int .i64 0 :: .slice none 0 0 :: .slice none 0 0 :: .int .i64 0 :: .int .i64 0 :: .int .i64 0 :: .int .i64 0 :: .int .i64 0 :: .int .i64 0 :: .int .i64 0 :: .int .i64 0 :: .string ⟨#[]⟩ :: .string ⟨#[]⟩ :: .slice none 0 0 :: .int .i64 0 :: .int .i64 0 :: .int .i64 0 :: .int .i64 0 :: .int .i64 0 :: .int .i64 0 :: .slice none 0 0 :: .slice none 0 0 :: []) 44) := ((X3.out.store 0 (.int .i64 3)).store 1 (.int .i64 f)).store 2 (.int .i64 t)
  go_upto_region 3 with (fail)
  generalize ((w4.setCell ⟨pr, 0, none⟩ (.int .i64 3)).setCell ⟨pr, 1, none⟩ (.int .i64 f)).setCell ⟨pr, 2, none⟩ (.int .i64 t) = w5 at *
  clear c0 c1 c2 f0 f1 f2 X3
  have c0 := X4.out.2.1.cell 0
  simp only [List.getElem?_cons_zero, List.getElem?_cons_succ] at c0
  go_wp2_with fail
  refine (I4.out _ X4.out.1 (HLW.out _ X4.out.2.2.2.2)).mono ?_
  rintro e w6 ⟨rfl, hr⟩
  have X5 := Lib.hid (X4.out.call hr)
  clear hr X4 c0
  have c7 := X5.out.2.1.cell 7
  have f7 := X5.out.2.1.free 7
  simp only [List.getElem?_cons_zero, List.getElem?_cons_succ] at c7
  have X6 : Hid (Rx w p pr (w6.setCell ⟨pr, 7, none⟩ (.int .i64 n)) (rest, false) (.int .i64 3 :: .int .i64 f :: .int .i64 t :: .int .i64 0 :: .int .i64 0 :: .int .i64 0 :: .int .i64 0 :: .int .i64 n :: .int .i64 0 :: .slice none 0 0 :: .int .i64 0 :: .slice none 0 0 :: .int .i64 0 :: .int .i64 0 :: .int .i64 0 :: .int .i64 0 :: .int .i64 0 :: .slice none 0 0 :: .slice none 0 0 :: .int .i64 0 :: .int .i64 0 :: .int .i64 0 :: .int .i64 0 :: .int .i64 0 :: .int .i64 0 :: .int .i64 0 :: .int .i64 0 :: .string ⟨#[]⟩ :: .string ⟨#[]⟩ :: .slice none 0 0 :: .int .i64 0 :: .int .i64 0 :: .int .i64 0 :: .int .i64 0 :: .int .i64 0 :: .int .i64 0 :: .slice none 0 0 :: .slice none 0 0 :: []) 44) := X5.out.store 7 (.int .i64 n)
  go_upto_region 25 with (fail)
  generalize w6.setCell ⟨pr, 7, none⟩ (.int .i64 n) = w7 at *
  clear c7 f7 X5
  have HI38 := Lib.hid (show (Tryz.prog.info? 44).map (·.size) = some ((.int .i64 3 :: .int .i64 f :: .int .i64 t :: .int .i64 0 :: .int .i64 0 :: .int .i64 0 :: .int .i64 0 :: .int .i64 n :: .int .i64 0 :: .slice none 0 0 :: .int .i64 0 :: .slice none 0 0 :: .int .i64 0 :: .int .i64 0 :: .int .i64 0 :: .int .i64 0 :: .int .i64 0 :: .slice none 0 0 :: .slice none 0 0 :: .int .i64 0 :: .int .i64 0 :: .int .i64 0 :: .int .i64 0 :: .int .i64 0 :: .int .i64 0 :: .int .i64 0 :: .int .i64 0 :: .string ⟨#[]⟩ :: .string ⟨#[]⟩ :: .slice none 0 0 :: .int .i64 0 :: .int .i64 0 :: .int .i64 0 :: .int .i64 0 :: .int .i64 0 :: .int .i64 0 :: .slice none 0 0 :: .slice none 0 0 :: []) : List Value).length by kernel_rfl)
  have HI39 := Lib.hid (show (Tryz.prog.info? 44).map (·.size) = some ((.int .i64 3 :: .int .i64 f :: .int .i64 t :: .int .i64 0 :: .int .i64 0 :: .int .i64 0 :: .int .i64 0 :: .int .i64 n :: .int .i64 0 :: .slice none 0 0 :: .int .i64 0 :: .slice none 0 0 :: .int .i64 0 :: .int .i64 0 :: .int .i64 0 :: .int .i64 0 :: .int .i64 0 :: .slice none 0 0 :: .slice none 0 0 :: .int .i64 0 :: .int .i64 0 :: .int .i64 0 :: .int .i64 0 :: .int .i64 0 :: .int .i64 0 :: .int .i64 0 :: .int .i64 0 :: .string ⟨#[]⟩ :: .string ⟨#[]⟩ :: .slice none 0 0 :: .int .i64 0 :: .int .i64 0 :: .int .i64 0 :: .int .i64 0 :: .int .i64 0 :: .int .i64 0 :: .slice none 0 0 :: .slice none 0 0 :: []).toArray : Array Value).size by kernel_rfl)
  have HONE : Hid (((.int .i64 3 :: .int .i64 f :: .int .i64 t :: .int .i64 0 :: .int .i64 0 :: .int .i64 0 :: .int .i64 0 :: .int .i64 n :: .int .i64 0 :: .slice none 0 0 :: .int .i64 0 :: .slice none 0 0 :: .int .i64 0 :: .int .i64 0 :: .int .i64 0 :: .int .i64 0 :: .int .i64 0 :: .slice none 0 0 :: .slice none 0 0 :: .int .i64 0 :: .int .i64 0 :: .int .i64 0 :: .int .i64 0 :: .int .i64 0 :: .int .i64 0 :: .int .i64 0 :: .int .i64 0 :: .string ⟨#[]⟩ :: .string ⟨#[]⟩ :: .slice none 0 0 :: .int .i64 0 :: .int .i64 0 :: .int .i64 0 :: .int .i64 0 :: .int .i64 0 :: .int .i64 0 :: .slice none 0 0 :: .slice none 0 0 :: []).toArray : Array Value).all (·.oneCell') = true) := by simp [Hid, Value.oneCell']
  have HSZ : Hid (((.int .i64 3 :: .int .i64 f :: .int .i64 t :: .int .i64 0 :: .int .i64 0 :: .int .i64 0 :: .int .i64 0 :: .int .i64 n :: .int .i64 0 :: .slice none 0 0 :: .int .i64 0 :: .slice none 0 0 :: .int .i64 0 :: .int .i64 0 :: .int .i64 0 :: .int .i64 0 :: .int .i64 0 :: .slice none 0 0 :: .slice none 0 0 :: .int .i64 0 :: .int .i64 0 :: .int .i64 0 :: .int .i64 0 :: .int .i64 0 :: .int .i64 0 :: .int .i64 0 :: .int .i64 0 :: .string ⟨#[]⟩ :: .string ⟨#[]⟩ :: .slice none 0 0 :: .int .i64 0 :: .int .i64 0 :: .int .i64 0 :: .int .i64 0 :: .int .i64 0 :: .int .i64 0 :: .slice none 0 0 :: .slice none 0 0 :: []).toArray : Array Value).size = ((.int .i64 3 :: .int .i64 f :: .int .i64 t :: .int .i64 0 :: .int .i64 0 :: .int .i64 0 :: .int .i64 0 :: .int .i64 n :: .int .i64 0 :: .slice none 0 0 :: .int .i64 0 :: .slice none 0 0 :: .int .i64 0 :: .int .i64 0 :: .int .i64 0 :: .int .i64 0 :: .int .i64 0 :: .slice none 0 0 :: .slice none 0 0 :: .int .i64 0 :: .int .i64 0 :: .int .i64 0 :: .int .i64 0 :: .int .i64 0 :: .int .i64 0 :: .int .i64 0 :: .int .i64 0 :: .string ⟨#[]⟩ :: .string ⟨#[]⟩ :: .slice none 0 0 :: .int .i64 0 :: .int .i64 0 :: .int .i64 0 :: .int .i64 0 :: .int .i64 0 :: .int .i64 0 :: .slice none 0 0 :: .slice none 0 0 :: []).toArray : Array Value).size) := rfl
  have HU := Lib.hid Tryz.underlying44
  have R7 := Lib.hid X6.out.2.1.range
  have CQ : Hid (w7.heap[pr]? = some (.cells (.int .i64 3 :: .int .i64 f :: .int .i64 t :: .int .i64 0 :: .int .i64 0 :: .int .i64 0 :: .int .i64 0 :: .int .i64 n :: .int .i64 0 :: .slice none 0 0 :: .int .i64 0 :: .slice none 0 0 :: .int .i64 0 :: .int .i64 0 :: .int .i64 0 :: .int .i64 0 :: .int .i64 0 :: .slice none 0 0 :: .slice none 0 0 :: .int .i64 0 :: .int .i64 0 :: .int .i64 0 :: .int .i64 0 :: .int .i64 0 :: .int .i64 0 :: .int .i64 0 :: .int .i64 0 :: .string ⟨#[]⟩ :: .string ⟨#[]⟩ :: .slice none 0 0 :: .int .i64 0 :: .int .i64 0 :: .int .i64 0 :: .int .i64 0 :: .int .i64 0 :: .int .i64 0 :: .slice none 0 0 :: .slice none 0 0 :: []).toArray 44 (0, 0))) := X6.out.2.1
  have C8 : Hid (Cl (w7.setRow pr (.int .i64 3 :: .int .i64 f :: .int .i64 t :: .int .i64 0 :: .int .i64 0 :: .int .i64 0 :: .int .i64 0 :: .int .i64 n :: .int .i64 0 :: .slice none 0 0 :: .int .i64 0 :: .slice none 0 0 :: .int .i64 0 :: .int .i64 0 :: .int .i64 0 :: .int .i64 0 :: .int .i64 0 :: .slice none 0 0 :: .slice none 0 0 :: .int .i64 0 :: .int .i64 0 :: .int .i64 0 :: .int .i64 0 :: .int .i64 0 :: .int .i64 0 :: .int .i64 0 :: .int .i64 0 :: .string ⟨#[]⟩ :: .string ⟨#[]⟩ :: .slice none 0 0 :: .int .i64 0 :: .int .i64 0 :: .int .i64 0 :: .int .i64 0 :: .int .i64 0 :: .int .i64 0 :: .slice none 0 0 :: .slice none 0 0 :: []).toArray) pr (.int .i64 3 :: .int .i64 f :: .int .i64 t :: .int .i64 0 :: .int .i64 0 :: .int .i64 0 :: .int .i64 0 :: .int .i64 n :: .int .i64 0 :: .slice none 0 0 :: .int .i64 0 :: .slice none 0 0 :: .int .i64 0 :: .int .i64 0 :: .int .i64 0 :: .int .i64 0 :: .int .i64 0 :: .slice none 0 0 :: .slice none 0 0 :: .int .i64 0 :: .int .i64 0 :: .int .i64 0 :: .int .i64 0 :: .int .i64 0 :: .int .i64 0 :: .int .i64 0 :: .int .i64 0 :: .string ⟨#[]⟩ :: .string ⟨#[]⟩ :: .slice none 0 0 :: .int .i64 0 :: .int .i64 0 :: .int .i64 0 :: .int .i64 0 :: .int .i64 0 :: .int .i64 0 :: .slice none 0 0 :: .slice none 0 0 :: []) 44) := X6.out.2.1.row _
  have K8 : Hid (Keeps (fun j => j = pr) w7 (w7.setRow pr (.int .i64 3 :: .int .i64 f :: .int .i64 t :: .int .i64 0 :: .int .i64 0 :: .int .i64 0 :: .int .i64 0 :: .int .i64 n :: .int .i64 0 :: .slice none 0 0 :: .int .i64 0 :: .slice none 0 0 :: .int .i64 0 :: .int .i64 0 :: .int .i64 0 :: .int .i64 0 :: .int .i64 0 :: .slice none 0 0 :: .slice none 0 0 :: .int .i64 0 :: .int .i64 0 :: .int .i64 0 :: .int .i64 0 :: .int .i64 0 :: .int .i64 0 :: .int .i64 0 :: .int .i64 0 :: .string ⟨#[]⟩ :: .string ⟨#[]⟩ :: .slice none 0 0 :: .int .i64 0 :: .int .i64 0 :: .int .i64 0 :: .int .i64 0 :: .int .i64 0 :: .int .i64 0 :: .slice none 0 0 :: .slice none 0 0 :: []).toArray)) := Keeps.row _ _ _ rfl
  have HR8 : Hid (Rds w p (rest, false) (w7.setRow pr (.int .i64 3 :: .int .i64 f :: .int .i64 t :: .int .i64 0 :: .int .i64 0 :: .int .i64 0 :: .int .i64 0 :: .int .i64 n :: .int .i64 0 :: .slice none 0 0 :: .int .i64 0 :: .slice none 0 0 :: .int .i64 0 :: .int .i64 0 :: .int .i64 0 :: .int .i64 0 :: .int .i64 0 :: .slice none 0 0 :: .slice none 0 0 :: .int .i64 0 :: .int .i64 0 :: .int .i64 0 :: .int .i64 0 :: .int .i64 0 :: .int .i64 0 :: .int .i64 0 :: .int .i64 0 :: .string ⟨#[]⟩ :: .string ⟨#[]⟩ :: .slice none 0 0 :: .int .i64 0 :: .int .i64 0 :: .int .i64 0 :: .int .i64 0 :: .int .i64 0 :: .int .i64 0 :: .slice none 0 0 :: .slice none 0 0 :: []).toArray)) := by
    have hne := X6.out.2.2.1
    have hd := X6.out.done
    refine ⟨hd.1.keep K8.out (fun e => hne e.symm), Keeps.fresh hd.2 K8.out (fun j hj e => by have := HPR.out; omega)⟩
  clear X6 K8
  go_wp2_with (first
    | (refine wpList_load_mid (by rfl) _ _ (by rfl) pr 0 (by rfl) (.int .i64 3 :: .int .i64 f :: .int .i64 t :: .int .i64 0 :: .int .i64 0 :: .int .i64 0 :: .int .i64 0 :: .int .i64 n :: .int .i64 0 :: .slice none 0 0 :: .int .i64 0 :: .slice none 0 0 :: .int .i64 0 :: .int .i64 0 :: .int .i64 0 :: .int .i64 0 :: .int .i64 0 :: .slice none 0 0 :: .slice none 0 0 :: .int .i64 0 :: .int .i64 0 :: .int .i64 0 :: .int .i64 0 :: .int .i64 0 :: .int .i64 0 :: .int .i64 0 :: .int .i64 0 :: .string ⟨#[]⟩ :: .string ⟨#[]⟩ :: .slice none 0 0 :: .int .i64 0 :: .int .i64 0 :: .int .i64 0 :: .int .i64 0 :: .int .i64 0 :: .int .i64 0 :: .slice none 0 0 :: .slice none 0 0 :: []) _ R7.out HU.out (by rfl) HI38.out ?_)
    | (refine wpList_store_row (by rfl) _ _ _ (by rfl) pr (.int .i64 3 :: .int .i64 f :: .int .i64 t :: .int .i64 0 :: .int .i64 0 :: .int .i64 0 :: .int .i64 0 :: .int .i64 n :: .int .i64 0 :: .slice none 0 0 :: .int .i64 0 :: .slice none 0 0 :: .int .i64 0 :: .int .i64 0 :: .int .i64 0 :: .int .i64 0 :: .int .i64 0 :: .slice none 0 0 :: .slice none 0 0 :: .int .i64 0 :: .int .i64 0 :: .int .i64 0 :: .int .i64 0 :: .int .i64 0 :: .int .i64 0 :: .int .i64 0 :: .int .i64 0 :: .string ⟨#[]⟩ :: .string ⟨#[]⟩ :: .slice none 0 0 :: .int .i64 0 :: .int .i64 0 :: .int .i64 0 :: .int .i64 0 :: .int .i64 0 :: .int .i64 0 :: .slice none 0 0 :: .slice none 0 0 :: []).toArray (by rfl) (by rfl) 44 _ CQ.out HI39.out HSZ.out HONE.out ?_))
  refine bodyPost_ret (results_cl_tmp rfl _ _ _ _ _ _ rfl C8.out Tryz.underlying44 rfl (by kernel_rfl)) rfl ?_
  exact ⟨rfl, HR8.out⟩

theorem beatB_eq (f t n : Int) : beatB (beatM f t n) = 108 :: (Bd.bInt 3 ++ (Bd.bInt f ++ (Bd.bInt t ++ (Bd.bInt n ++ [101])))) := by simp [beatB, beatF, beatM]
/-- A load under a guard that says yes. -/
theorem wpList_load_yes {P : Program} {ops : Array Oper} {rest : List Oper} {op : Oper} {a : Act} {w : World} {Q : Exit → Act → World → Prop} (hw : Region.wanted op (yielded ops a.tmps) = true) (ty : TypeId) (x : Operand) (ho : op.op = .load ty x)
    (b o : Nat) (hx : a.eval x = .pointer (some ⟨b, o, none⟩)) (cs : List Value) (d : TypeDesc) (hc : w.rangeAt b o cs)
    (hu : P.underlying ty = some d) (hd : d.isRow = true) (hi : (P.info? ty).map (·.size) = some cs.length)
    (h : wpList P ops Q rest (a.put op.dst (.agg cs.toArray)) w) : wpList P ops Q (op :: rest) a w :=
  wpList_step fun K hK => by rw [if_pos hw]; exact wp_load_mid ty x ho b o hx cs d hc hu hd hi (hK _ _ h)
set_option maxRecDepth 20000 in
set_option maxHeartbeats 12800000 in
theorem decode_beat (f t n : Int) (w : World) (hf : Bd.inR f) (ht : Bd.inR t) (hn : Bd.inR n) (hfirst : Wi.first (beatM f t n) = true) (ok : MsgOk (beatM f t n)) (hlen : (beatB (beatM f t n)).length ≤ 16384) (hw : Lw w) :
    Calls Tryz.prog 26 #[.string ⟨(Frm.put (beatB (beatM f t n))).toArray⟩] w fun e w' => e = .returned (.tuple #[msgV (beatM f t n) zeroV, .int .i64 0]) ∧ Below w.heap.size w w' := by
  have HRV : Hid (msgV (beatM f t n) zeroV = .agg (.int .i64 3 :: .int .i64 f :: .int .i64 t :: .int .i64 0 :: .int .i64 0 :: .int .i64 0 :: .int .i64 0 :: .int .i64 n :: .int .i64 0 :: .slice none 0 0 :: .int .i64 0 :: .slice none 0 0 :: .int .i64 0 :: .int .i64 0 :: .int .i64 0 :: .int .i64 0 :: .int .i64 0 :: .slice none 0 0 :: .slice none 0 0 :: .int .i64 0 :: .int .i64 0 :: .int .i64 0 :: .int .i64 0 :: .int .i64 0 :: .int .i64 0 :: .int .i64 0 :: .int .i64 0 :: .string ⟨#[]⟩ :: .string ⟨#[]⟩ :: .slice none 0 0 :: .int .i64 0 :: .int .i64 0 :: .int .i64 0 :: .int .i64 0 :: .int .i64 0 :: .int .i64 0 :: .slice none 0 0 :: .slice none 0 0 :: []).toArray) := rfl
  have HG := Lib.hid (fun (W : World) => good_k3 (beatM f t n) zeroV W (beat_at f t n W) ok rfl hfirst)
  have HN : Hid (∀ W, Calls Tryz.prog 56 #[.string ⟨(Frm.put (beatB (beatM f t n))).toArray⟩, .int .i64 0] W fun e w' => e = .returned (.tuple #[.string ⟨(beatB (beatM f t n)).toArray⟩, .int .i64 (((8 + (beatB (beatM f t n)).length : Nat)) : Int), .int .i64 0]) ∧ Below W.heap.size W w') := fun W => by
    have h := next_any (Frm.put (beatB (beatM f t n))) 0 W (by rw [Frm.put_length]; unfold maxLen; omega)
    have h2 := Frm.next_put (beatB (beatM f t n)) [] hlen
    rw [List.append_nil] at h2
    rw [show ((0 : Int)) = ((0 : Nat) : Int) from rfl] at h ⊢
    rw [h2] at h
    exact h
  have HPL := Lib.hid (Frm.put_length (beatB (beatM f t n)))
  have HLT : Hid ((Bd.bInt 3 ++ (Bd.bInt f ++ (Bd.bInt t ++ (Bd.bInt n ++ [101])))).length < 4294967281) := by
    rw [beatB_eq] at hlen
    simp only [List.length_cons] at hlen
    rw [Hid]
    omega
  have HRD : Hid (∀ (p : Nat) (w0 W : World), Rd W p (Bd.bInt 3 ++ (Bd.bInt f ++ (Bd.bInt t ++ (Bd.bInt n ++ [101]))), false) → Lw w0 → Below w0.heap.size w0 W → w0.heap.size ≤ p → Calls Tryz.prog 59 #[.pointer (some ⟨p, 0, none⟩)] W fun e w' => e = .returned (.tuple #[.agg (.int .i64 3 :: .int .i64 f :: .int .i64 t :: .int .i64 0 :: .int .i64 0 :: .int .i64 0 :: .int .i64 0 :: .int .i64 n :: .int .i64 0 :: .slice none 0 0 :: .int .i64 0 :: .slice none 0 0 :: .int .i64 0 :: .int .i64 0 :: .int .i64 0 :: .int .i64 0 :: .int .i64 0 :: .slice none 0 0 :: .slice none 0 0 :: .int .i64 0 :: .int .i64 0 :: .int .i64 0 :: .int .i64 0 :: .int .i64 0 :: .int .i64 0 :: .int .i64 0 :: .int .i64 0 :: .string ⟨#[]⟩ :: .string ⟨#[]⟩ :: .slice none 0 0 :: .int .i64 0 :: .int .i64 0 :: .int .i64 0 :: .int .i64 0 :: .int .i64 0 :: .int .i64 0 :: .slice none 0 0 :: .slice none 0 0 :: []).toArray, .bool true]) ∧ Rds W p ([101], false) w') := fun p w0 W hr hL hb hp => read_k3 f t n [101] p w0 W hf ht hn hr HLT.out hL hb hp
  have HW := Lib.hid hw
  have HOP : Hid (Bd.sSign 108 (beatB (beatM f t n), false) = (Bd.bInt 3 ++ (Bd.bInt f ++ (Bd.bInt t ++ (Bd.bInt n ++ [101]))), false)) := by rw [Hid, beatB_eq, Bd.sSign_of]
  have HCL : Hid (Bd.sSign 101 ([101], false) = ([], false)) := Bd.sSign_of 101 []
  have HBB : Hid ((beatB (beatM f t n)).length ≤ 16384) := hlen
  rw [HRV.out]
  rw [HRV.out] at HG
  generalize Frm.put (beatB (beatM f t n)) = fr at *
  generalize beatB (beatM f t n) = bb at *
  generalize Bd.bInt 3 ++ (Bd.bInt f ++ (Bd.bInt t ++ (Bd.bInt n ++ [101]))) = q0 at *
  clear hf ht hfirst ok hlen hw HRV HLT
  have hbl := HBB.out
  have HI38 := Lib.hid (show (Tryz.prog.info? 44).map (·.size) = some ((.int .i64 3 :: .int .i64 f :: .int .i64 t :: .int .i64 0 :: .int .i64 0 :: .int .i64 0 :: .int .i64 0 :: .int .i64 n :: .int .i64 0 :: .slice none 0 0 :: .int .i64 0 :: .slice none 0 0 :: .int .i64 0 :: .int .i64 0 :: .int .i64 0 :: .int .i64 0 :: .int .i64 0 :: .slice none 0 0 :: .slice none 0 0 :: .int .i64 0 :: .int .i64 0 :: .int .i64 0 :: .int .i64 0 :: .int .i64 0 :: .int .i64 0 :: .int .i64 0 :: .int .i64 0 :: .string ⟨#[]⟩ :: .string ⟨#[]⟩ :: .slice none 0 0 :: .int .i64 0 :: .int .i64 0 :: .int .i64 0 :: .int .i64 0 :: .int .i64 0 :: .int .i64 0 :: .slice none 0 0 :: .slice none 0 0 :: []) : List Value).length by kernel_rfl)
  have HI39 := Lib.hid (show (Tryz.prog.info? 44).map (·.size) = some ((.int .i64 3 :: .int .i64 f :: .int .i64 t :: .int .i64 0 :: .int .i64 0 :: .int .i64 0 :: .int .i64 0 :: .int .i64 n :: .int .i64 0 :: .slice none 0 0 :: .int .i64 0 :: .slice none 0 0 :: .int .i64 0 :: .int .i64 0 :: .int .i64 0 :: .int .i64 0 :: .int .i64 0 :: .slice none 0 0 :: .slice none 0 0 :: .int .i64 0 :: .int .i64 0 :: .int .i64 0 :: .int .i64 0 :: .int .i64 0 :: .int .i64 0 :: .int .i64 0 :: .int .i64 0 :: .string ⟨#[]⟩ :: .string ⟨#[]⟩ :: .slice none 0 0 :: .int .i64 0 :: .int .i64 0 :: .int .i64 0 :: .int .i64 0 :: .int .i64 0 :: .int .i64 0 :: .slice none 0 0 :: .slice none 0 0 :: []).toArray : Array Value).size by kernel_rfl)
  have HONE : Hid (((.int .i64 3 :: .int .i64 f :: .int .i64 t :: .int .i64 0 :: .int .i64 0 :: .int .i64 0 :: .int .i64 0 :: .int .i64 n :: .int .i64 0 :: .slice none 0 0 :: .int .i64 0 :: .slice none 0 0 :: .int .i64 0 :: .int .i64 0 :: .int .i64 0 :: .int .i64 0 :: .int .i64 0 :: .slice none 0 0 :: .slice none 0 0 :: .int .i64 0 :: .int .i64 0 :: .int .i64 0 :: .int .i64 0 :: .int .i64 0 :: .int .i64 0 :: .int .i64 0 :: .int .i64 0 :: .string ⟨#[]⟩ :: .string ⟨#[]⟩ :: .slice none 0 0 :: .int .i64 0 :: .int .i64 0 :: .int .i64 0 :: .int .i64 0 :: .int .i64 0 :: .int .i64 0 :: .slice none 0 0 :: .slice none 0 0 :: []).toArray : Array Value).all (·.oneCell') = true) := by simp [Hid, Value.oneCell']
  have HSZ : Hid (((.int .i64 0 :: .int .i64 0 :: .int .i64 0 :: .int .i64 0 :: .int .i64 0 :: .int .i64 0 :: .int .i64 0 :: .int .i64 0 :: .int .i64 0 :: .slice none 0 0 :: .int .i64 0 :: .slice none 0 0 :: .int .i64 0 :: .int .i64 0 :: .int .i64 0 :: .int .i64 0 :: .int .i64 0 :: .slice none 0 0 :: .slice none 0 0 :: .int .i64 0 :: .int .i64 0 :: .int .i64 0 :: .int .i64 0 :: .int .i64 0 :: .int .i64 0 :: .int .i64 0 :: .int .i64 0 :: .string ⟨#[]⟩ :: .string ⟨#[]⟩ :: .slice none 0 0 :: .int .i64 0 :: .int .i64 0 :: .int .i64 0 :: .int .i64 0 :: .int .i64 0 :: .int .i64 0 :: .slice none 0 0 :: .slice none 0 0 :: []).toArray : Array Value).size = ((.int .i64 3 :: .int .i64 f :: .int .i64 t :: .int .i64 0 :: .int .i64 0 :: .int .i64 0 :: .int .i64 0 :: .int .i64 n :: .int .i64 0 :: .slice none 0 0 :: .int .i64 0 :: .slice none 0 0 :: .int .i64 0 :: .int .i64 0 :: .int .i64 0 :: .int .i64 0 :: .int .i64 0 :: .slice none 0 0 :: .slice none 0 0 :: .int .i64 0 :: .int .i64 0 :: .int .i64 0 :: .int .i64 0 :: .int .i64 0 :: .int .i64 0 :: .int .i64 0 :: .int .i64 0 :: .string ⟨#[]⟩ :: .string ⟨#[]⟩ :: .slice none 0 0 :: .int .i64 0 :: .int .i64 0 :: .int .i64 0 :: .int .i64 0 :: .int .i64 0 :: .int .i64 0 :: .slice none 0 0 :: .slice none 0 0 :: []).toArray : Array Value).size) := rfl
  have HU := Lib.hid Tryz.underlying44
  have C1 : Hid (Cl (w.alloc (.cells (.int .i64 0 :: .int .i64 0 :: .int .i64 0 :: .int .i64 0 :: .int .i64 0 :: .int .i64 0 :: .int .i64 0 :: .int .i64 0 :: .int .i64 0 :: .slice none 0 0 :: .int .i64 0 :: .slice none 0 0 :: .int .i64 0 :: .int .i64 0 :: .int .i64 0 :: .int .i64 0 :: .int .i64 0 :: .slice none 0 0 :: .slice none 0 0 :: .int .i64 0 :: .int .i64 0 :: .int .i64 0 :: .int .i64 0 :: .int .i64 0 :: .int .i64 0 :: .int .i64 0 :: .int .i64 0 :: .string ⟨#[]⟩ :: .string ⟨#[]⟩ :: .slice none 0 0 :: .int .i64 0 :: .int .i64 0 :: .int .i64 0 :: .int .i64 0 :: .int .i64 0 :: .int .i64 0 :: .slice none 0 0 :: .slice none 0 0 :: []).toArray 44)) w.heap.size (.int .i64 0 :: .int .i64 0 :: .int .i64 0 :: .int .i64 0 :: .int .i64 0 :: .int .i64 0 :: .int .i64 0 :: .int .i64 0 :: .int .i64 0 :: .slice none 0 0 :: .int .i64 0 :: .slice none 0 0 :: .int .i64 0 :: .int .i64 0 :: .int .i64 0 :: .int .i64 0 :: .int .i64 0 :: .slice none 0 0 :: .slice none 0 0 :: .int .i64 0 :: .int .i64 0 :: .int .i64 0 :: .int .i64 0 :: .int .i64 0 :: .int .i64 0 :: .int .i64 0 :: .int .i64 0 :: .string ⟨#[]⟩ :: .string ⟨#[]⟩ :: .slice none 0 0 :: .int .i64 0 :: .int .i64 0 :: .int .i64 0 :: .int .i64 0 :: .int .i64 0 :: .int .i64 0 :: .slice none 0 0 :: .slice none 0 0 :: []) 44) := Cl.new w (.int .i64 0 :: .int .i64 0 :: .int .i64 0 :: .int .i64 0 :: .int .i64 0 :: .int .i64 0 :: .int .i64 0 :: .int .i64 0 :: .int .i64 0 :: .slice none 0 0 :: .int .i64 0 :: .slice none 0 0 :: .int .i64 0 :: .int .i64 0 :: .int .i64 0 :: .int .i64 0 :: .int .i64 0 :: .slice none 0 0 :: .slice none 0 0 :: .int .i64 0 :: .int .i64 0 :: .int .i64 0 :: .int .i64 0 :: .int .i64 0 :: .int .i64 0 :: .int .i64 0 :: .int .i64 0 :: .string ⟨#[]⟩ :: .string ⟨#[]⟩ :: .slice none 0 0 :: .int .i64 0 :: .int .i64 0 :: .int .i64 0 :: .int .i64 0 :: .int .i64 0 :: .int .i64 0 :: .slice none 0 0 :: .slice none 0 0 :: []) _
  have B1 : Hid (Below w.heap.size w (w.alloc (.cells (.int .i64 0 :: .int .i64 0 :: .int .i64 0 :: .int .i64 0 :: .int .i64 0 :: .int .i64 0 :: .int .i64 0 :: .int .i64 0 :: .int .i64 0 :: .slice none 0 0 :: .int .i64 0 :: .slice none 0 0 :: .int .i64 0 :: .int .i64 0 :: .int .i64 0 :: .int .i64 0 :: .int .i64 0 :: .slice none 0 0 :: .slice none 0 0 :: .int .i64 0 :: .int .i64 0 :: .int .i64 0 :: .int .i64 0 :: .int .i64 0 :: .int .i64 0 :: .int .i64 0 :: .int .i64 0 :: .string ⟨#[]⟩ :: .string ⟨#[]⟩ :: .slice none 0 0 :: .int .i64 0 :: .int .i64 0 :: .int .i64 0 :: .int .i64 0 :: .int .i64 0 :: .int .i64 0 :: .slice none 0 0 :: .slice none 0 0 :: []).toArray 44))) := (Below.refl _ _).alloc (Nat.le_refl _) _
  go_enter Tryz.func26, Tryz.ntmps26
  go_upto_region 1 with (fail)
  generalize w.alloc (.cells (.int .i64 0 :: .int .i64 0 :: .int .i64 0 :: .int .i64 0 :: .int .i64 0 :: .int .i64 0 :: .int .i64 0 :: .int .i64 0 :: .int .i64 0 :: .slice none 0 0 :: .int .i64 0 :: .slice none 0 0 :: .int .i64 0 :: .int .i64 0 :: .int .i64 0 :: .int .i64 0 :: .int .i64 0 :: .slice none 0 0 :: .slice none 0 0 :: .int .i64 0 :: .int .i64 0 :: .int .i64 0 :: .int .i64 0 :: .int .i64 0 :: .int .i64 0 :: .int .i64 0 :: .int .i64 0 :: .string ⟨#[]⟩ :: .string ⟨#[]⟩ :: .slice none 0 0 :: .int .i64 0 :: .int .i64 0 :: .int .i64 0 :: .int .i64 0 :: .int .i64 0 :: .int .i64 0 :: .slice none 0 0 :: .slice none 0 0 :: []).toArray 44) = w1 at *
  obtain ⟨pr, hpr⟩ : ∃ pr, pr = w.heap.size := ⟨_, rfl⟩
  rw [← hpr] at C1 ⊢
  have HPR := Lib.hid hpr
  clear hpr
  go_wp2_with fail
  refine (HN.out _).mono ?_
  rintro e w2 ⟨rfl, hb⟩
  have B2 := Lib.hid (bt B1.out hb)
  have C2 := Lib.hid (C1.out.below hb)
  have L2 := Lib.hid (HW.out.below B2.out)
  clear hb B1 C1 HN
  go_wp2_with fail
  refine (new_any bb w2).mono ?_
  rintro e w3 ⟨rfl, hw3⟩
  have D3 : Hid (Rd w3 w2.heap.size (bb, false)) := by rw [hw3]; exact Rd.new bb w2
  have b3 : Below w2.heap.size w2 w3 := by rw [hw3]; exact (Below.refl _ _).alloc (Nat.le_refl _) _
  have C3 := Lib.hid (C2.out.below b3)
  have b23 := Lib.hid b3
  have hpp : pr ≠ w2.heap.size := Nat.ne_of_lt C2.out.lt
  have hs2 := B2.out.size
  clear hw3 b3
  obtain ⟨p, hp⟩ : ∃ p, p = w2.heap.size := ⟨_, rfl⟩
  rw [← hp] at D3 hpp ⊢
  have HP := Lib.hid hp
  have hp2 : w.heap.size ≤ p := by omega
  clear hp
  go_wp2_with fail
  refine (open_any p _ w3 D3.out).mono ?_
  rintro e w4 ⟨rfl, hr⟩
  rw [HOP.out] at hr
  have D4 := Lib.hid hr.1
  have C4 := Lib.hid (Cl.keep C3.out hr.2 hpp)
  have b24 : Hid (Below w2.heap.size w2 w4) := b23.out.trans (hr.2.toBelow b23.out.size (fun j hj e => by have := HP.out; omega))
  clear hr D3 C3 b23
  go_wp2_with fail
  refine (HRD.out p w2 w4 D4.out L2.out b24.out (Nat.le_of_eq HP.out.symm)).mono ?_
  rintro e w5 ⟨rfl, hr⟩
  have D5 := Lib.hid hr.1
  have C5 := Lib.hid (Cl.keep C4.out hr.2 hpp)
  have b25 : Hid (Below w2.heap.size w2 w5) := b24.out.trans (hr.2.toBelow b24.out.size (fun j hj e => by have := HP.out; omega))
  clear hr D4 C4 b24 HRD
  have CM : Hid ((w5.alloc (.cells (.int .i64 0 :: .int .i64 0 :: .int .i64 0 :: .int .i64 0 :: .int .i64 0 :: .int .i64 0 :: .int .i64 0 :: .int .i64 0 :: .int .i64 0 :: .slice none 0 0 :: .int .i64 0 :: .slice none 0 0 :: .int .i64 0 :: .int .i64 0 :: .int .i64 0 :: .int .i64 0 :: .int .i64 0 :: .slice none 0 0 :: .slice none 0 0 :: .int .i64 0 :: .int .i64 0 :: .int .i64 0 :: .int .i64 0 :: .int .i64 0 :: .int .i64 0 :: .int .i64 0 :: .int .i64 0 :: .string ⟨#[]⟩ :: .string ⟨#[]⟩ :: .slice none 0 0 :: .int .i64 0 :: .int .i64 0 :: .int .i64 0 :: .int .i64 0 :: .int .i64 0 :: .int .i64 0 :: .slice none 0 0 :: .slice none 0 0 :: []).toArray 44)).heap[w5.heap.size]? = some (.cells (.int .i64 0 :: .int .i64 0 :: .int .i64 0 :: .int .i64 0 :: .int .i64 0 :: .int .i64 0 :: .int .i64 0 :: .int .i64 0 :: .int .i64 0 :: .slice none 0 0 :: .int .i64 0 :: .slice none 0 0 :: .int .i64 0 :: .int .i64 0 :: .int .i64 0 :: .int .i64 0 :: .int .i64 0 :: .slice none 0 0 :: .slice none 0 0 :: .int .i64 0 :: .int .i64 0 :: .int .i64 0 :: .int .i64 0 :: .int .i64 0 :: .int .i64 0 :: .int .i64 0 :: .int .i64 0 :: .string ⟨#[]⟩ :: .string ⟨#[]⟩ :: .slice none 0 0 :: .int .i64 0 :: .int .i64 0 :: .int .i64 0 :: .int .i64 0 :: .int .i64 0 :: .int .i64 0 :: .slice none 0 0 :: .slice none 0 0 :: []).toArray 44 (0, 0))) := Cl.new w5 (.int .i64 0 :: .int .i64 0 :: .int .i64 0 :: .int .i64 0 :: .int .i64 0 :: .int .i64 0 :: .int .i64 0 :: .int .i64 0 :: .int .i64 0 :: .slice none 0 0 :: .int .i64 0 :: .slice none 0 0 :: .int .i64 0 :: .int .i64 0 :: .int .i64 0 :: .int .i64 0 :: .int .i64 0 :: .slice none 0 0 :: .slice none 0 0 :: .int .i64 0 :: .int .i64 0 :: .int .i64 0 :: .int .i64 0 :: .int .i64 0 :: .int .i64 0 :: .int .i64 0 :: .int .i64 0 :: .string ⟨#[]⟩ :: .string ⟨#[]⟩ :: .slice none 0 0 :: .int .i64 0 :: .int .i64 0 :: .int .i64 0 :: .int .i64 0 :: .int .i64 0 :: .int .i64 0 :: .slice none 0 0 :: .slice none 0 0 :: []) _
  have C6 : Hid (Cl ((w5.alloc (.cells (.int .i64 0 :: .int .i64 0 :: .int .i64 0 :: .int .i64 0 :: .int .i64 0 :: .int .i64 0 :: .int .i64 0 :: .int .i64 0 :: .int .i64 0 :: .slice none 0 0 :: .int .i64 0 :: .slice none 0 0 :: .int .i64 0 :: .int .i64 0 :: .int .i64 0 :: .int .i64 0 :: .int .i64 0 :: .slice none 0 0 :: .slice none 0 0 :: .int .i64 0 :: .int .i64 0 :: .int .i64 0 :: .int .i64 0 :: .int .i64 0 :: .int .i64 0 :: .int .i64 0 :: .int .i64 0 :: .string ⟨#[]⟩ :: .string ⟨#[]⟩ :: .slice none 0 0 :: .int .i64 0 :: .int .i64 0 :: .int .i64 0 :: .int .i64 0 :: .int .i64 0 :: .int .i64 0 :: .slice none 0 0 :: .slice none 0 0 :: []).toArray 44)).setRow w5.heap.size (.int .i64 3 :: .int .i64 f :: .int .i64 t :: .int .i64 0 :: .int .i64 0 :: .int .i64 0 :: .int .i64 0 :: .int .i64 n :: .int .i64 0 :: .slice none 0 0 :: .int .i64 0 :: .slice none 0 0 :: .int .i64 0 :: .int .i64 0 :: .int .i64 0 :: .int .i64 0 :: .int .i64 0 :: .slice none 0 0 :: .slice none 0 0 :: .int .i64 0 :: .int .i64 0 :: .int .i64 0 :: .int .i64 0 :: .int .i64 0 :: .int .i64 0 :: .int .i64 0 :: .int .i64 0 :: .string ⟨#[]⟩ :: .string ⟨#[]⟩ :: .slice none 0 0 :: .int .i64 0 :: .int .i64 0 :: .int .i64 0 :: .int .i64 0 :: .int .i64 0 :: .int .i64 0 :: .slice none 0 0 :: .slice none 0 0 :: []).toArray) w5.heap.size (.int .i64 3 :: .int .i64 f :: .int .i64 t :: .int .i64 0 :: .int .i64 0 :: .int .i64 0 :: .int .i64 0 :: .int .i64 n :: .int .i64 0 :: .slice none 0 0 :: .int .i64 0 :: .slice none 0 0 :: .int .i64 0 :: .int .i64 0 :: .int .i64 0 :: .int .i64 0 :: .int .i64 0 :: .slice none 0 0 :: .slice none 0 0 :: .int .i64 0 :: .int .i64 0 :: .int .i64 0 :: .int .i64 0 :: .int .i64 0 :: .int .i64 0 :: .int .i64 0 :: .int .i64 0 :: .string ⟨#[]⟩ :: .string ⟨#[]⟩ :: .slice none 0 0 :: .int .i64 0 :: .int .i64 0 :: .int .i64 0 :: .int .i64 0 :: .int .i64 0 :: .int .i64 0 :: .slice none 0 0 :: .slice none 0 0 :: []) 44) := Cl.row (Cl.new w5 (.int .i64 0 :: .int .i64 0 :: .int .i64 0 :: .int .i64 0 :: .int .i64 0 :: .int .i64 0 :: .int .i64 0 :: .int .i64 0 :: .int .i64 0 :: .slice none 0 0 :: .int .i64 0 :: .slice none 0 0 :: .int .i64 0 :: .int .i64 0 :: .int .i64 0 :: .int .i64 0 :: .int .i64 0 :: .slice none 0 0 :: .slice none 0 0 :: .int .i64 0 :: .int .i64 0 :: .int .i64 0 :: .int .i64 0 :: .int .i64 0 :: .int .i64 0 :: .int .i64 0 :: .int .i64 0 :: .string ⟨#[]⟩ :: .string ⟨#[]⟩ :: .slice none 0 0 :: .int .i64 0 :: .int .i64 0 :: .int .i64 0 :: .int .i64 0 :: .int .i64 0 :: .int .i64 0 :: .slice none 0 0 :: .slice none 0 0 :: []) _) _
  have b56 : Hid (Below w5.heap.size w5 ((w5.alloc (.cells (.int .i64 0 :: .int .i64 0 :: .int .i64 0 :: .int .i64 0 :: .int .i64 0 :: .int .i64 0 :: .int .i64 0 :: .int .i64 0 :: .int .i64 0 :: .slice none 0 0 :: .int .i64 0 :: .slice none 0 0 :: .int .i64 0 :: .int .i64 0 :: .int .i64 0 :: .int .i64 0 :: .int .i64 0 :: .slice none 0 0 :: .slice none 0 0 :: .int .i64 0 :: .int .i64 0 :: .int .i64 0 :: .int .i64 0 :: .int .i64 0 :: .int .i64 0 :: .int .i64 0 :: .int .i64 0 :: .string ⟨#[]⟩ :: .string ⟨#[]⟩ :: .slice none 0 0 :: .int .i64 0 :: .int .i64 0 :: .int .i64 0 :: .int .i64 0 :: .int .i64 0 :: .int .i64 0 :: .slice none 0 0 :: .slice none 0 0 :: []).toArray 44)).setRow w5.heap.size (.int .i64 3 :: .int .i64 f :: .int .i64 t :: .int .i64 0 :: .int .i64 0 :: .int .i64 0 :: .int .i64 0 :: .int .i64 n :: .int .i64 0 :: .slice none 0 0 :: .int .i64 0 :: .slice none 0 0 :: .int .i64 0 :: .int .i64 0 :: .int .i64 0 :: .int .i64 0 :: .int .i64 0 :: .slice none 0 0 :: .slice none 0 0 :: .int .i64 0 :: .int .i64 0 :: .int .i64 0 :: .int .i64 0 :: .int .i64 0 :: .int .i64 0 :: .int .i64 0 :: .int .i64 0 :: .string ⟨#[]⟩ :: .string ⟨#[]⟩ :: .slice none 0 0 :: .int .i64 0 :: .int .i64 0 :: .int .i64 0 :: .int .i64 0 :: .int .i64 0 :: .int .i64 0 :: .slice none 0 0 :: .slice none 0 0 :: []).toArray)) := ((Below.refl _ _).alloc (Nat.le_refl _) _).trans ((Keeps.row (S := fun j => j = w5.heap.size) _ w5.heap.size _ rfl).toBelow (by simp) (fun k hk e => by omega))
  go_upto_region 7 with (refine wpList_store_row (by rfl) _ _ _ (by rfl) w5.heap.size (.int .i64 3 :: .int .i64 f :: .int .i64 t :: .int .i64 0 :: .int .i64 0 :: .int .i64 0 :: .int .i64 0 :: .int .i64 n :: .int .i64 0 :: .slice none 0 0 :: .int .i64 0 :: .slice none 0 0 :: .int .i64 0 :: .int .i64 0 :: .int .i64 0 :: .int .i64 0 :: .int .i64 0 :: .slice none 0 0 :: .slice none 0 0 :: .int .i64 0 :: .int .i64 0 :: .int .i64 0 :: .int .i64 0 :: .int .i64 0 :: .int .i64 0 :: .int .i64 0 :: .int .i64 0 :: .string ⟨#[]⟩ :: .string ⟨#[]⟩ :: .slice none 0 0 :: .int .i64 0 :: .int .i64 0 :: .int .i64 0 :: .int .i64 0 :: .int .i64 0 :: .int .i64 0 :: .slice none 0 0 :: .slice none 0 0 :: []).toArray (by rfl) (by rfl) 44 _ CM.out HI39.out HSZ.out HONE.out ?_)
  generalize (w5.alloc (.cells (.int .i64 0 :: .int .i64 0 :: .int .i64 0 :: .int .i64 0 :: .int .i64 0 :: .int .i64 0 :: .int .i64 0 :: .int .i64 0 :: .int .i64 0 :: .slice none 0 0 :: .int .i64 0 :: .slice none 0 0 :: .int .i64 0 :: .int .i64 0 :: .int .i64 0 :: .int .i64 0 :: .int .i64 0 :: .slice none 0 0 :: .slice none 0 0 :: .int .i64 0 :: .int .i64 0 :: .int .i64 0 :: .int .i64 0 :: .int .i64 0 :: .int .i64 0 :: .int .i64 0 :: .int .i64 0 :: .string ⟨#[]⟩ :: .string ⟨#[]⟩ :: .slice none 0 0 :: .int .i64 0 :: .int .i64 0 :: .int .i64 0 :: .int .i64 0 :: .int .i64 0 :: .int .i64 0 :: .slice none 0 0 :: .slice none 0 0 :: []).toArray 44)).setRow w5.heap.size (.int .i64 3 :: .int .i64 f :: .int .i64 t :: .int .i64 0 :: .int .i64 0 :: .int .i64 0 :: .int .i64 0 :: .int .i64 n :: .int .i64 0 :: .slice none 0 0 :: .int .i64 0 :: .slice none 0 0 :: .int .i64 0 :: .int .i64 0 :: .int .i64 0 :: .int .i64 0 :: .int .i64 0 :: .slice none 0 0 :: .slice none 0 0 :: .int .i64 0 :: .int .i64 0 :: .int .i64 0 :: .int .i64 0 :: .int .i64 0 :: .int .i64 0 :: .int .i64 0 :: .int .i64 0 :: .string ⟨#[]⟩ :: .string ⟨#[]⟩ :: .slice none 0 0 :: .int .i64 0 :: .int .i64 0 :: .int .i64 0 :: .int .i64 0 :: .int .i64 0 :: .int .i64 0 :: .slice none 0 0 :: .slice none 0 0 :: []).toArray = w6 at *
  have D6 := Lib.hid (D5.out.below b56.out)
  have CR6 := Lib.hid (C5.out.below b56.out)
  have b26 : Hid (Below w2.heap.size w2 w6) := bt b25.out b56.out
  have hpm : w5.heap.size ≠ p := by have := D5.out.lt; omega
  have hpm2 : w5.heap.size ≠ pr := by have := C5.out.lt; omega
  clear D5 C5 b25 b56 CM
  generalize w5.heap.size = pm at *
  go_wp2_with fail
  refine (close_any p _ w6 D6.out).mono ?_
  rintro e w7 ⟨rfl, hr⟩
  rw [HCL.out] at hr
  have D7 := Lib.hid hr.1
  have CR7 := Lib.hid (Cl.keep CR6.out hr.2 hpp)
  have CM7 := Lib.hid (Cl.keep C6.out hr.2 hpm)
  have b27 : Hid (Below w2.heap.size w2 w7) := b26.out.trans (hr.2.toBelow b26.out.size (fun j hj e => by have := HP.out; omega))
  have HD := Lib.hid (done_is p ([], false) 0 rfl w7 D7.out)
  clear hr D6 C6 CR6 b26
  have hfl : fr.length = 8 + bb.length := HPL.out
  have R7 := Lib.hid CM7.out.range
  go_wp2_with fail
  refine HD.out.mono ?_
  rintro e w8 ⟨rfl, rfl⟩
  clear HD
  go_wp2_with (refine wpList_load_yes (by rfl) _ _ (by rfl) pm 0 (by rfl) (.int .i64 3 :: .int .i64 f :: .int .i64 t :: .int .i64 0 :: .int .i64 0 :: .int .i64 0 :: .int .i64 0 :: .int .i64 n :: .int .i64 0 :: .slice none 0 0 :: .int .i64 0 :: .slice none 0 0 :: .int .i64 0 :: .int .i64 0 :: .int .i64 0 :: .int .i64 0 :: .int .i64 0 :: .slice none 0 0 :: .slice none 0 0 :: .int .i64 0 :: .int .i64 0 :: .int .i64 0 :: .int .i64 0 :: .int .i64 0 :: .int .i64 0 :: .int .i64 0 :: .int .i64 0 :: .string ⟨#[]⟩ :: .string ⟨#[]⟩ :: .slice none 0 0 :: .int .i64 0 :: .int .i64 0 :: .int .i64 0 :: .int .i64 0 :: .int .i64 0 :: .int .i64 0 :: .slice none 0 0 :: .slice none 0 0 :: []) _ R7.out HU.out (by rfl) HI38.out ?_)
  refine (HG.out _).mono ?_
  rintro e w9 ⟨rfl, hb⟩
  have CR9 := Lib.hid (CR7.out.below hb)
  have R9 := Lib.hid (CM7.out.below hb).range
  have b29 := Lib.hid (bt b27.out hb)
  clear hb HG CR7 CM7 R7 b27 D7
  have CQ : Hid (w9.heap[pr]? = some (.cells (.int .i64 0 :: .int .i64 0 :: .int .i64 0 :: .int .i64 0 :: .int .i64 0 :: .int .i64 0 :: .int .i64 0 :: .int .i64 0 :: .int .i64 0 :: .slice none 0 0 :: .int .i64 0 :: .slice none 0 0 :: .int .i64 0 :: .int .i64 0 :: .int .i64 0 :: .int .i64 0 :: .int .i64 0 :: .slice none 0 0 :: .slice none 0 0 :: .int .i64 0 :: .int .i64 0 :: .int .i64 0 :: .int .i64 0 :: .int .i64 0 :: .int .i64 0 :: .int .i64 0 :: .int .i64 0 :: .string ⟨#[]⟩ :: .string ⟨#[]⟩ :: .slice none 0 0 :: .int .i64 0 :: .int .i64 0 :: .int .i64 0 :: .int .i64 0 :: .int .i64 0 :: .int .i64 0 :: .slice none 0 0 :: .slice none 0 0 :: []).toArray 44 (0, 0))) := CR9.out
  have CF : Hid (Cl (w9.setRow pr (.int .i64 3 :: .int .i64 f :: .int .i64 t :: .int .i64 0 :: .int .i64 0 :: .int .i64 0 :: .int .i64 0 :: .int .i64 n :: .int .i64 0 :: .slice none 0 0 :: .int .i64 0 :: .slice none 0 0 :: .int .i64 0 :: .int .i64 0 :: .int .i64 0 :: .int .i64 0 :: .int .i64 0 :: .slice none 0 0 :: .slice none 0 0 :: .int .i64 0 :: .int .i64 0 :: .int .i64 0 :: .int .i64 0 :: .int .i64 0 :: .int .i64 0 :: .int .i64 0 :: .int .i64 0 :: .string ⟨#[]⟩ :: .string ⟨#[]⟩ :: .slice none 0 0 :: .int .i64 0 :: .int .i64 0 :: .int .i64 0 :: .int .i64 0 :: .int .i64 0 :: .int .i64 0 :: .slice none 0 0 :: .slice none 0 0 :: []).toArray) pr (.int .i64 3 :: .int .i64 f :: .int .i64 t :: .int .i64 0 :: .int .i64 0 :: .int .i64 0 :: .int .i64 0 :: .int .i64 n :: .int .i64 0 :: .slice none 0 0 :: .int .i64 0 :: .slice none 0 0 :: .int .i64 0 :: .int .i64 0 :: .int .i64 0 :: .int .i64 0 :: .int .i64 0 :: .slice none 0 0 :: .slice none 0 0 :: .int .i64 0 :: .int .i64 0 :: .int .i64 0 :: .int .i64 0 :: .int .i64 0 :: .int .i64 0 :: .int .i64 0 :: .int .i64 0 :: .string ⟨#[]⟩ :: .string ⟨#[]⟩ :: .slice none 0 0 :: .int .i64 0 :: .int .i64 0 :: .int .i64 0 :: .int .i64 0 :: .int .i64 0 :: .int .i64 0 :: .slice none 0 0 :: .slice none 0 0 :: []) 44) := CR9.out.row _
  have BF : Hid (Below w.heap.size w (w9.setRow pr (.int .i64 3 :: .int .i64 f :: .int .i64 t :: .int .i64 0 :: .int .i64 0 :: .int .i64 0 :: .int .i64 0 :: .int .i64 n :: .int .i64 0 :: .slice none 0 0 :: .int .i64 0 :: .slice none 0 0 :: .int .i64 0 :: .int .i64 0 :: .int .i64 0 :: .int .i64 0 :: .int .i64 0 :: .slice none 0 0 :: .slice none 0 0 :: .int .i64 0 :: .int .i64 0 :: .int .i64 0 :: .int .i64 0 :: .int .i64 0 :: .int .i64 0 :: .int .i64 0 :: .int .i64 0 :: .string ⟨#[]⟩ :: .string ⟨#[]⟩ :: .slice none 0 0 :: .int .i64 0 :: .int .i64 0 :: .int .i64 0 :: .int .i64 0 :: .int .i64 0 :: .int .i64 0 :: .slice none 0 0 :: .slice none 0 0 :: []).toArray)) := by
    have b9 : Below w.heap.size w w9 := bt B2.out b29.out
    exact b9.trans ((Keeps.row (S := fun j => j = pr) w9 pr _ rfl).toBelow b9.size (fun k hk e => by have := HPR.out; omega))
  go_wp2_with (first
    | (refine wpList_load_mid (by rfl) _ _ (by rfl) pm 0 (by rfl) (.int .i64 3 :: .int .i64 f :: .int .i64 t :: .int .i64 0 :: .int .i64 0 :: .int .i64 0 :: .int .i64 0 :: .int .i64 n :: .int .i64 0 :: .slice none 0 0 :: .int .i64 0 :: .slice none 0 0 :: .int .i64 0 :: .int .i64 0 :: .int .i64 0 :: .int .i64 0 :: .int .i64 0 :: .slice none 0 0 :: .slice none 0 0 :: .int .i64 0 :: .int .i64 0 :: .int .i64 0 :: .int .i64 0 :: .int .i64 0 :: .int .i64 0 :: .int .i64 0 :: .int .i64 0 :: .string ⟨#[]⟩ :: .string ⟨#[]⟩ :: .slice none 0 0 :: .int .i64 0 :: .int .i64 0 :: .int .i64 0 :: .int .i64 0 :: .int .i64 0 :: .int .i64 0 :: .slice none 0 0 :: .slice none 0 0 :: []) _ R9.out HU.out (by rfl) HI38.out ?_)
    | (refine wpList_store_row (by rfl) _ _ _ (by rfl) pr (.int .i64 3 :: .int .i64 f :: .int .i64 t :: .int .i64 0 :: .int .i64 0 :: .int .i64 0 :: .int .i64 0 :: .int .i64 n :: .int .i64 0 :: .slice none 0 0 :: .int .i64 0 :: .slice none 0 0 :: .int .i64 0 :: .int .i64 0 :: .int .i64 0 :: .int .i64 0 :: .int .i64 0 :: .slice none 0 0 :: .slice none 0 0 :: .int .i64 0 :: .int .i64 0 :: .int .i64 0 :: .int .i64 0 :: .int .i64 0 :: .int .i64 0 :: .int .i64 0 :: .int .i64 0 :: .string ⟨#[]⟩ :: .string ⟨#[]⟩ :: .slice none 0 0 :: .int .i64 0 :: .int .i64 0 :: .int .i64 0 :: .int .i64 0 :: .int .i64 0 :: .int .i64 0 :: .slice none 0 0 :: .slice none 0 0 :: []).toArray (by rfl) (by rfl) 44 _ CQ.out HI39.out HSZ.out HONE.out ?_))
  refine bodyPost_ret (results_cl_tmp rfl _ _ _ _ _ _ rfl CF.out Tryz.underlying44 rfl (by kernel_rfl)) rfl ?_
  exact ⟨rfl, BF.out⟩

end Go.Proofs.YtbljbdjmgogknaaGreatDoor
