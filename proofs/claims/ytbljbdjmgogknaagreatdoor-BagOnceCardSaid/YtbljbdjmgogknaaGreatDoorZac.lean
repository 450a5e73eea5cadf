/-
  Wt / Crs / Shelf / Bwa / Bwb: texts of one proof, one behind the other.
  Conditions: none of its own.
-/
import Derived.Test.YtbljbdjmgogknaaGreatDoorZaa
import Derived.Test.YtbljbdjmgogknaaGreatDoorZab
import Derived.Lib.ItoaLen
import Derived.Shelf.Strings.Builder1
import Derived.Shelf.Strings.Builder2
import Derived.Shelf.Strings.OnBuilder
import Derived.Shelf.Small.Wraps
import Derived.Shelf.Strconv.Atoi
import Derived.Shelf.Strconv.Itoa0
import Derived.Shelf.Strconv.Itoa1
import Derived.Shelf.LaysM
import Derived.Shelf.Strconv.Itoa2
import Derived.Shelf.Strconv.Itoa3
import Derived.Shelf.Strconv.AtoiErrFast
import Derived.Shelf.Strconv.ParseIntEmpty
import Derived.Shelf.Strconv.AtoiFail
import Derived.Shelf.Strconv.Clone
import Derived.Shelf.Strconv.SyntaxError
import Derived.Shelf.LaysC
import Derived.Shelf.Strconv.ToError
import Derived.Shelf.Strconv.Lower
import Derived.Shelf.Strconv.ParseUint10
import Derived.Shelf.Strconv.ParseUint10Empty
import Derived.Shelf.Strconv.ParseUint10Any
import Derived.Shelf.Strconv.ParseInt10
import Derived.Shelf.Strconv.AtoiLong
import Derived.Shelf.Strconv.AtoiInnerAll
import Derived.Shelf.Strconv.RangeError
import Derived.Shelf.Strconv.ToErrorRange
import Derived.Shelf.Strconv.AtoiAll
import Derived.Shelf.Strconv.ErrVarAll
import Derived.Shelf.Strings.Search1
import Derived.Shelf.Strings.Search2
import Derived.Shelf.Strings.Cut
import Derived.Shelf.Strings.Shaped
import Derived.Shelf.Strings.Prefix
import Derived.Test.YtbljbdjmgogknaaGreatDoorProg
import Derived.Test.YtbljbdjmgogknaaGreatDoorRows
import Derived.Lib.Join
import Derived.WalkSmall
import Derived.ScopeJumps
import Derived.WalkMore
/-
  Wire: whether two tables, two messages are the same (printed by wip/gen/mkwsame2.py).
  Conditions: none but the model's longest length.
-/
set_option linter.unusedVariables false
set_option linter.unusedSimpArgs false
namespace Go.Proofs.YtbljbdjmgogknaaGreatDoor
open Go.RowKit

set_option maxRecDepth 20000 in
set_option maxHeartbeats 1600000 in
theorem seen_any (p q : Int) (l r : List Wi.Slot) (sv tv : Value) (w : World) (h1 : Rw 3 slotC w sv l) (h2 : Rw 3 slotC w tv r) (hl : l.length ≤ maxLen) (hr : r.length ≤ maxLen) :
    Calls Tryz.prog 66 #[.agg #[.int .i64 p, sv], .agg #[.int .i64 q, tv]] w fun e w' => e = .returned (.bool (decide ((p, l) = (q, r)))) ∧ Below w.heap.size w w' := by
  have HA := Lib.hid h1
  have HB := Lib.hid h2
  obtain ⟨sa, ca, rfl⟩ := h1.form
  obtain ⟨sb, cb, rfl⟩ := h2.form
  have LL := Lib.hid hl
  have LR := Lib.hid hr
  unfold maxLen at hl hr
  clear h1 h2
  go_enter Tryz.func66, Tryz.ntmps66
  obtain ⟨w1, hw1, CA, CB, B1⟩ := twoBox (w := w) [.int .i64 p, .slice sa l.length ca] [.int .i64 q, .slice sb r.length cb] 70
  go_upto_region 1 with (fail)
  first | rw [hw1] | skip
  clear hw1
  generalize w.heap.size + 1 = pb at *
  have RA := Lib.hid (HA.out.kept B1.out)
  have RB := Lib.hid (HB.out.kept B1.out)
  have BW : Hid (∀ W, Below w1.heap.size w1 W → Below w.heap.size w W) := fun W h => bt B1.out h
  generalize w.heap.size = pa at CA ⊢
  have a0 := CA.out.cell 0
  have a1 := CA.out.cell 1
  have b0 := CB.out.cell 0
  have b1 := CB.out.cell 1
  simp only [List.getElem?_cons_zero, List.getElem?_cons_succ] at a0 a1 b0 b1
  by_cases e0 : p = q
  rotate_left
  · go_wp2
    go_ret
    exact ⟨by simp [e0], BW.out _ (Below.refl _ _)⟩
  subst e0
  have HQ := Lib.hid (eqSlots_any l r LL.out LR.out _ _ _ RA.out RB.out)
  go_wp2_with fail
  refine HQ.out.mono ?_
  rintro e w5 ⟨rfl, hb5⟩
  have B5 := Lib.hid (BW.out _ hb5)
  clear hb5
  go_wp2
  go_ret
  exact ⟨by simp, B5.out⟩
set_option maxRecDepth 20000 in
set_option maxHeartbeats 1600000 in
theorem eqSeens_any (l r : List Wi.Seen) (hl : l.length ≤ maxLen ∧ ∀ x ∈ l, x.2.length ≤ maxLen) (hr : r.length ≤ maxLen ∧ ∀ x ∈ r, x.2.length ≤ maxLen) (lv rv : Value) (w : World) (h1 : Tbl w lv l) (h2 : Tbl w rv r) :
    Calls Tryz.prog 65 #[lv, rv, .func (.func 66) #[] #[]] w fun e w' => e = .returned (.bool (decide (l = r))) ∧ Below w.heap.size w w' := by
  have H1 := Lib.hid h1
  have H2 := Lib.hid h2
  obtain ⟨a1, cap1, rfl⟩ := h1.form
  obtain ⟨a2, cap2, rfl⟩ := h2.form
  obtain ⟨hl, hl2⟩ := hl
  obtain ⟨hr, hr2⟩ := hr
  have LL := Lib.hid hl2
  have LR := Lib.hid hr2
  unfold maxLen at hl hr
  clear h1 h2 hl2 hr2
  by_cases hlen : l.length = r.length
  · have HLEN := Lib.hid hlen
    have hne : ((l.length : Int) != (r.length : Int)) = false := by simp [hlen]
    clear hlen
    go_enter Tryz.func65, Tryz.ntmps65
    go_wp2
    go_loopw [17] (fun i wr => ∃ k : Nat, i = .int .i64 k ∧ k ≤ l.length ∧ decide (l = r) = decide (l.drop k = r.drop k) ∧ Below w.heap.size w wr) (fun i _ => l.length - (intOf i).toNat)
    case atStart => exact ⟨0, rfl, by omega, rfl, Below.refl _ _⟩
    case round =>
      obtain ⟨k, rfl, hk, hq, hb⟩ := hrel
      have HQ := Lib.hid hq
      have HB := Lib.hid hb
      clear hq hb
      by_cases hlt : k < l.length
      · obtain ⟨x, hx⟩ : ∃ x, l[k]? = some x := ⟨l[k], by simp [hlt]⟩
        obtain ⟨y, hy⟩ : ∃ y, r[k]? = some y := ⟨r[k]'(by have := HLEN.out; omega), by simp [← HLEN.out, hlt]⟩
        have HS := Lib.hid (Wi.eq_step (α := Wi.Seen) hx hy)
        have lx := Lib.hid (LL.out x (List.mem_of_getElem? hx))
        have ly := Lib.hid (LR.out y (List.mem_of_getElem? hy))
        obtain ⟨g, off, cap', sv, he, hg, p0, p1, ps⟩ := H1.out.get HB.out hx
        injection he with he1 he2 he3
        subst he1 he3
        obtain ⟨g2, off2, cap2', tv, he', hg2, s0, s1, ss⟩ := H2.out.get HB.out hy
        injection he' with he1' he2' he3'
        subst he1' he3'
        obtain ⟨xp, xs⟩ := x
        obtain ⟨yp, ys⟩ := y
        have PS := Lib.hid ps
        have SS := Lib.hid ss
        obtain ⟨s1a, s1c, rfl⟩ := ps.form
        obtain ⟨s2a, s2c, rfl⟩ := ss.form
        dsimp only at *
        clear he2 he2' ps ss
        have hk2 : k < r.length := by have := HLEN.out; omega
        have C1 : Hid (Cl (wr.alloc (.cells #[.int .i64 xp, .slice s1a xs.length s1c] 70)) wr.heap.size [.int .i64 xp, .slice s1a xs.length s1c] 70) := Cl.new wr _ _
        have b1 : Below wr.heap.size wr (wr.alloc (.cells #[.int .i64 xp, .slice s1a xs.length s1c] 70)) := (Below.refl _ _).alloc (Nat.le_refl _) _
        have s01 := (b1.cell (World.block_lt_of_cell? wr _ s0)).trans s0
        have s11 := (b1.cell (World.block_lt_of_cell? wr _ s1)).trans s1
        have SS1 := Lib.hid (SS.out.kept b1)
        have PS1 := Lib.hid (PS.out.kept b1)
        have HB1 := Lib.hid (bt HB.out b1)
        go_upto_region 6 with (fail)
        generalize wr.alloc (.cells #[.int .i64 xp, .slice s1a xs.length s1c] 70) = w3 at *
        generalize wr.heap.size = q1 at *
        clear p0 p1 s0 s1 b1 SS PS HB
        have C2 : Hid (Cl (w3.alloc (.cells #[.int .i64 yp, .slice s2a ys.length s2c] 70)) w3.heap.size [.int .i64 yp, .slice s2a ys.length s2c] 70) := Cl.new w3 _ _
        have b1 : Below w3.heap.size w3 (w3.alloc (.cells #[.int .i64 yp, .slice s2a ys.length s2c] 70)) := (Below.refl _ _).alloc (Nat.le_refl _) _
        have SS2 := Lib.hid (SS1.out.kept b1)
        have PS2 := Lib.hid (PS1.out.kept b1)
        have HB2 := Lib.hid (bt HB1.out b1)
        have C12 := Lib.hid (C1.out.below b1)
        go_upto_region 7 with (fail)
        generalize w3.alloc (.cells #[.int .i64 yp, .slice s2a ys.length s2c] 70) = w4 at *
        generalize w3.heap.size = q2 at *
        clear s01 s11 b1 SS1 PS1 HB1 C1
        have c0 := C12.out.cell 0
        have c1 := C12.out.cell 1
        have d0 := C2.out.cell 0
        have d1 := C2.out.cell 1
        simp only [List.getElem?_cons_zero, List.getElem?_cons_succ] at c0 c1 d0 d1
        have HN := Lib.hid (seen_any xp yp xs ys _ _ w4 PS2.out SS2.out lx.out ly.out)
        clear PS2 SS2 C12 C2
        go_wp2_with fail
        refine HN.out.mono ?_
        rintro e w5 ⟨rfl, hb5⟩
        have B5 := Lib.hid (bt HB2.out hb5)
        clear hb5 HN HB2 c0 c1 d0 d1
        cases hb : decide ((xp, xs) = (yp, ys)) with
        | true =>
          have HX : Hid (decide (l = r) = decide (l.drop (k + 1) = r.drop (k + 1))) := by rw [Hid, HQ.out, HS.out, hb]; rfl
          clear HS hb HQ
          go_wp2
          go_roundw
          case rel => exact ⟨k + 1, by go_num, by omega, HX.out, B5.out⟩
          case measure => simp [intOf]; omega
        | false =>
          have HX : Hid (decide (l = r) = false) := by rw [Hid, HQ.out, HS.out, hb]; rfl
          clear HS hb HQ
          go_wp2
          go_ret
          exact ⟨by rw [HX.out]; rfl, B5.out⟩
      · obtain rfl : k = l.length := by omega
        have HX : Hid (decide (l = r) = true) := by rw [Hid, HQ.out]; exact Wi.eq_end HLEN.out
        go_wp2
        go_ret
        exact ⟨by rw [HX.out]; rfl, HB.out⟩
  · have HX := Lib.hid (Wi.eq_len hlen)
    go_enter Tryz.func65, Tryz.ntmps65
    go_wp2
    go_ret
    exact ⟨by rw [HX.out]; rfl, Below.refl _ _⟩
theorem sameTables_any (l r : List Wi.Seen) (hl : l.length ≤ maxLen ∧ ∀ x ∈ l, x.2.length ≤ maxLen) (hr : r.length ≤ maxLen ∧ ∀ x ∈ r, x.2.length ≤ maxLen) (lv rv : Value) (w : World) (h1 : Tbl w lv l) (h2 : Tbl w rv r) :
    Calls Tryz.prog 41 #[lv, rv] w fun e w' => e = .returned (.bool (decide (l = r))) ∧ Below w.heap.size w w' := by
  have HE := Lib.hid (eqSeens_any l r hl hr lv rv w h1 h2)
  clear hl hr h1 h2
  go_enter Tryz.func41, Tryz.ntmps41
  go_wp2_with fail
  refine HE.out.mono ?_
  rintro e w1 ⟨rfl, hb⟩
  have B := Lib.hid hb
  clear hb
  go_wp2
  go_ret
  exact ⟨rfl, B.out⟩
set_option maxRecDepth 20000 in
set_option maxHeartbeats 12800000 in
theorem wsame_any (a b : Wi.Msg) (va vb : MsgV) (w : World) (ha : MsgAt w a va) (hb : MsgAt w b vb) (oa : MsgOk a) (ob : MsgOk b) :
    Calls Tryz.prog 22 #[msgV a va, msgV b vb] w fun e w' => e = .returned (.bool (Wi.same a b)) ∧ Below w.heap.size w w' := by
  have HA := Lib.hid ha
  have HB := Lib.hid hb
  have OA := Lib.hid oa
  have OB := Lib.hid ob
  obtain ⟨s0, sc0, hh0⟩ := ha.chain.form
  obtain ⟨s1, sc1, hh1⟩ := ha.lives.form
  obtain ⟨s2, sc2, hh2⟩ := ha.brecs.form
  obtain ⟨s3, sc3, hh3⟩ := ha.table.form
  obtain ⟨s4, sc4, hh4⟩ := ha.qrecs.form
  obtain ⟨s5, sc5, hh5⟩ := ha.parts.form
  obtain ⟨s6, sc6, hh6⟩ := ha.arecs.form
  obtain ⟨va0, va1, va2, va3, va4, va5, va6⟩ := va
  dsimp only at hh0 hh1 hh2 hh3 hh4 hh5 hh6
  subst hh0 hh1 hh2 hh3 hh4 hh5 hh6
  obtain ⟨t0, tc0, hh0⟩ := hb.chain.form
  obtain ⟨t1, tc1, hh1⟩ := hb.lives.form
  obtain ⟨t2, tc2, hh2⟩ := hb.brecs.form
  obtain ⟨t3, tc3, hh3⟩ := hb.table.form
  obtain ⟨t4, tc4, hh4⟩ := hb.qrecs.form
  obtain ⟨t5, tc5, hh5⟩ := hb.parts.form
  obtain ⟨t6, tc6, hh6⟩ := hb.arecs.form
  obtain ⟨vb0, vb1, vb2, vb3, vb4, vb5, vb6⟩ := vb
  dsimp only at hh0 hh1 hh2 hh3 hh4 hh5 hh6
  subst hh0 hh1 hh2 hh3 hh4 hh5 hh6
  obtain ⟨x_kind, x_frm, x_to, x_part, x_ep, x_off, x_high, x_life, x_pep, x_chain, x_learner, x_lives, x_batch, x_table, x_req, x_resp⟩ := a
  obtain ⟨y_kind, y_frm, y_to, y_part, y_ep, y_off, y_high, y_life, y_pep, y_chain, y_learner, y_lives, y_batch, y_table, y_req, y_resp⟩ := b
  dsimp only at *
  have HE : Hid (Wi.same ⟨x_kind, x_frm, x_to, x_part, x_ep, x_off, x_high, x_life, x_pep, x_chain, x_learner, x_lives, x_batch, x_table, x_req, x_resp⟩ ⟨y_kind, y_frm, y_to, y_part, y_ep, y_off, y_high, y_life, y_pep, y_chain, y_learner, y_lives, y_batch, y_table, y_req, y_resp⟩ = (Wi.nums ⟨x_kind, x_frm, x_to, x_part, x_ep, x_off, x_high, x_life, x_pep, x_chain, x_learner, x_lives, x_batch, x_table, x_req, x_resp⟩ ⟨y_kind, y_frm, y_to, y_part, y_ep, y_off, y_high, y_life, y_pep, y_chain, y_learner, y_lives, y_batch, y_table, y_req, y_resp⟩ && (Wi.places ⟨x_kind, x_frm, x_to, x_part, x_ep, x_off, x_high, x_life, x_pep, x_chain, x_learner, x_lives, x_batch, x_table, x_req, x_resp⟩ ⟨y_kind, y_frm, y_to, y_part, y_ep, y_off, y_high, y_life, y_pep, y_chain, y_learner, y_lives, y_batch, y_table, y_req, y_resp⟩ && (Cr.same x_batch y_batch && (decide (x_table = y_table) && (Wi.reqEq x_req y_req && Wi.respEq x_resp y_resp)))))) := rfl
  generalize hr : Wi.same ⟨x_kind, x_frm, x_to, x_part, x_ep, x_off, x_high, x_life, x_pep, x_chain, x_learner, x_lives, x_batch, x_table, x_req, x_resp⟩ ⟨y_kind, y_frm, y_to, y_part, y_ep, y_off, y_high, y_life, y_pep, y_chain, y_learner, y_lives, y_batch, y_table, y_req, y_resp⟩ = res at *
  clear hr ha hb oa ob
  unfold msgV msgC
  dsimp only
  go_enter Tryz.func22, Tryz.ntmps22
  obtain ⟨w1, hw1, CA, CB, B1⟩ := twoBox (w := w) [.int .i64 x_kind, .int .i64 x_frm, .int .i64 x_to, .int .i64 x_part, .int .i64 x_ep, .int .i64 x_off, .int .i64 x_high, .int .i64 x_life, .int .i64 x_pep, .slice s0 x_chain.length sc0, .int .i64 x_learner, .slice s1 x_lives.length sc1, .int .i64 x_batch.base, .int .i64 x_batch.count, .int .i64 x_batch.prod, .int .i64 x_batch.seq, .int .i64 x_batch.time, .slice s2 x_batch.recs.length sc2, .slice s3 x_table.length sc3, .int .i64 x_req.client, .int .i64 x_req.n, .int .i64 x_req.kind, .int .i64 x_req.part, .int .i64 x_req.seq, .int .i64 x_req.off, .int .i64 x_req.max, .int .i64 x_req.gen, .string ⟨x_req.group.toArray⟩, .string ⟨x_req.member.toArray⟩, .slice s4 x_req.recs.length sc4, .int .i64 x_resp.client, .int .i64 x_resp.n, .int .i64 x_resp.code, .int .i64 x_resp.off, .int .i64 x_resp.high, .int .i64 x_resp.gen, .slice s5 x_resp.parts.length sc5, .slice s6 x_resp.recs.length sc6] [.int .i64 y_kind, .int .i64 y_frm, .int .i64 y_to, .int .i64 y_part, .int .i64 y_ep, .int .i64 y_off, .int .i64 y_high, .int .i64 y_life, .int .i64 y_pep, .slice t0 y_chain.length tc0, .int .i64 y_learner, .slice t1 y_lives.length tc1, .int .i64 y_batch.base, .int .i64 y_batch.count, .int .i64 y_batch.prod, .int .i64 y_batch.seq, .int .i64 y_batch.time, .slice t2 y_batch.recs.length tc2, .slice t3 y_table.length tc3, .int .i64 y_req.client, .int .i64 y_req.n, .int .i64 y_req.kind, .int .i64 y_req.part, .int .i64 y_req.seq, .int .i64 y_req.off, .int .i64 y_req.max, .int .i64 y_req.gen, .string ⟨y_req.group.toArray⟩, .string ⟨y_req.member.toArray⟩, .slice t4 y_req.recs.length tc4, .int .i64 y_resp.client, .int .i64 y_resp.n, .int .i64 y_resp.code, .int .i64 y_resp.off, .int .i64 y_resp.high, .int .i64 y_resp.gen, .slice t5 y_resp.parts.length tc5, .slice t6 y_resp.recs.length tc6] 44
  go_upto_region 1 with (fail)
  first | rw [hw1] | skip
  clear hw1
  generalize w.heap.size + 1 = pb at *
  have MA := Lib.hid (HA.out.kept B1.out)
  have MB := Lib.hid (HB.out.kept B1.out)
  have BW : Hid (∀ W, Below w1.heap.size w1 W → Below w.heap.size w W) := fun W h => bt B1.out h
  generalize w.heap.size = pa at CA ⊢
  clear HA HB
  go_cut [5] (fun t5 wz => t5 = .bool (Wi.nums ⟨x_kind, x_frm, x_to, x_part, x_ep, x_off, x_high, x_life, x_pep, x_chain, x_learner, x_lives, x_batch, x_table, x_req, x_resp⟩ ⟨y_kind, y_frm, y_to, y_part, y_ep, y_off, y_high, y_life, y_pep, y_chain, y_learner, y_lives, y_batch, y_table, y_req, y_resp⟩) ∧ wz = w1)
  case first =>
    have a0 := CA.out.cell 0
    have b0 := CB.out.cell 0
    have a1 := CA.out.cell 1
    have b1 := CB.out.cell 1
    have a2 := CA.out.cell 2
    have b2 := CB.out.cell 2
    have a3 := CA.out.cell 3
    have b3 := CB.out.cell 3
    have a4 := CA.out.cell 4
    have b4 := CB.out.cell 4
    have a5 := CA.out.cell 5
    have b5 := CB.out.cell 5
    have a6 := CA.out.cell 6
    have b6 := CB.out.cell 6
    have a7 := CA.out.cell 7
    have b7 := CB.out.cell 7
    simp only [List.getElem?_cons_zero, List.getElem?_cons_succ] at a0 b0 a1 b1 a2 b2 a3 b3 a4 b4 a5 b5 a6 b6 a7 b7
    clear CA CB MA MB BW B1 HE OA OB
    by_cases e0 : x_kind = y_kind
    rotate_left
    · have HX : Hid (Wi.nums ⟨x_kind, x_frm, x_to, x_part, x_ep, x_off, x_high, x_life, x_pep, x_chain, x_learner, x_lives, x_batch, x_table, x_req, x_resp⟩ ⟨y_kind, y_frm, y_to, y_part, y_ep, y_off, y_high, y_life, y_pep, y_chain, y_learner, y_lives, y_batch, y_table, y_req, y_resp⟩ = false) := by
        unfold Hid Wi.nums
        simp [e0]
      go_wp2
      go_meet
      case rel => exact ⟨by rw [HX.out] <;> simp [e0], rfl⟩
    subst e0
    by_cases e1 : x_frm = y_frm
    rotate_left
    · have HX : Hid (Wi.nums ⟨x_kind, x_frm, x_to, x_part, x_ep, x_off, x_high, x_life, x_pep, x_chain, x_learner, x_lives, x_batch, x_table, x_req, x_resp⟩ ⟨x_kind, y_frm, y_to, y_part, y_ep, y_off, y_high, y_life, y_pep, y_chain, y_learner, y_lives, y_batch, y_table, y_req, y_resp⟩ = false) := by
        unfold Hid Wi.nums
        simp [e1]
      go_wp2
      go_meet
      case rel => exact ⟨by rw [HX.out] <;> simp [e1], rfl⟩
    subst e1
    by_cases e2 : x_to = y_to
    rotate_left
    · have HX : Hid (Wi.nums ⟨x_kind, x_frm, x_to, x_part, x_ep, x_off, x_high, x_life, x_pep, x_chain, x_learner, x_lives, x_batch, x_table, x_req, x_resp⟩ ⟨x_kind, x_frm, y_to, y_part, y_ep, y_off, y_high, y_life, y_pep, y_chain, y_learner, y_lives, y_batch, y_table, y_req, y_resp⟩ = false) := by
        unfold Hid Wi.nums
        simp [e2]
      go_wp2
      go_meet
      case rel => exact ⟨by rw [HX.out] <;> simp [e2], rfl⟩
    subst e2
    by_cases e3 : x_part = y_part
    rotate_left
    · have HX : Hid (Wi.nums ⟨x_kind, x_frm, x_to, x_part, x_ep, x_off, x_high, x_life, x_pep, x_chain, x_learner, x_lives, x_batch, x_table, x_req, x_resp⟩ ⟨x_kind, x_frm, x_to, y_part, y_ep, y_off, y_high, y_life, y_pep, y_chain, y_learner, y_lives, y_batch, y_table, y_req, y_resp⟩ = false) := by
        unfold Hid Wi.nums
        simp [e3]
      go_wp2
      go_meet
      case rel => exact ⟨by rw [HX.out] <;> simp [e3], rfl⟩
    subst e3
    by_cases e4 : x_ep = y_ep
    rotate_left
    · have HX : Hid (Wi.nums ⟨x_kind, x_frm, x_to, x_part, x_ep, x_off, x_high, x_life, x_pep, x_chain, x_learner, x_lives, x_batch, x_table, x_req, x_resp⟩ ⟨x_kind, x_frm, x_to, x_part, y_ep, y_off, y_high, y_life, y_pep, y_chain, y_learner, y_lives, y_batch, y_table, y_req, y_resp⟩ = false) := by
        unfold Hid Wi.nums
        simp [e4]
      go_wp2
      go_meet
      case rel => exact ⟨by rw [HX.out] <;> simp [e4], rfl⟩
    subst e4
    by_cases e5 : x_off = y_off
    rotate_left
    · have HX : Hid (Wi.nums ⟨x_kind, x_frm, x_to, x_part, x_ep, x_off, x_high, x_life, x_pep, x_chain, x_learner, x_lives, x_batch, x_table, x_req, x_resp⟩ ⟨x_kind, x_frm, x_to, x_part, x_ep, y_off, y_high, y_life, y_pep, y_chain, y_learner, y_lives, y_batch, y_table, y_req, y_resp⟩ = false) := by
        unfold Hid Wi.nums
        simp [e5]
      go_wp2
      go_meet
      case rel => exact ⟨by rw [HX.out] <;> simp [e5], rfl⟩
    subst e5
    by_cases e6 : x_high = y_high
    rotate_left
    · have HX : Hid (Wi.nums ⟨x_kind, x_frm, x_to, x_part, x_ep, x_off, x_high, x_life, x_pep, x_chain, x_learner, x_lives, x_batch, x_table, x_req, x_resp⟩ ⟨x_kind, x_frm, x_to, x_part, x_ep, x_off, y_high, y_life, y_pep, y_chain, y_learner, y_lives, y_batch, y_table, y_req, y_resp⟩ = false) := by
        unfold Hid Wi.nums
        simp [e6]
      go_wp2
      go_meet
      case rel => exact ⟨by rw [HX.out] <;> simp [e6], rfl⟩
    subst e6
    by_cases e7 : x_life = y_life
    rotate_left
    · have HX : Hid (Wi.nums ⟨x_kind, x_frm, x_to, x_part, x_ep, x_off, x_high, x_life, x_pep, x_chain, x_learner, x_lives, x_batch, x_table, x_req, x_resp⟩ ⟨x_kind, x_frm, x_to, x_part, x_ep, x_off, x_high, y_life, y_pep, y_chain, y_learner, y_lives, y_batch, y_table, y_req, y_resp⟩ = false) := by
        unfold Hid Wi.nums
        simp [e7]
      go_wp2
      go_meet
      case rel => exact ⟨by rw [HX.out] <;> simp [e7], rfl⟩
    subst e7
    have HX : Hid (Wi.nums ⟨x_kind, x_frm, x_to, x_part, x_ep, x_off, x_high, x_life, x_pep, x_chain, x_learner, x_lives, x_batch, x_table, x_req, x_resp⟩ ⟨x_kind, x_frm, x_to, x_part, x_ep, x_off, x_high, x_life, y_pep, y_chain, y_learner, y_lives, y_batch, y_table, y_req, y_resp⟩ = true) := by
      unfold Hid Wi.nums
      simp
    go_wp2
    go_meet
    case rel => exact ⟨by rw [HX.out], rfl⟩
  case rest =>
    obtain ⟨rfl, hwc⟩ := hcut
    subst hwc
    generalize Wi.nums ⟨x_kind, x_frm, x_to, x_part, x_ep, x_off, x_high, x_life, x_pep, x_chain, x_learner, x_lives, x_batch, x_table, x_req, x_resp⟩ ⟨y_kind, y_frm, y_to, y_part, y_ep, y_off, y_high, y_life, y_pep, y_chain, y_learner, y_lives, y_batch, y_table, y_req, y_resp⟩ = nq at *
    have HP : Hid (Wi.places ⟨x_kind, x_frm, x_to, x_part, x_ep, x_off, x_high, x_life, x_pep, x_chain, x_learner, x_lives, x_batch, x_table, x_req, x_resp⟩ ⟨y_kind, y_frm, y_to, y_part, y_ep, y_off, y_high, y_life, y_pep, y_chain, y_learner, y_lives, y_batch, y_table, y_req, y_resp⟩ = (decide (x_pep = y_pep) && (decide (x_learner = y_learner) && (decide (x_chain = y_chain) && decide (x_lives = y_lives))))) := rfl
    generalize Wi.places ⟨x_kind, x_frm, x_to, x_part, x_ep, x_off, x_high, x_life, x_pep, x_chain, x_learner, x_lives, x_batch, x_table, x_req, x_resp⟩ ⟨y_kind, y_frm, y_to, y_part, y_ep, y_off, y_high, y_life, y_pep, y_chain, y_learner, y_lives, y_batch, y_table, y_req, y_resp⟩ = np at *
    go_upto_region 2 with (fail)
    go_cut [6] (fun t6 wz => t6 = .bool np ∧ Below wc.heap.size wc wz)
    case first =>
      have a8 := CA.out.cell 8
      have b8 := CB.out.cell 8
      have a9 := CA.out.cell 9
      have b9 := CB.out.cell 9
      have a10 := CA.out.cell 10
      have b10 := CB.out.cell 10
      have a11 := CA.out.cell 11
      have b11 := CB.out.cell 11
      simp only [List.getElem?_cons_zero, List.getElem?_cons_succ] at a8 b8 a9 b9 a10 b10 a11 b11
      by_cases e0 : x_pep = y_pep
      rotate_left
      · have HX : Hid (np = false) := by rw [Hid, HP.out, decide_eq_false e0]; rfl
        clear HE HP
        go_wp2
        go_meet
        case rel => exact ⟨by rw [HX.out], Below.refl _ _⟩
      subst e0
      by_cases e1 : x_learner = y_learner
      rotate_left
      · have HX : Hid (np = false) := by rw [Hid, HP.out, decide_eq_false e1]; simp
        clear HE HP
        go_wp2
        go_meet
        case rel => exact ⟨by rw [HX.out], Below.refl _ _⟩
      subst e1
      have HX : Hid (np = (decide (x_chain = y_chain) && decide (x_lives = y_lives))) := by rw [Hid, HP.out]; simp
      clear HP HE
      have HQ := Lib.hid (eqInts_any x_chain y_chain OA.out.c.1 OB.out.c.1 _ _ _ MA.out.chain MB.out.chain)
      go_wp2_with fail
      refine HQ.out.mono ?_
      rintro e w5 ⟨rfl, hb5⟩
      have BB := Lib.hid hb5
      have CAn := Lib.hid (CA.out.below hb5)
      have CBn := Lib.hid (CB.out.below hb5)
      have MAn := Lib.hid (MA.out.kept hb5)
      have MBn := Lib.hid (MB.out.kept hb5)
      clear hb5 HQ CA CB MA MB a8 b8 a9 b9 a10 b10 a11 b11
      cases hg : decide (x_chain = y_chain) with
      | false =>
        have HN : Hid (np = false) := by rw [Hid, HX.out, hg]; rfl
        clear hg HX
        go_wp2
        go_meet
        case rel => exact ⟨by rw [HN.out], BB.out⟩
      | true =>
        have HN : Hid (np = decide (x_lives = y_lives)) := by rw [Hid, HX.out, hg]; rfl
        clear hg HX
        have a11 := CAn.out.cell 11
        have b11 := CBn.out.cell 11
        simp only [List.getElem?_cons_zero, List.getElem?_cons_succ] at a11 b11
        have HQ := Lib.hid (eqLifes_any x_lives y_lives OA.out.l.1 OB.out.l.1 _ _ _ MAn.out.lives MBn.out.lives)
        go_wp2_with fail
        refine HQ.out.mono ?_
        rintro e w6 ⟨rfl, hb6⟩
        have BN := Lib.hid (bt BB.out hb6)
        clear hb6
        go_wp2
        go_meet
        case rel => exact ⟨by rw [HN.out], BN.out⟩
    case rest =>
      obtain ⟨rfl, hwd⟩ := hcut
      rename_i w1 wz1
      have CAn := Lib.hid (CA.out.below hwd)
      have CBn := Lib.hid (CB.out.below hwd)
      have MAn := Lib.hid (MA.out.kept hwd)
      have MBn := Lib.hid (MB.out.kept hwd)
      have BB := Lib.hid hwd
      clear hwd CA CB MA MB HP
      have CA := Lib.hid CAn.out
      have CB := Lib.hid CBn.out
      have MA := Lib.hid MAn.out
      have MB := Lib.hid MBn.out
      clear CAn CBn MAn MBn
      cases nq with
      | false =>
        have HX : Hid (res = false) := by rw [Hid, HE.out]; rfl
        go_wp2
        go_ret
        exact ⟨by rw [HX.out]; rfl, BW.out _ BB.out⟩
      | true =>
        cases np with
        | false =>
          have HX : Hid (res = false) := by rw [Hid, HE.out]; rfl
          go_wp2
          go_ret
          exact ⟨by rw [HX.out]; rfl, BW.out _ BB.out⟩
        | true =>
          have HX : Hid (res = (Cr.same x_batch y_batch && (decide (x_table = y_table) && (Wi.reqEq x_req y_req && Wi.respEq x_resp y_resp)))) := by rw [Hid, HE.out]; rfl
          clear HE
          have a12 := CA.out.cell 12
          have b12 := CB.out.cell 12
          have a13 := CA.out.cell 13
          have b13 := CB.out.cell 13
          have a14 := CA.out.cell 14
          have b14 := CB.out.cell 14
          have a15 := CA.out.cell 15
          have b15 := CB.out.cell 15
          have a16 := CA.out.cell 16
          have b16 := CB.out.cell 16
          have a17 := CA.out.cell 17
          have b17 := CB.out.cell 17
          simp only [List.getElem?_cons_zero, List.getElem?_cons_succ] at a12 b12 a13 b13 a14 b14 a15 b15 a16 b16 a17 b17

          have HQ := Lib.hid (same_any x_batch y_batch OA.out.b OB.out.b _ _ _ MA.out.brecs MB.out.brecs)
          unfold batV at HQ
          go_wp2_with fail
          refine HQ.out.mono ?_
          rintro e w5 ⟨rfl, hb5⟩
          have BN := Lib.hid (bt BB.out hb5)
          have CAn := Lib.hid (CA.out.below hb5)
          have CBn := Lib.hid (CB.out.below hb5)
          have MAn := Lib.hid (MA.out.kept hb5)
          have MBn := Lib.hid (MB.out.kept hb5)
          clear hb5 HQ CA CB MA MB BB a12 b12 a13 b13 a14 b14 a15 b15 a16 b16 a17 b17
          cases hg : Cr.same x_batch y_batch with
          | false =>
            have HN : Hid (res = false) := by rw [Hid, HX.out, hg]; rfl
            clear hg HX
            go_wp2
            go_ret
            exact ⟨by rw [HN.out]; rfl, BW.out _ BN.out⟩
          | true =>
            have HN : Hid (res = (decide (x_table = y_table) && (Wi.reqEq x_req y_req && Wi.respEq x_resp y_resp))) := by rw [Hid, HX.out, hg]; rfl
            clear hg HX
            have HX := Lib.hid HN.out
            have CA := Lib.hid CAn.out
            have CB := Lib.hid CBn.out
            have MA := Lib.hid MAn.out
            have MB := Lib.hid MBn.out
            have BB := Lib.hid BN.out
            clear HN CAn CBn MAn MBn BN
            have a18 := CA.out.cell 18
            have b18 := CB.out.cell 18
            simp only [List.getElem?_cons_zero, List.getElem?_cons_succ] at a18 b18

            have HQ := Lib.hid (sameTables_any x_table y_table ⟨OA.out.t.1, fun x hx => (OA.out.t.2 x hx).2.1⟩ ⟨OB.out.t.1, fun x hx => (OB.out.t.2 x hx).2.1⟩ _ _ _ MA.out.table MB.out.table)
            skip
            go_wp2_with fail
            refine HQ.out.mono ?_
            rintro e w5 ⟨rfl, hb5⟩
            have BN := Lib.hid (bt BB.out hb5)
            have CAn := Lib.hid (CA.out.below hb5)
            have CBn := Lib.hid (CB.out.below hb5)
            have MAn := Lib.hid (MA.out.kept hb5)
            have MBn := Lib.hid (MB.out.kept hb5)
            clear hb5 HQ CA CB MA MB BB a18 b18
            cases hg : decide (x_table = y_table) with
            | false =>
              have HN : Hid (res = false) := by rw [Hid, HX.out, hg]; rfl
              clear hg HX
              go_wp2
              go_ret
              exact ⟨by rw [HN.out]; rfl, BW.out _ BN.out⟩
            | true =>
              have HN : Hid (res = (Wi.reqEq x_req y_req && Wi.respEq x_resp y_resp)) := by rw [Hid, HX.out, hg]; rfl
              clear hg HX
              have HX := Lib.hid HN.out
              have CA := Lib.hid CAn.out
              have CB := Lib.hid CBn.out
              have MA := Lib.hid MAn.out
              have MB := Lib.hid MBn.out
              have BB := Lib.hid BN.out
              clear HN CAn CBn MAn MBn BN
              have a19 := CA.out.cell 19
              have b19 := CB.out.cell 19
              have a20 := CA.out.cell 20
              have b20 := CB.out.cell 20
              have a21 := CA.out.cell 21
              have b21 := CB.out.cell 21
              have a22 := CA.out.cell 22
              have b22 := CB.out.cell 22
              have a23 := CA.out.cell 23
              have b23 := CB.out.cell 23
              have a24 := CA.out.cell 24
              have b24 := CB.out.cell 24
              have a25 := CA.out.cell 25
              have b25 := CB.out.cell 25
              have a26 := CA.out.cell 26
              have b26 := CB.out.cell 26
              have a27 := CA.out.cell 27
              have b27 := CB.out.cell 27
              have a28 := CA.out.cell 28
              have b28 := CB.out.cell 28
              have a29 := CA.out.cell 29
              have b29 := CB.out.cell 29
              simp only [List.getElem?_cons_zero, List.getElem?_cons_succ] at a19 b19 a20 b20 a21 b21 a22 b22 a23 b23 a24 b24 a25 b25 a26 b26 a27 b27 a28 b28 a29 b29

              have HQ := Lib.hid (sameReqs_any x_req y_req _ _ _ MA.out.qrecs MB.out.qrecs OA.out.q.2.2.1 OB.out.q.2.2.1)
              unfold wreqC at HQ
              go_wp2_with fail
              refine HQ.out.mono ?_
              rintro e w5 ⟨rfl, hb5⟩
              have BN := Lib.hid (bt BB.out hb5)
              have CAn := Lib.hid (CA.out.below hb5)
              have CBn := Lib.hid (CB.out.below hb5)
              have MAn := Lib.hid (MA.out.kept hb5)
              have MBn := Lib.hid (MB.out.kept hb5)
              clear hb5 HQ CA CB MA MB BB a19 b19 a20 b20 a21 b21 a22 b22 a23 b23 a24 b24 a25 b25 a26 b26 a27 b27 a28 b28 a29 b29
              cases hg : Wi.reqEq x_req y_req with
              | false =>
                have HN : Hid (res = false) := by rw [Hid, HX.out, hg]; rfl
                clear hg HX
                go_wp2
                go_ret
                exact ⟨by rw [HN.out]; rfl, BW.out _ BN.out⟩
              | true =>
                have HN : Hid (res = Wi.respEq x_resp y_resp) := by rw [Hid, HX.out, hg]; rfl
                clear hg HX
                have HX := Lib.hid HN.out
                have CA := Lib.hid CAn.out
                have CB := Lib.hid CBn.out
                have MA := Lib.hid MAn.out
                have MB := Lib.hid MBn.out
                have BB := Lib.hid BN.out
                clear HN CAn CBn MAn MBn BN
                have a30 := CA.out.cell 30
                have b30 := CB.out.cell 30
                have a31 := CA.out.cell 31
                have b31 := CB.out.cell 31
                have a32 := CA.out.cell 32
                have b32 := CB.out.cell 32
                have a33 := CA.out.cell 33
                have b33 := CB.out.cell 33
                have a34 := CA.out.cell 34
                have b34 := CB.out.cell 34
                have a35 := CA.out.cell 35
                have b35 := CB.out.cell 35
                have a36 := CA.out.cell 36
                have b36 := CB.out.cell 36
                have a37 := CA.out.cell 37
                have b37 := CB.out.cell 37
                simp only [List.getElem?_cons_zero, List.getElem?_cons_succ] at a30 b30 a31 b31 a32 b32 a33 b33 a34 b34 a35 b35 a36 b36 a37 b37

                have HQ := Lib.hid (sameResps_any x_resp y_resp _ _ _ _ _ MA.out.parts MB.out.parts MA.out.arecs MB.out.arecs ⟨OA.out.a.1, OA.out.p.1⟩ ⟨OB.out.a.1, OB.out.p.1⟩)
                unfold wrespC at HQ
                go_wp2_with fail
                refine HQ.out.mono ?_
                rintro e w5 ⟨rfl, hb5⟩
                have BN := Lib.hid (bt BB.out hb5)
                clear hb5
                go_wp2
                go_ret
                exact ⟨by rw [HX.out]; rfl, BW.out _ BN.out⟩

end Go.Proofs.YtbljbdjmgogknaaGreatDoor
/-
  Crate, plainly: how long a batch is; records taken out; the document's way of reading. No program in sight.
  Conditions: none.
-/
set_option linter.unusedVariables false
set_option linter.unusedSimpArgs false
namespace Go.Proofs.YtbljbdjmgogknaaGreatDoor.Cr
open Go.Lib

theorem nDigits_le_pow : ∀ (k u : Nat), 0 < k → u < 10 ^ k → nDigits u ≤ k := by
  intro k
  induction k with
  | zero => intro u h; omega
  | succ k ih =>
    intro u _ hu
    by_cases h : u < 10
    · rw [nDigits_small h]; omega
    · rw [nDigits_big h]
      have hk : 0 < k := by
        rcases Nat.eq_zero_or_pos k with rfl | hk
        · simp at hu; omega
        · exact hk
      have := ih (u / 10) hk (by rw [Nat.pow_succ] at hu; omega)
      omega
theorem bInt_len {n : Int} (h0 : 0 ≤ n) (h1 : n < 10000000000000) : 3 ≤ (Bd.bInt n).length ∧ (Bd.bInt n).length ≤ 15 := by
  have e : itoa n = decDigits n.toNat := by unfold itoa; rw [if_neg (by omega)]
  have hd := nDigits_le_pow 13 n.toNat (by decide) (by have : (10 : Nat) ^ 13 = 10000000000000 := by decide
                                                       omega)
  have hp := nDigits_pos n.toNat
  simp only [Bd.bInt, List.length_cons, List.length_append, List.length_nil, e, decDigits_length]
  omega
theorem bText_len {t : List UInt8} (h : t.length < 100) : (Bd.bText t).length ≤ 3 + t.length := by
  have e : itoa (t.length : Int) = decDigits t.length := by unfold itoa; rw [if_neg (by omega)]; rfl
  have hd := nDigits_le_pow 2 t.length (by decide) (by omega)
  simp only [Bd.bText, List.length_cons, List.length_append, e, decDigits_length]
  omega
theorem flag_le (b : Bool) : 0 ≤ flag b ∧ flag b ≤ 1 := by cases b <;> decide
theorem encRec_len {x : Rec} (hx : isRec x = true) (h0 : 0 ≤ x.off) (h1 : x.off < 10000000000000) : (encRec x).length ≤ 130 := by
  simp only [isRec, Bool.and_eq_true, decide_eq_true_eq] at hx
  have a := bInt_len h0 h1
  have b := bText_len (t := x.key) (by omega)
  have c := bText_len (t := x.val) (by omega)
  have f := flag_le x.gone
  have d := bInt_len f.1 (by omega)
  simp only [encRec, List.length_cons, List.length_append, List.length_nil]
  omega
theorem encRecs_len (l : List Rec) (h : ∀ x ∈ l, isRec x = true ∧ 0 ≤ x.off ∧ x.off < 10000000000000) : (encRecs l).length ≤ 130 * l.length := by
  induction l with
  | nil => simp [encRecs]
  | cons x l ih =>
    have h1 := h x (by simp)
    have h2 := ih fun y hy => h y (by simp [hy])
    have h3 := encRec_len h1.1 h1.2.1 h1.2.2
    simp only [encRecs, List.map_cons, List.flatten_cons, List.length_append, List.length_cons] at h2 ⊢
    omega
theorem good_recs {b : Batch} (h : good b = true) : ∀ x ∈ b.recs, isRec x = true ∧ 0 ≤ x.off ∧ x.off < 10000000000000 := by
  obtain ⟨h1, h2, h3, h4, h5, h6, h7, h8, h9⟩ := good_nums h
  simp only [isNum, Bool.and_eq_true, decide_eq_true_eq] at h1
  intro x hx
  obtain ⟨g1, g2, g3⟩ := goodRecs_all h9 x hx
  exact ⟨g1, by omega, by omega⟩
/-- How long a batch is. -/
theorem enc_len {b : Batch} (h : good b = true) : 17 ≤ (enc b).length ∧ (enc b).length ≤ 82 + 130 * b.recs.length ∧ b.recs.length ≤ 8 := by
  obtain ⟨h1, h2, h3, h4, h5, h6, h7, h8, h9⟩ := good_nums h
  have hr := encRecs_len b.recs (good_recs h)
  simp only [isNum, Bool.and_eq_true, decide_eq_true_eq] at h1 h2 h3 h4
  have a1 := bInt_len (n := b.base) (by omega) (by omega)
  have a2 := bInt_len (n := b.count) (by omega) (by omega)
  have a3 := bInt_len (n := b.prod) (by omega) (by omega)
  have a4 := bInt_len (n := b.seq) (by omega) (by omega)
  have a5 := bInt_len (n := b.time) (by omega) (by omega)
  simp only [enc, nums, List.length_cons, List.length_append, List.length_nil]
  omega
theorem enc_ends (b : Batch) : ∃ m, enc b = 108 :: (m ++ [101]) := ⟨nums b ++ encRecs b.recs, by simp [enc]⟩
theorem goodRecs_sub {hi : Int} : ∀ {l m : List Rec} {next n2 : Int}, m.Sublist l → n2 ≤ next → goodRecs hi next l = true → goodRecs hi n2 m = true := by
  intro l m
  intro next n2 hs
  induction hs generalizing next n2 with
  | slnil => intro _ _; rfl
  | cons x hs ih =>
    intro hn h
    simp only [goodRecs, Bool.and_eq_true, decide_eq_true_eq] at h
    exact ih (by omega) h.2.2.2
  | cons_cons x hs ih =>
    intro hn h
    simp only [goodRecs, Bool.and_eq_true, decide_eq_true_eq] at h ⊢
    exact ⟨h.1, by omega, h.2.2.1, ih (Int.le_refl _) h.2.2.2⟩
/-- Records taken out: a batch still. -/
theorem good_sub {b : Batch} {m : List Rec} (hs : m.Sublist b.recs) (h : good b = true) : good { b with recs := m } = true := by
  obtain ⟨h1, h2, h3, h4, h5, h6, h7, h8, h9⟩ := good_nums h
  have := hs.length_le
  have hg := goodRecs_sub hs (Int.le_refl _) h9
  simp only [good, Bool.and_eq_true, decide_eq_true_eq]
  exact ⟨h1, h2, h3, h4, h5, h6, h7, by omega, hg⟩
theorem offs_length : ∀ (l : List Rec) (n : Int), (offs n l).length = l.length := by
  intro l
  induction l with
  | nil => intro n; rfl
  | cons x l ih => intro n; simp [offs, ih]
theorem offs_get : ∀ (l : List Rec) (n : Int) (i : Nat), (offs n l)[i]? = (l[i]?).map fun x => { x with off := n + i } := by
  intro l
  induction l with
  | nil => intro n i; rfl
  | cons x l ih =>
    intro n i
    cases i with
    | zero => simp [offs]
    | succ i => simp only [offs, List.getElem?_cons_succ, ih]; congr 1; funext y; congr 1; omega

/-! ### The document's reading -/

def rRecs : Nat → List Rec → Bd.St → Option (List Rec × Bd.St)
  | 0, _, _ => none
  | n + 1, acc, q => if Bd.sMore q && decide (acc.length < 9) then (if (sRec q).2.1 then rRecs n (acc ++ [(sRec q).1]) (sRec q).2.2 else none) else some (acc, q)
def fin (m : Int × Int × Int × Int × Int × Bd.St) (o : Option (List Rec × Bd.St)) : Option Batch :=
  match o with
  | none => none
  | some (rs, q) => if Bd.sDone (Bd.sSign 101 q) = 0 && good ⟨m.1, m.2.1, m.2.2.1, m.2.2.2.1, m.2.2.2.2.1, rs⟩ then some ⟨m.1, m.2.1, m.2.2.1, m.2.2.2.1, m.2.2.2.2.1, rs⟩ else none
def rdec (s : List UInt8) : Option Batch := fin (sNums (Bd.sSign 108 (s, false))) (rRecs 11 [] (sNums (Bd.sSign 108 (s, false))).2.2.2.2.2)
theorem dec_fin (s : List UInt8) : dec s = fin (sNums (Bd.sSign 108 (s, false))) (sRecs 11 [] (sNums (Bd.sSign 108 (s, false))).2.2.2.2.2) := by
  unfold dec fin
  rfl
theorem good_many {b : Batch} (h : 8 < b.recs.length) : good b = false := by
  cases hg : good b with
  | false => rfl
  | true =>
    obtain ⟨_, _, _, _, _, h6, _, h8, _⟩ := good_nums hg
    omega
theorem fin_many {m : Int × Int × Int × Int × Int × Bd.St} {rs : List Rec} {q : Bd.St} (h : 8 < rs.length) : fin m (some (rs, q)) = none := by
  unfold fin
  simp only [good_many (b := ⟨m.1, m.2.1, m.2.2.1, m.2.2.2.1, m.2.2.2.2.1, rs⟩) h, Bool.and_false, Bool.false_eq_true, if_false]
theorem sRecs_nine {n : Nat} {acc : List Rec} {q : Bd.St} (h : 8 < acc.length) (m : Int × Int × Int × Int × Int × Bd.St) : fin m (sRecs n acc q) = none := by
  cases n with
  | zero => rfl
  | succ n =>
    rw [sRecs]
    split
    · rw [if_neg (by simp; omega)]; rfl
    · exact fin_many h
theorem rRecs_eq (m : Int × Int × Int × Int × Int × Bd.St) : ∀ (n : Nat) (acc : List Rec) (q : Bd.St), acc.length + n = 11 → fin m (rRecs n acc q) = fin m (sRecs n acc q) := by
  intro n
  induction n with
  | zero => intro acc q _; rfl
  | succ n ih =>
    intro acc q hn
    by_cases h9 : 8 < acc.length
    · rw [sRecs_nine h9, rRecs]
      rw [if_neg (by simp; omega)]
      exact fin_many h9
    · rw [rRecs, sRecs]
      have e1 : decide (acc.length < 9) = true := decide_eq_true (by omega)
      have e2 : decide (acc.length ≤ 8) = true := decide_eq_true (by omega)
      rw [e1, e2]
      simp only [Bool.and_true]
      split
      · split
        · exact ih _ _ (by simp; omega)
        · rfl
      · rfl
theorem rdec_eq (s : List UInt8) : rdec s = dec s := by rw [dec_fin]; exact rRecs_eq _ _ _ _ rfl

end Go.Proofs.YtbljbdjmgogknaaGreatDoor.Cr
/-
  DERIVED: THE SHELF's CONTRACTS AT THIS DUMP, IN PLAIN WORDS (tools/lay-plain.mjs out of 'TryzShelf.lean', which tools/lay-shelf.mjs wrote): THE SAME DECLARATIONS UNDER THE SAME NAMES: 'import', 'namespace', 'open', 'def', 'theorem' AND NOTHING ELSE: no command of the shelf's: FOR A HAND-IN. Each laying: the table of numbers ('.._ren') and one theorem, a field a fact of the dump's own or the kernel's comparison; each contract: ONE APPLICATION.
-/
namespace Go.Proofs
open Go.Shelf
def Tryz.lays156_ren : Go.Shelf.Ren := ⟨fun | 156 => 79 | 165 => 109 | 166 => 110 | 169 => 111 | 240 => 130 | 241 => 131 | 276 => 138 | 277 => 139 | n => n, fun | 31 => 93 | 9 => 9 | 3 => 3 | 4 => 4 | 0 => 0 | 20 => 20 | 72 => 149 | 76 => 153 | 70 => 147 | 37 => 146 | 75 => 152 | 127 => 175 | 164 => 178 | 5 => 5 | 80 => 155 | n => n, fun | n => n⟩
theorem Tryz.lays156 : Go.Proofs.Lays.n156 Tryz.prog Tryz.lays156_ren := {
  mixed := by kernel_rfl
  f156 := Tryz.func79.trans (congrArg some (by kernel_rfl))
  f165 := Tryz.func109.trans (congrArg some (by kernel_rfl))
  f166 := Tryz.func110.trans (congrArg some (by kernel_rfl))
  f169 := Tryz.func111.trans (congrArg some (by kernel_rfl))
  f240 := Tryz.func130.trans (congrArg some (by kernel_rfl))
  f241 := Tryz.func131.trans (congrArg some (by kernel_rfl))
  f276 := Tryz.func138.trans (congrArg some (by kernel_rfl))
  f277 := Tryz.func139.trans (congrArg some (by kernel_rfl))
  t0 := Tryz.underlying0
  a0 := Tryz.isAgg0
  z0 := Tryz.sizeOf0
  v0 := Tryz.zeroValue0
  t3 := Tryz.underlying3
  a3 := Tryz.isAgg3
  z3 := Tryz.sizeOf3
  v3 := Tryz.zeroValue3
  t4 := Tryz.underlying4
  a4 := Tryz.isAgg4
  z4 := Tryz.sizeOf4
  v4 := Tryz.zeroValue4
  t9 := Tryz.underlying9
  a9 := Tryz.isAgg9
  z9 := Tryz.sizeOf9
  v9 := Tryz.zeroValue9
  t20 := Tryz.underlying20
  a20 := Tryz.isAgg20
  z20 := Tryz.sizeOf20
  v20 := Tryz.zeroValue20
  t31 := Tryz.underlying93
  a31 := Tryz.isAgg93
  z31 := Tryz.sizeOf93
  v31 := Tryz.zeroValue93
  t37 := Tryz.underlying146
  a37 := Tryz.isAgg146
  z37 := Tryz.sizeOf146
  v37 := Tryz.zeroValue146
  t70 := Tryz.underlying147
  a70 := Tryz.isAgg147
  z70 := Tryz.sizeOf147
  v70 := Tryz.zeroValue147
  t72 := Tryz.underlying149
  a72 := Tryz.isAgg149
  z72 := Tryz.sizeOf149
  v72 := Tryz.zeroValue149
  t75 := Tryz.underlying152
  a75 := Tryz.isAgg152
  z75 := Tryz.sizeOf152
  v75 := Tryz.zeroValue152
  t76 := Tryz.underlying153
  a76 := Tryz.isAgg153
  z76 := Tryz.sizeOf153
  v76 := Tryz.zeroValue153
  t127 := Tryz.underlying175
  a127 := Tryz.isAgg175
  z127 := Tryz.sizeOf175
  v127 := Tryz.zeroValue175
  t164 := Tryz.underlying178
  a164 := Tryz.isAgg178
  z164 := Tryz.sizeOf178
  v164 := Tryz.zeroValue178 }
theorem Tryz.Builder_Extra_156 : Builder.Extra Tryz.prog Tryz.lays156_ren := {
  sizeBuilder := by kernel_rfl
  liesBuilder := by kernel_rfl
  t5 := Tryz.underlying5
  a5 := Tryz.isAgg5
  z5 := Tryz.sizeOf5
  v5 := Tryz.zeroValue5
  infoByte := by kernel_rfl
  cellsByte := by kernel_rfl
  sizeByte := by kernel_rfl
  neB5 := by decide }
open Go.RowKit in
/-- No element: the empty string; the world is as it was. (Whatever the slice's address and capacity: a nil slice too.) (LAID: no walk: one application.) -/
theorem Tryz.strings_Join_none (a : Option Addr) (c : Nat) (sep : ByteArray) (w : World) :
    Calls Tryz.prog 79 #[.slice a 0 c, .string sep] w fun e w' => e = .returned (.string ⟨#[]⟩) ∧ w' = w := Any.strings_Join_none Tryz.lays156 Tryz.Builder_Extra_156 a c sep w
open Go.RowKit in
/-- strings.Join: "Join concatenates the elements of its first argument to create a single string. The separator string sep is placed between elements in the resulting string.": HOWEVER MANY ELEMENTS. Below the heap's end the world is as it was. (LAID: no walk: one application.) -/
theorem Tryz.strings_Join (bk o c : Nat) (xs : List ByteArray) (sep : ByteArray) (w : World) (hcells : ∀ (j : Nat) x, xs[j]? = some x → w.cell? ⟨bk, o + j, none⟩ = some (.string x)) (hbk : bk < w.heap.size) (hN : xs.length ≤ 140737488355328) (hcap : xs.length ≤ c) (hlen : (Lib.join (xs.map (·.data.toList)) sep.data.toList).length ≤ 140737488355328) :
    Calls Tryz.prog 79 #[.slice (some ⟨bk, o, none⟩) xs.length c, .string sep] w fun e w' => e = .returned (.string ⟨(Lib.join (xs.map (·.data.toList)) sep.data.toList).toArray⟩) ∧ Below w.heap.size w w' := Any.strings_Join Tryz.lays156 Tryz.Builder_Extra_156 bk o c xs sep w hcells hbk hN hcap hlen
def Tryz.lays103_ren : Go.Shelf.Ren := ⟨fun | 103 => 116 | 210 => 133 | 206 => 141 | n => n, fun | 9 => 9 | 4 => 4 | 24 => 157 | 3 => 3 | n => n, fun | n => n⟩
theorem Tryz.lays103 : Go.Proofs.Lays.n103 Tryz.prog Tryz.lays103_ren := {
  mixed := by kernel_rfl
  f103 := Tryz.func116.trans (congrArg some (by kernel_rfl))
  f206 := Tryz.func141.trans (congrArg some (by kernel_rfl))
  f210 := Tryz.func133.trans (congrArg some (by kernel_rfl))
  t3 := Tryz.underlying3
  a3 := Tryz.isAgg3
  z3 := Tryz.sizeOf3
  v3 := Tryz.zeroValue3
  t4 := Tryz.underlying4
  a4 := Tryz.isAgg4
  z4 := Tryz.sizeOf4
  v4 := Tryz.zeroValue4
  t9 := Tryz.underlying9
  a9 := Tryz.isAgg9
  z9 := Tryz.sizeOf9
  v9 := Tryz.zeroValue9
  t24 := Tryz.underlying157
  a24 := Tryz.isAgg157
  z24 := Tryz.sizeOf157
  v24 := Tryz.zeroValue157 }
open Go.RowKit in
/-- strings.CutPrefix: "CutPrefix returns s without the provided leading prefix string and reports whether it found the prefix. If s doesn't start with prefix, CutPrefix returns s, false. If prefix is the empty string, CutPrefix returns s, true.": IT RETURNS '(Lib.trimPrefix s p, Lib.hasPrefix s p)'; the world is as it was. (LAID: no walk: one application.) -/
theorem Tryz.strings_CutPrefix (s p : ByteArray) (w : World) :
    Calls Tryz.prog 116 #[.string s, .string p] w fun e w' => e = .returned (.tuple #[.string ⟨(Lib.trimPrefix s.data.toList p.data.toList).toArray⟩, .bool (Lib.hasPrefix s.data.toList p.data.toList)]) ∧ w' = w := Any.strings_CutPrefix Tryz.lays103 s p w
def Tryz.laysM171_ren : Go.Shelf.Ren := ⟨fun | 171 => 112 | 243 => 132 | 246 => 140 | 283 => 148 | 284 => 149 | 285 => 150 | 286 => 151 | 129 => 160 | 317 => 159 | 318 => 161 | 319 => 162 | 320 => 163 | 337 => 168 | 338 => 169 | n => n, fun | 3 => 3 | 9 => 9 | 2 => 2 | 4 => 4 | 171 => 190 | 0 => 0 | 53 => 191 | 37 => 146 | 5 => 5 | 173 => 194 | 212 => 202 | 51 => 118 | 20 => 20 | 213 => 203 | 46 => 60 | 232 => 213 | 233 => 214 | n => n, fun | 17 => 3 | 18 => 4 | 19 => 5 | n => n⟩
theorem Tryz.laysM171 : Go.Proofs.LaysM.n171 Tryz.prog Tryz.laysM171_ren := {
  mixed := by kernel_rfl
  f129 := Tryz.func160.trans (congrArg some (by kernel_rfl))
  f171 := Tryz.func112.trans (congrArg some (by kernel_rfl))
  f243 := Tryz.func132.trans (congrArg some (by kernel_rfl))
  f246 := Tryz.func140.trans (congrArg some (by kernel_rfl))
  f283 := Tryz.func148.trans (congrArg some (by kernel_rfl))
  f284 := Tryz.func149.trans (congrArg some (by kernel_rfl))
  f285 := Tryz.func150.trans (congrArg some (by kernel_rfl))
  f286 := Tryz.func151.trans (congrArg some (by kernel_rfl))
  f317 := Tryz.func159.trans (congrArg some (by kernel_rfl))
  f318 := Tryz.func161.trans (congrArg some (by kernel_rfl))
  f319 := Tryz.func162.trans (congrArg some (by kernel_rfl))
  f320 := Tryz.func163.trans (congrArg some (by kernel_rfl))
  f337 := Tryz.func168.trans (congrArg some (by kernel_rfl))
  f338 := Tryz.func169.trans (congrArg some (by kernel_rfl))
  t0 := Tryz.underlying0
  a0 := Tryz.isAgg0
  z0 := Tryz.sizeOf0
  v0 := Tryz.zeroValue0
  t2 := Tryz.underlying2
  a2 := Tryz.isAgg2
  z2 := Tryz.sizeOf2
  v2 := Tryz.zeroValue2
  t3 := Tryz.underlying3
  a3 := Tryz.isAgg3
  z3 := Tryz.sizeOf3
  v3 := Tryz.zeroValue3
  t4 := Tryz.underlying4
  a4 := Tryz.isAgg4
  z4 := Tryz.sizeOf4
  v4 := Tryz.zeroValue4
  t5 := Tryz.underlying5
  a5 := Tryz.isAgg5
  z5 := Tryz.sizeOf5
  v5 := Tryz.zeroValue5
  t9 := Tryz.underlying9
  a9 := Tryz.isAgg9
  z9 := Tryz.sizeOf9
  v9 := Tryz.zeroValue9
  t20 := Tryz.underlying20
  a20 := Tryz.isAgg20
  z20 := Tryz.sizeOf20
  v20 := Tryz.zeroValue20
  t37 := Tryz.underlying146
  a37 := Tryz.isAgg146
  z37 := Tryz.sizeOf146
  v37 := Tryz.zeroValue146
  t46 := Tryz.underlying60
  a46 := Tryz.isAgg60
  z46 := Tryz.sizeOf60
  v46 := Tryz.zeroValue60
  t51 := Tryz.underlying118
  a51 := Tryz.isAgg118
  z51 := Tryz.sizeOf118
  v51 := Tryz.zeroValue118
  t53 := Tryz.underlying191
  a53 := Tryz.isAgg191
  z53 := Tryz.sizeOf191
  v53 := Tryz.zeroValue191
  t171 := Tryz.underlying190
  a171 := Tryz.isAgg190
  z171 := Tryz.sizeOf190
  v171 := Tryz.zeroValue190
  t173 := Tryz.underlying194
  a173 := Tryz.isAgg194
  z173 := Tryz.sizeOf194
  v173 := Tryz.zeroValue194
  t212 := Tryz.underlying202
  a212 := Tryz.isAgg202
  z212 := Tryz.sizeOf202
  v212 := Tryz.zeroValue202
  t213 := Tryz.underlying203
  a213 := Tryz.isAgg203
  z213 := Tryz.sizeOf203
  t232 := Tryz.underlying213
  a232 := Tryz.isAgg213
  z232 := Tryz.sizeOf213
  v232 := Tryz.zeroValue213
  t233 := Tryz.underlying214
  a233 := Tryz.isAgg214
  z233 := Tryz.sizeOf214
  v233 := Tryz.zeroValue214
  g17 := by kernel_rfl
  g18 := by kernel_rfl
  g19 := by kernel_rfl
  i0 := by kernel_rfl
  i2 := by kernel_rfl
  i3 := by kernel_rfl
  i4 := by kernel_rfl
  i5 := by kernel_rfl
  i9 := by kernel_rfl
  i20 := by kernel_rfl
  i37 := by kernel_rfl
  i46 := by kernel_rfl
  i51 := by kernel_rfl
  i53 := by kernel_rfl
  i171 := by kernel_rfl
  i173 := by kernel_rfl
  i212 := by kernel_rfl
  i232 := by kernel_rfl
  i233 := by kernel_rfl
  m17 := by kernel_rfl
  m18 := by kernel_rfl
  m19 := by kernel_rfl }
open Go.RowKit Go.Sort Go.Lib in
/-- strconv.Itoa: "Itoa is equivalent to FormatInt(int64(i), 10).": i's DECIMAL NUMERAL ('Lib.itoa': a '-' where i is negative, then the digits), FOR EVERY int. The world behind the call: the world before it, new blocks behind the heap (the library's 'var a [24]byte'), draws. (LAID: no walk: one application.) -/
theorem Tryz.strconv_Itoa (n : Int) (h0 : -9223372036854775808 ≤ n) (h1 : n ≤ 9223372036854775807) (w : World) (htab : Lib.TabIs Tryz.prog w "internal/strconv.uint64pow10" .u64 Lib.pow10Tab) :
    Calls Tryz.prog 112 #[.int .i64 n] w fun e w' => e = .returned (.string ⟨(Lib.itoa n).toArray⟩) ∧ ∃ k os, w' = grow (w.drewN k) os := Any.strconv_Itoa Tryz.laysM171 n h0 h1 w htab
def Tryz.laysC172_ren : Go.Shelf.Ren := ⟨fun | 172 => 118 | 244 => 135 | 245 => 136 | 247 => 143 | 279 => 144 | 280 => 145 | 281 => 146 | 282 => 147 | 287 => 156 | 316 => 157 | 171 => 112 | 205 => 158 | 321 => 166 | 322 => 167 | 243 => 132 | 246 => 140 | 283 => 148 | 284 => 149 | 285 => 150 | 286 => 151 | 129 => 160 | 317 => 159 | 318 => 161 | 319 => 162 | 320 => 163 | 337 => 168 | 338 => 169 | n => n, fun | 9 => 9 | 3 => 3 | 75 => 152 | 76 => 153 | 4 => 4 | 5 => 5 | 167 => 184 | 37 => 146 | 0 => 0 | 85 => 185 | 2 => 2 | 168 => 187 | 53 => 191 | 175 => 197 | 46 => 60 | 210 => 200 | 127 => 175 | 145 => 211 | 143 => 209 | 21 => 21 | 171 => 190 | 173 => 194 | 212 => 202 | 51 => 118 | 20 => 20 | 213 => 203 | 232 => 213 | 233 => 214 | 80 => 155 | n => n, fun | 15 => 1 | 16 => 2 | 17 => 3 | 18 => 4 | 19 => 5 | n => n⟩
theorem Tryz.laysC172 : Go.Proofs.LaysC.n172 Tryz.prog Tryz.laysC172_ren := {
  mixed := by kernel_rfl
  f129 := Tryz.func160.trans (congrArg some (by kernel_rfl))
  f171 := Tryz.func112.trans (congrArg some (by kernel_rfl))
  f172 := Tryz.func118.trans (congrArg some (by kernel_rfl))
  f205 := Tryz.func158.trans (congrArg some (by kernel_rfl))
  f243 := Tryz.func132.trans (congrArg some (by kernel_rfl))
  f244 := Tryz.func135.trans (congrArg some (by kernel_rfl))
  f245 := Tryz.func136.trans (congrArg some (by kernel_rfl))
  f246 := Tryz.func140.trans (congrArg some (by kernel_rfl))
  f247 := Tryz.func143.trans (congrArg some (by kernel_rfl))
  f279 := Tryz.func144.trans (congrArg some (by kernel_rfl))
  f280 := Tryz.func145.trans (congrArg some (by kernel_rfl))
  f281 := Tryz.func146.trans (congrArg some (by kernel_rfl))
  f282 := Tryz.func147.trans (congrArg some (by kernel_rfl))
  f283 := Tryz.func148.trans (congrArg some (by kernel_rfl))
  f284 := Tryz.func149.trans (congrArg some (by kernel_rfl))
  f285 := Tryz.func150.trans (congrArg some (by kernel_rfl))
  f286 := Tryz.func151.trans (congrArg some (by kernel_rfl))
  f287 := Tryz.func156.trans (congrArg some (by kernel_rfl))
  f316 := Tryz.func157.trans (congrArg some (by kernel_rfl))
  f317 := Tryz.func159.trans (congrArg some (by kernel_rfl))
  f318 := Tryz.func161.trans (congrArg some (by kernel_rfl))
  f319 := Tryz.func162.trans (congrArg some (by kernel_rfl))
  f320 := Tryz.func163.trans (congrArg some (by kernel_rfl))
  f321 := Tryz.func166.trans (congrArg some (by kernel_rfl))
  f322 := Tryz.func167.trans (congrArg some (by kernel_rfl))
  f337 := Tryz.func168.trans (congrArg some (by kernel_rfl))
  f338 := Tryz.func169.trans (congrArg some (by kernel_rfl))
  t0 := Tryz.underlying0
  a0 := Tryz.isAgg0
  z0 := Tryz.sizeOf0
  v0 := Tryz.zeroValue0
  t2 := Tryz.underlying2
  a2 := Tryz.isAgg2
  z2 := Tryz.sizeOf2
  v2 := Tryz.zeroValue2
  t3 := Tryz.underlying3
  a3 := Tryz.isAgg3
  z3 := Tryz.sizeOf3
  v3 := Tryz.zeroValue3
  t4 := Tryz.underlying4
  a4 := Tryz.isAgg4
  z4 := Tryz.sizeOf4
  v4 := Tryz.zeroValue4
  t5 := Tryz.underlying5
  a5 := Tryz.isAgg5
  z5 := Tryz.sizeOf5
  v5 := Tryz.zeroValue5
  t9 := Tryz.underlying9
  a9 := Tryz.isAgg9
  z9 := Tryz.sizeOf9
  v9 := Tryz.zeroValue9
  t20 := Tryz.underlying20
  a20 := Tryz.isAgg20
  z20 := Tryz.sizeOf20
  v20 := Tryz.zeroValue20
  t21 := Tryz.underlying21
  a21 := Tryz.isAgg21
  z21 := Tryz.sizeOf21
  v21 := Tryz.zeroValue21
  t37 := Tryz.underlying146
  a37 := Tryz.isAgg146
  z37 := Tryz.sizeOf146
  v37 := Tryz.zeroValue146
  t46 := Tryz.underlying60
  a46 := Tryz.isAgg60
  z46 := Tryz.sizeOf60
  v46 := Tryz.zeroValue60
  t51 := Tryz.underlying118
  a51 := Tryz.isAgg118
  z51 := Tryz.sizeOf118
  v51 := Tryz.zeroValue118
  t53 := Tryz.underlying191
  a53 := Tryz.isAgg191
  z53 := Tryz.sizeOf191
  v53 := Tryz.zeroValue191
  t75 := Tryz.underlying152
  a75 := Tryz.isAgg152
  z75 := Tryz.sizeOf152
  v75 := Tryz.zeroValue152
  t76 := Tryz.underlying153
  a76 := Tryz.isAgg153
  z76 := Tryz.sizeOf153
  v76 := Tryz.zeroValue153
  t85 := Tryz.underlying185
  a85 := Tryz.isAgg185
  z85 := Tryz.sizeOf185
  v85 := Tryz.zeroValue185
  t127 := Tryz.underlying175
  a127 := Tryz.isAgg175
  z127 := Tryz.sizeOf175
  v127 := Tryz.zeroValue175
  t143 := Tryz.underlying209
  a143 := Tryz.isAgg209
  z143 := Tryz.sizeOf209
  v143 := Tryz.zeroValue209
  t145 := Tryz.underlying211
  a145 := Tryz.isAgg211
  z145 := Tryz.sizeOf211
  v145 := Tryz.zeroValue211
  t167 := Tryz.underlying184
  a167 := Tryz.isAgg184
  z167 := Tryz.sizeOf184
  v167 := Tryz.zeroValue184
  t168 := Tryz.underlying187
  a168 := Tryz.isAgg187
  z168 := Tryz.sizeOf187
  v168 := Tryz.zeroValue187
  t171 := Tryz.underlying190
  a171 := Tryz.isAgg190
  z171 := Tryz.sizeOf190
  v171 := Tryz.zeroValue190
  t173 := Tryz.underlying194
  a173 := Tryz.isAgg194
  z173 := Tryz.sizeOf194
  v173 := Tryz.zeroValue194
  t175 := Tryz.underlying197
  a175 := Tryz.isAgg197
  z175 := Tryz.sizeOf197
  v175 := Tryz.zeroValue197
  t210 := Tryz.underlying200
  a210 := Tryz.isAgg200
  z210 := Tryz.sizeOf200
  v210 := Tryz.zeroValue200
  t212 := Tryz.underlying202
  a212 := Tryz.isAgg202
  z212 := Tryz.sizeOf202
  v212 := Tryz.zeroValue202
  t213 := Tryz.underlying203
  a213 := Tryz.isAgg203
  z213 := Tryz.sizeOf203
  t232 := Tryz.underlying213
  a232 := Tryz.isAgg213
  z232 := Tryz.sizeOf213
  v232 := Tryz.zeroValue213
  t233 := Tryz.underlying214
  a233 := Tryz.isAgg214
  z233 := Tryz.sizeOf214
  v233 := Tryz.zeroValue214
  g15 := by kernel_rfl
  g16 := by kernel_rfl
  g17 := by kernel_rfl
  g18 := by kernel_rfl
  g19 := by kernel_rfl
  t80 := Tryz.underlying155
  a80 := Tryz.isAgg155
  z80 := Tryz.sizeOf155
  v80 := Tryz.zeroValue155
  i0 := by kernel_rfl
  i2 := by kernel_rfl
  i3 := by kernel_rfl
  i4 := by kernel_rfl
  i5 := by kernel_rfl
  i9 := by kernel_rfl
  i20 := by kernel_rfl
  i21 := by kernel_rfl
  i37 := by kernel_rfl
  i46 := by kernel_rfl
  i51 := by kernel_rfl
  i53 := by kernel_rfl
  i75 := by kernel_rfl
  i76 := by kernel_rfl
  i80 := by kernel_rfl
  i85 := by kernel_rfl
  i127 := by kernel_rfl
  i143 := by kernel_rfl
  i145 := by kernel_rfl
  i167 := by kernel_rfl
  i168 := by kernel_rfl
  i171 := by kernel_rfl
  i173 := by kernel_rfl
  i175 := by kernel_rfl
  i210 := by kernel_rfl
  i212 := by kernel_rfl
  i232 := by kernel_rfl
  i233 := by kernel_rfl
  m15 := by kernel_rfl
  m16 := by kernel_rfl
  m17 := by kernel_rfl
  m18 := by kernel_rfl
  m19 := by kernel_rfl
  c0 := by kernel_rfl
  c2 := by kernel_rfl
  c3 := by kernel_rfl
  c4 := by kernel_rfl
  c5 := by kernel_rfl
  c9 := by kernel_rfl
  c20 := by kernel_rfl
  c21 := by kernel_rfl
  c37 := by kernel_rfl
  c46 := by kernel_rfl
  c51 := by kernel_rfl
  c53 := by kernel_rfl
  c75 := by kernel_rfl
  c76 := by kernel_rfl
  c80 := by kernel_rfl
  c85 := by kernel_rfl
  c127 := by kernel_rfl
  c143 := by kernel_rfl
  c145 := by kernel_rfl
  c167 := by kernel_rfl
  c168 := by kernel_rfl
  c171 := by kernel_rfl
  c173 := by kernel_rfl
  c175 := by kernel_rfl
  c210 := by kernel_rfl
  c212 := by kernel_rfl
  c213 := by kernel_rfl
  c232 := by kernel_rfl
  c233 := by kernel_rfl }
open Go.RowKit in
/-- strconv.Atoi, AT EVERY STRING THAT SPELLS AN int ('Lib.atoiAll .. = .ok v'; of whatever length: leading zeros count): v, AND NO ERROR. The world: as it was, or with the one new row that '[]byte(..)' lays. (LAID: no walk: one application.) -/
theorem Tryz.strconv_Atoi_ok (s : ByteArray) (hmax : s.size ≤ 9223372036854775806) (v : Int) (h : Lib.atoiAll s.data.toList = .ok v) (w : World) :
    Calls Tryz.prog 118 #[.string s] w fun e w' => e = .returned (.tuple #[.int .i64 v, .nilIface]) ∧ (w' = w ∨ ∃ t, w' = Lib.bytesWorld w 5 t) := Any.strconv_Atoi_ok Tryz.laysC172 s hmax v h w
open Go.RowKit in
theorem Tryz.strconv_Atoi_range_var (s : ByteArray) (hlim : s.size ≤ 281474976710656) (h : Lib.atoiAll s.data.toList = .range) (tp : TypeId) (p : Value) (w : World) (hvar : w.var? Tryz.prog "strconv.ErrRange" = some #[.iface tp p]) :
    Calls Tryz.prog 118 #[.string s] w fun e w' => ∃ N, e = .returned (.tuple #[.int .i64 (Lib.atoiSat s.data.toList), .iface 187 (.pointer (some ⟨N, 0, none⟩))]) ∧ w.heap.size ≤ N ∧ w'.heap[N]? = some (.cells #[.string ⟨#[65, 116, 111, 105]⟩, .string s, .iface tp p] 200 (0, 0)) ∧ Below w.heap.size w w' := Any.strconv_Atoi_range_var Tryz.laysC172 s hlim h tp p w hvar
def Tryz.lays145_ren : Go.Shelf.Ren := ⟨fun | 145 => 117 | 220 => 134 | 219 => 142 | 217 => 152 | 225 => 153 | 224 => 154 | 267 => 155 | 266 => 164 | 314 => 165 | n => n, fun | 9 => 9 | 4 => 4 | 59 => 159 | 3 => 3 | 5 => 5 | 46 => 60 | 146 => 205 | 51 => 118 | n => n, fun | 1 => 0 | n => n⟩
theorem Tryz.lays145 : Go.Proofs.Lays.n145 Tryz.prog Tryz.lays145_ren := {
  mixed := by kernel_rfl
  f145 := Tryz.func117.trans (congrArg some (by kernel_rfl))
  f217 := Tryz.func152.trans (congrArg some (by kernel_rfl))
  f219 := Tryz.func142.trans (congrArg some (by kernel_rfl))
  f220 := Tryz.func134.trans (congrArg some (by kernel_rfl))
  f224 := Tryz.func154.trans (congrArg some (by kernel_rfl))
  f225 := Tryz.func153.trans (congrArg some (by kernel_rfl))
  f266 := Tryz.func164.trans (congrArg some (by kernel_rfl))
  f267 := Tryz.func155.trans (congrArg some (by kernel_rfl))
  f314 := Tryz.func165.trans (congrArg some (by kernel_rfl))
  t3 := Tryz.underlying3
  a3 := Tryz.isAgg3
  z3 := Tryz.sizeOf3
  v3 := Tryz.zeroValue3
  t4 := Tryz.underlying4
  a4 := Tryz.isAgg4
  z4 := Tryz.sizeOf4
  v4 := Tryz.zeroValue4
  t5 := Tryz.underlying5
  a5 := Tryz.isAgg5
  z5 := Tryz.sizeOf5
  v5 := Tryz.zeroValue5
  t9 := Tryz.underlying9
  a9 := Tryz.isAgg9
  z9 := Tryz.sizeOf9
  v9 := Tryz.zeroValue9
  t46 := Tryz.underlying60
  a46 := Tryz.isAgg60
  z46 := Tryz.sizeOf60
  v46 := Tryz.zeroValue60
  t51 := Tryz.underlying118
  a51 := Tryz.isAgg118
  z51 := Tryz.sizeOf118
  v51 := Tryz.zeroValue118
  t59 := Tryz.underlying159
  a59 := Tryz.isAgg159
  z59 := Tryz.sizeOf159
  v59 := Tryz.zeroValue159
  t146 := Tryz.underlying205
  a146 := Tryz.isAgg205
  z146 := Tryz.sizeOf205
  v146 := Tryz.zeroValue205
  g1 := by kernel_rfl }
open Go.RowKit Go.Lib in
/-- strings.Cut: "Cut slices s around the first instance of sep, returning the text before and after sep. The found result reports whether sep appears in s. If sep does not appear in s, cut returns s, "", false.": IT RETURNS 'Lib.cut s sep'; the world is as it was but for the count of draws. (LAID: no walk: one application.) -/
theorem Tryz.strings_Cut (s sep : ByteArray) (m : Int) (w : World) (hs : s.size < 4294967281) (hm : w.cell? ⟨0, 0, none⟩ = some (.int .i64 m)) :
    Calls Tryz.prog 117 #[.string s, .string sep] w fun e w' => e = .returned (.tuple #[.string ⟨(Lib.cut s.data.toList sep.data.toList).1.toArray⟩, .string ⟨(Lib.cut s.data.toList sep.data.toList).2.1.toArray⟩, .bool (Lib.cut s.data.toList sep.data.toList).2.2]) ∧ ∃ n, w' = w.drewN n := Any.strings_Cut Tryz.lays145 s sep m w hs hm
def Tryz.laysM145_ren : Go.Shelf.Ren := ⟨fun | 145 => 117 | 220 => 134 | 219 => 142 | 217 => 152 | 225 => 153 | 224 => 154 | 267 => 155 | 266 => 164 | 314 => 165 | n => n, fun | 9 => 9 | 4 => 4 | 59 => 159 | 3 => 3 | 5 => 5 | 46 => 60 | 146 => 205 | 51 => 118 | n => n, fun | 1 => 0 | n => n⟩
theorem Tryz.laysM145 : Go.Proofs.LaysM.n145 Tryz.prog Tryz.laysM145_ren := {
  mixed := by kernel_rfl
  f145 := Tryz.func117.trans (congrArg some (by kernel_rfl))
  f217 := Tryz.func152.trans (congrArg some (by kernel_rfl))
  f219 := Tryz.func142.trans (congrArg some (by kernel_rfl))
  f220 := Tryz.func134.trans (congrArg some (by kernel_rfl))
  f224 := Tryz.func154.trans (congrArg some (by kernel_rfl))
  f225 := Tryz.func153.trans (congrArg some (by kernel_rfl))
  f266 := Tryz.func164.trans (congrArg some (by kernel_rfl))
  f267 := Tryz.func155.trans (congrArg some (by kernel_rfl))
  f314 := Tryz.func165.trans (congrArg some (by kernel_rfl))
  t3 := Tryz.underlying3
  a3 := Tryz.isAgg3
  z3 := Tryz.sizeOf3
  v3 := Tryz.zeroValue3
  t4 := Tryz.underlying4
  a4 := Tryz.isAgg4
  z4 := Tryz.sizeOf4
  v4 := Tryz.zeroValue4
  t5 := Tryz.underlying5
  a5 := Tryz.isAgg5
  z5 := Tryz.sizeOf5
  v5 := Tryz.zeroValue5
  t9 := Tryz.underlying9
  a9 := Tryz.isAgg9
  z9 := Tryz.sizeOf9
  v9 := Tryz.zeroValue9
  t46 := Tryz.underlying60
  a46 := Tryz.isAgg60
  z46 := Tryz.sizeOf60
  v46 := Tryz.zeroValue60
  t51 := Tryz.underlying118
  a51 := Tryz.isAgg118
  z51 := Tryz.sizeOf118
  v51 := Tryz.zeroValue118
  t59 := Tryz.underlying159
  a59 := Tryz.isAgg159
  z59 := Tryz.sizeOf159
  v59 := Tryz.zeroValue159
  t146 := Tryz.underlying205
  a146 := Tryz.isAgg205
  z146 := Tryz.sizeOf205
  v146 := Tryz.zeroValue205
  g1 := by kernel_rfl
  i3 := by kernel_rfl
  i4 := by kernel_rfl
  i5 := by kernel_rfl
  i9 := by kernel_rfl
  i46 := by kernel_rfl
  i51 := by kernel_rfl
  i59 := by kernel_rfl
  i146 := by kernel_rfl
  m1 := by kernel_rfl
  s1_3 := fun w h => Go.Proofs.cell_of_shapedOpen_int (zero := #[.int .i64 0]) (t := 3) h (of_decide_eq_true (by kernel_rfl)) (by kernel_rfl) rfl (by kernel_rfl) (by kernel_rfl) Tryz.underlying3 }
open Go.RowKit Go.Lib in
theorem Tryz.strings_Cut_shaped (s sep : ByteArray) (w : World) (h : w.ShapedOpen Tryz.prog) (hs : s.size < 4294967281) :
    Calls Tryz.prog 117 #[.string s, .string sep] w fun e w' => e = .returned (.tuple #[.string ⟨(Lib.cut s.data.toList sep.data.toList).1.toArray⟩, .string ⟨(Lib.cut s.data.toList sep.data.toList).2.1.toArray⟩, .bool (Lib.cut s.data.toList sep.data.toList).2.2]) ∧ ∃ n, w' = w.drewN n := Any.strings_Cut_shaped Tryz.laysM145 s sep w h hs
end Go.Proofs
/-
  Bead's writers, walked: Int, Text, List; and the library's functions under them, told over lists of bytes.
  Conditions: the library's variables hold what they are laid with; a whole text of at most 2^47 bytes.
-/
set_option linter.unusedVariables false
set_option linter.unusedSimpArgs false
namespace Go.Proofs.YtbljbdjmgogknaaGreatDoor
open Go.RowKit

/-- What the library's variables hold. -/
structure Lw (w : World) : Prop where
  tab : Lib.TabIs Tryz.prog w "internal/strconv.uint64pow10" .u64 Lib.pow10Tab
  syn : ∃ tp p, w.var? Tryz.prog "strconv.ErrSyntax" = some #[.iface tp p]
  rng : ∃ tp p, w.var? Tryz.prog "strconv.ErrRange" = some #[.iface tp p]
  mx : ∃ m, w.cell? ⟨0, 0, none⟩ = some (.int .i64 m)
theorem gTab : Tryz.prog.globalNamed "internal/strconv.uint64pow10" = some 3 := by kernel_rfl
theorem gSyn : Tryz.prog.globalNamed "strconv.ErrSyntax" = some 1 := by kernel_rfl
theorem gRng : Tryz.prog.globalNamed "strconv.ErrRange" = some 2 := by kernel_rfl
theorem var_lt {P : Program} {w : World} {n : String} {g : Nat} {cs : Array Value} (hg : P.globalNamed n = some g) (h : w.var? P n = some cs) : g < w.heap.size := by
  unfold World.var? at h
  simp only [hg, Option.bind_some] at h
  rcases Nat.lt_or_ge g w.heap.size with hlt | hge
  · exact hlt
  · rw [Array.getElem?_eq_none hge] at h; cases h
theorem var_below {P : Program} {w w' : World} {n : String} {g : Nat} {cs : Array Value} (hg : P.globalNamed n = some g) (h : w.var? P n = some cs) (hb : Below w.heap.size w w') : w'.var? P n = some cs :=
  var?_below hb hg (var_lt hg h) h
theorem Lw.below {w w' : World} (h : Lw w) (hb : Below w.heap.size w w') : Lw w' := by
  obtain ⟨h1, ⟨t2, p2, h2⟩, ⟨t3, p3, h3⟩, ⟨m, h4⟩⟩ := h
  refine ⟨var_below gTab h1 hb, ⟨t2, p2, var_below gSyn h2 hb⟩, ⟨t3, p3, var_below gRng h3 hb⟩, m, ?_⟩
  rw [hb.cell (p := ⟨0, 0, none⟩) (World.block_lt_of_cell? w _ h4)]
  exact h4
theorem Lw.drewN {w : World} (h : Lw w) (n : Nat) : Lw (w.drewN n) := h.below (below_drewN (Below.refl _ _) n)

/-! ### The library's functions over lists of bytes -/

theorem below_grow (w : World) (k : Nat) (os : Array Obj) : Below w.heap.size w (Go.Sort.grow (w.drewN k) os) :=
  ⟨rfl, rfl, rfl, by simp [Go.Sort.grow, World.drewN], fun j hj => by
    show (w.heap ++ os)[j]? = w.heap[j]?
    rw [Array.getElem?_append_left hj]⟩
theorem itoa_any (n : Int) (hn : Bd.inR n) (w : World) (hw : Lw w) : Calls Tryz.prog 112 #[.int .i64 n] w fun e w' => e = .returned (.string ⟨(Lib.itoa n).toArray⟩) ∧ Below w.heap.size w w' := by
  refine (Tryz.strconv_Itoa n hn.1 hn.2 w hw.tab).mono ?_
  rintro e w' ⟨he, k, os, rfl⟩
  exact ⟨he, below_grow w k os⟩
theorem join_flat (ls : List (List UInt8)) : Lib.join ls [] = ls.flatten := by
  cases ls with
  | nil => rfl
  | cons x r => rw [Lib.join_cons]; simp [Lib.joinTail]
/-- A slice of strings: its cells. -/
def Strs (w : World) (v : Value) (ls : List (List UInt8)) : Prop :=
  (v = .slice none 0 0 ∧ ls = []) ∨ ∃ g o c, v = .slice (some ⟨g, o, none⟩) ls.length c ∧ g < w.heap.size ∧ ls.length ≤ c ∧ ∀ (j : Nat) x, ls[j]? = some x → w.cell? ⟨g, o + j, none⟩ = some (.string ⟨x.toArray⟩)
theorem join_any (v : Value) (ls : List (List UInt8)) (w : World) (h : Strs w v ls) (hl : ls.length ≤ 140737488355328) (hb : ls.flatten.length ≤ 140737488355328) :
    Calls Tryz.prog 79 #[v, .string ⟨#[]⟩] w fun e w' => e = .returned (.string ⟨ls.flatten.toArray⟩) ∧ Below w.heap.size w w' := by
  rcases h with ⟨rfl, rfl⟩ | ⟨g, o, c, rfl, hg, hc, hcell⟩
  · refine (Tryz.strings_Join_none none 0 ⟨#[]⟩ w).mono ?_
    rintro e w' ⟨he, rfl⟩
    exact ⟨he, Below.refl _ _⟩
  · have hm : (ls.map (fun x => (⟨x.toArray⟩ : ByteArray))).map (·.data.toList) = ls := by rw [List.map_map]; exact (List.map_congr_left fun x _ => rfl).trans (List.map_id _)
    have := Tryz.strings_Join g o c (ls.map fun x => ⟨x.toArray⟩) ⟨#[]⟩ w (fun j x hx => by
      rw [List.getElem?_map] at hx
      cases hj : ls[j]? with
      | none => rw [hj] at hx; cases hx
      | some y => rw [hj] at hx; injection hx with hx; subst hx; exact hcell j y hj) hg (by rw [List.length_map]; exact hl) (by rw [List.length_map]; exact hc) (by rw [hm]; exact (join_flat ls).symm ▸ hb)
    rw [hm, List.length_map] at this
    refine this.mono ?_
    rintro e w' ⟨he, hb'⟩
    refine ⟨?_, hb'⟩
    rw [he]
    exact congrArg (fun l : List UInt8 => Ending.returned (.string ⟨l.toArray⟩)) (join_flat ls)

/-! ### Bead's writers -/

set_option maxHeartbeats 400000 in
theorem beadInt_any (n : Int) (hn : Bd.inR n) (w : World) (hw : Lw w) : Calls Tryz.prog 83 #[.int .i64 n] w fun e w' => e = .returned (.string ⟨(Bd.bInt n).toArray⟩) ∧ Below w.heap.size w w' := by
  have hl : (Lib.itoa n).length ≤ 21 := Lib.itoa_length_le n hn.1 hn.2
  have HI := Lib.hid (itoa_any n hn w hw)
  have HE : Hid ([105] ++ Lib.itoa n ++ [101] = Bd.bInt n) := by simp [Hid, Bd.bInt]
  clear hw
  generalize Lib.itoa n = t at hl HI HE
  go_enter Tryz.func83, Tryz.ntmps83
  go_wp2_with fail
  refine HI.out.mono ?_
  rintro e w1 ⟨rfl, hb⟩
  have HB := Lib.hid hb
  clear hb
  have e1 : ∀ l : List UInt8, (⟨#[105]⟩ : ByteArray) ++ ⟨l.toArray⟩ = ⟨([105] ++ l).toArray⟩ := fun l => bs_append [105] l
  have e2 : ∀ l : List UInt8, (⟨l.toArray⟩ : ByteArray) ++ ⟨#[101]⟩ = ⟨(l ++ [101]).toArray⟩ := fun l => bs_append l [101]
  go_wp2
  go_ret
  refine ⟨ret_str ?_, HB.out⟩
  rw [← HE.out]
  simp [bs_append, e1, e2]
set_option maxHeartbeats 400000 in
theorem beadText_any (s : List UInt8) (hs : s.length ≤ 140737488355328) (w : World) (hw : Lw w) : Calls Tryz.prog 81 #[.string ⟨s.toArray⟩] w fun e w' => e = .returned (.string ⟨(Bd.bText s).toArray⟩) ∧ Below w.heap.size w w' := by
  have hn : Bd.inR (s.length : Int) := by unfold Bd.inR; omega
  have hl : (Lib.itoa (s.length : Int)).length ≤ 21 := Lib.itoa_length_le _ hn.1 hn.2
  have HI := Lib.hid (itoa_any s.length hn w hw)
  have HE : Hid (Lib.itoa s.length ++ [58] ++ s = Bd.bText s) := by simp [Hid, Bd.bText]
  clear hw hn
  generalize Lib.itoa (s.length : Int) = t at hl HI HE
  go_enter Tryz.func81, Tryz.ntmps81
  go_wp2_with fail
  refine HI.out.mono ?_
  rintro e w1 ⟨rfl, hb1⟩
  have HB := Lib.hid hb1
  clear hb1
  go_wp2
  go_ret
  refine ⟨ret_str ?_, HB.out⟩
  rw [← HE.out]
  simp [bs_append]
set_option maxHeartbeats 400000 in
theorem beadList_any (v : Value) (ls : List (List UInt8)) (w : World) (h : Strs w v ls) (hl : ls.length ≤ 140737488355328) (hb : ls.flatten.length ≤ 140737488355328) :
    Calls Tryz.prog 46 #[v] w fun e w' => e = .returned (.string ⟨(108 :: (ls.flatten ++ [101])).toArray⟩) ∧ Below w.heap.size w w' := by
  have HI := Lib.hid (join_any v ls w h hl hb)
  have HE : Hid ([108] ++ ls.flatten ++ [101] = 108 :: (ls.flatten ++ [101])) := by simp [Hid]
  clear h hl
  generalize ls.flatten = t at hb HI HE
  go_enter Tryz.func46, Tryz.ntmps46
  go_wp2_with fail
  refine HI.out.mono ?_
  rintro e w1 ⟨rfl, hb1⟩
  have HB := Lib.hid hb1
  clear hb1
  go_wp2
  go_ret
  refine ⟨ret_str ?_, HB.out⟩
  rw [← HE.out]
  try simp [bs_append]

end Go.Proofs.YtbljbdjmgogknaaGreatDoor
/-
  Bead's reader, walked: New, ready, sign, Open, Close, More, Done.
  Conditions: none but the model's longest length.
-/
set_option linter.unusedVariables false
set_option linter.unusedSimpArgs false
namespace Go.Proofs.YtbljbdjmgogknaaGreatDoor
open Go.RowKit

/-- A reader: what is left, and whether it went wrong. -/
def Rd (w : World) (p : Nat) (q : Bd.St) : Prop := w.heap[p]? = some (.cells #[.string ⟨q.1.toArray⟩, .bool q.2] 129 (0, 0))
theorem Rd.cells {w : World} {p : Nat} {q : Bd.St} (h : Rd w p q) : w.cell? ⟨p, 0, none⟩ = some (.string ⟨q.1.toArray⟩) ∧ w.cell? ⟨p, 1, none⟩ = some (.bool q.2) := by
  unfold Rd at h
  simp [World.cell?, h]
theorem Rd.free {w : World} {p : Nat} {q : Bd.St} (h : Rd w p q) : w.frozen? ⟨p, 0, none⟩ = false ∧ w.frozen? ⟨p, 1, none⟩ = false := by
  unfold Rd at h
  simp [World.frozen?, h]
theorem Rd.lt {w : World} {p : Nat} {q : Bd.St} (h : Rd w p q) : p < w.heap.size := (Array.getElem?_eq_some_iff.1 h).1
theorem Rd.keep {S : Nat → Prop} {w w' : World} {p : Nat} {q : Bd.St} (h : Rd w p q) (k : Keeps S w w') (hs : ¬ S p) : Rd w' p q := (k.block p h.lt hs).trans h
theorem Rd.below {w w' : World} {p : Nat} {q : Bd.St} (h : Rd w p q) (hb : Below w.heap.size w w') : Rd w' p q := (hb.block p h.lt).trans h
theorem Rd.set0 {w : World} {p : Nat} {q : Bd.St} (h : Rd w p q) (l : List UInt8) : Rd (w.setCell ⟨p, 0, none⟩ (.string ⟨l.toArray⟩)) p (l, q.2) := by
  unfold Rd at h ⊢
  simp [World.setCell, Array.getElem?_modify, h]
theorem Rd.set1 {w : World} {p : Nat} {q : Bd.St} (h : Rd w p q) (b : Bool) : Rd (w.setCell ⟨p, 1, none⟩ (.bool b)) p (q.1, b) := by
  unfold Rd at h ⊢
  simp [World.setCell, Array.getElem?_modify, h]
theorem keepsP (w : World) (p o : Nat) (u : Value) : Keeps (fun k => k = p) w (w.setCell ⟨p, o, none⟩ u) := Keeps.setCell _ _ _ _ rfl
/-- What a call on a reader turns. -/
def Rds (w : World) (p : Nat) (q : Bd.St) (w' : World) : Prop := Rd w' p q ∧ Keeps (fun k => k = p) w w'
def RdV (v : Value) (w : World) (p : Nat) (q : Bd.St) (e : Ending) (w' : World) : Prop := e = .returned v ∧ Rds w p q w'

theorem new_any (s : List UInt8) (w : World) : Calls Tryz.prog 57 #[.string ⟨s.toArray⟩] w fun e w' => e = .returned (.pointer (some ⟨w.heap.size, 0, none⟩)) ∧ w' = w.alloc (.cells #[.string ⟨s.toArray⟩, .bool false] 129) := by
  go_enter Tryz.func57, Tryz.ntmps57
  go_wp2
  go_ret
  exact ⟨rfl, rfl⟩
theorem Rd.new (s : List UInt8) (w : World) : Rd (w.alloc (.cells #[.string ⟨s.toArray⟩, .bool false] 129)) w.heap.size (s, false) := by
  unfold Rd
  rw [heap_alloc_new]
theorem ready_any (p : Nat) (q : Bd.St) (w : World) (h : Rd w p q) : Calls Tryz.prog 115 #[.pointer (some ⟨p, 0, none⟩)] w fun e w' => e = .returned (.bool (!q.2)) ∧ w = w' := by
  obtain ⟨c0, c1⟩ := h.cells
  clear h
  go_enter Tryz.func115, Tryz.ntmps115
  go_wp2
  go_ret
  exact ⟨rfl, rfl⟩
theorem ready_nil (w : World) : Calls Tryz.prog 115 #[.pointer none] w fun e w' => e = .returned (.bool false) ∧ w = w' := by
  go_enter Tryz.func115, Tryz.ntmps115
  go_wp2
  go_ret
  exact ⟨rfl, rfl⟩
theorem done_any (p : Nat) (q : Bd.St) (w : World) (h : Rd w p q) : Calls Tryz.prog 61 #[.pointer (some ⟨p, 0, none⟩)] w fun e w' => e = .returned (.int .i64 (Bd.sDone q)) ∧ w = w' := by
  obtain ⟨c0, c1⟩ := h.cells
  clear h
  obtain ⟨s, b⟩ := q
  simp only at c0 c1
  cases b with
  | true =>
    go_enter Tryz.func61, Tryz.ntmps61
    go_wp2
    go_ret
    exact ⟨rfl, rfl⟩
  | false =>
    cases s with
    | nil =>
      go_enter Tryz.func61, Tryz.ntmps61
      go_wp2
      go_ret
      exact ⟨rfl, rfl⟩
    | cons x s =>
      go_enter Tryz.func61, Tryz.ntmps61
      go_wp2
      go_ret
      exact ⟨rfl, rfl⟩
theorem done_nil (w : World) : Calls Tryz.prog 61 #[.pointer none] w fun e w' => e = .returned (.int .i64 2) ∧ w = w' := by
  go_enter Tryz.func61, Tryz.ntmps61
  go_wp2
  go_ret
  exact ⟨rfl, rfl⟩

theorem cutPrefix_any (l : List UInt8) (c : UInt8) (w : World) : Calls Tryz.prog 116 #[.string ⟨l.toArray⟩, .string ⟨#[c]⟩] w fun e w' =>
    e = .returned (.tuple #[.string ⟨(Lib.trimPrefix l [c]).toArray⟩, .bool (Lib.hasPrefix l [c])]) ∧ w = w' := by
  refine (Tryz.strings_CutPrefix ⟨l.toArray⟩ ⟨#[c]⟩ w).mono ?_
  rintro e w' ⟨he, hw⟩
  exact ⟨he, hw.symm⟩
set_option maxHeartbeats 400000 in
theorem sign_any (p : Nat) (q : Bd.St) (c : UInt8) (w : World) (h : Rd w p q) : Calls Tryz.prog 91 #[.pointer (some ⟨p, 0, none⟩), .string ⟨#[c]⟩] w fun e w' => e = .returned (.tuple #[]) ∧ Rds w p (Bd.sSign c q) w' := by
  have H := Lib.hid h
  obtain ⟨c0, c1⟩ := h.cells
  obtain ⟨f0, f1⟩ := h.free
  clear h
  obtain ⟨s, b⟩ := q
  simp only at c0 c1
  cases b with
  | true =>
    go_enter Tryz.func91, Tryz.ntmps91
    go_wp2_with fail
    refine (ready_any _ _ _ H.out).mono ?_
    rintro e w1 ⟨rfl, rfl⟩
    go_wp2
    go_end0
    exact ⟨rfl, H.out, Keeps.refl _ _⟩
  | false =>
    have HE : Hid (Rds w p (Bd.sSign c (s, false)) ((w.setCell ⟨p, 0, none⟩ (.string ⟨(Lib.trimPrefix s [c]).toArray⟩)).setCell ⟨p, 1, none⟩ (.bool (!Lib.hasPrefix s [c])))) :=
      ⟨(H.out.set0 (Lib.trimPrefix s [c])).set1 (!Lib.hasPrefix s [c]), (keepsP w p 0 _).trans (keepsP _ p 1 _)⟩
    have HC := Lib.hid (cutPrefix_any s c w)
    generalize Lib.trimPrefix s [c] = t at HE HC
    generalize Lib.hasPrefix s [c] = b at HE HC
    go_enter Tryz.func91, Tryz.ntmps91
    go_wp2_with fail
    refine (ready_any _ _ _ H.out).mono ?_
    rintro e w1 ⟨rfl, rfl⟩
    go_wp2_with fail
    refine HC.out.mono ?_
    rintro e w1 ⟨rfl, rfl⟩
    go_wp2
    go_end0
    exact ⟨rfl, HE.out⟩
theorem open_any (p : Nat) (q : Bd.St) (w : World) (h : Rd w p q) : Calls Tryz.prog 58 #[.pointer (some ⟨p, 0, none⟩)] w fun e w' => e = .returned (.tuple #[]) ∧ Rds w p (Bd.sSign 108 q) w' := by
  have H := Lib.hid h
  clear h
  go_enter Tryz.func58, Tryz.ntmps58
  go_wp2_with fail
  refine (sign_any _ _ _ _ H.out).mono ?_
  rintro e w1 ⟨rfl, h1⟩
  have H1 := Lib.hid h1
  clear h1
  go_wp2
  go_end0
  exact ⟨rfl, H1.out⟩
theorem close_any (p : Nat) (q : Bd.St) (w : World) (h : Rd w p q) : Calls Tryz.prog 60 #[.pointer (some ⟨p, 0, none⟩)] w fun e w' => e = .returned (.tuple #[]) ∧ Rds w p (Bd.sSign 101 q) w' := by
  have H := Lib.hid h
  clear h
  go_enter Tryz.func60, Tryz.ntmps60
  go_wp2_with fail
  refine (sign_any _ _ _ _ H.out).mono ?_
  rintro e w1 ⟨rfl, h1⟩
  have H1 := Lib.hid h1
  clear h1
  go_wp2
  go_end0
  exact ⟨rfl, H1.out⟩
set_option maxHeartbeats 400000 in
theorem more_any (p : Nat) (q : Bd.St) (w : World) (h : Rd w p q) : Calls Tryz.prog 122 #[.pointer (some ⟨p, 0, none⟩)] w fun e w' => e = .returned (.bool (Bd.sMore q)) ∧ w = w' := by
  have H := Lib.hid h
  obtain ⟨c0, c1⟩ := h.cells
  clear h
  obtain ⟨s, b⟩ := q
  simp only at c0 c1
  cases b with
  | true =>
    go_enter Tryz.func122, Tryz.ntmps122
    go_wp2_with fail
    refine (ready_any _ _ _ H.out).mono ?_
    rintro e w1 ⟨rfl, rfl⟩
    go_wp2
    go_ret
    exact ⟨rfl, rfl⟩
  | false =>
    cases s with
    | nil =>
      go_enter Tryz.func122, Tryz.ntmps122
      go_wp2_with fail
      refine (ready_any _ _ _ H.out).mono ?_
      rintro e w1 ⟨rfl, rfl⟩
      go_wp2
      go_ret
      exact ⟨rfl, rfl⟩
    | cons x s =>
      have hix := str_at (P := Tryz.prog) (x :: s) 0 0 rfl (by simp) 9 Tryz.underlying9
      simp only [List.getD_cons_zero] at hix
      have he : ((x.toNat : Int) != 101) = (!(x == 101)) := by
        by_cases hx : x = 101
        · subst hx; rfl
        · have : (x.toNat : Int) ≠ 101 := fun e => hx (UInt8.toNat_inj.1 (by have : (101 : UInt8).toNat = 101 := rfl; omega))
          rw [bne_iff_ne.2 this]
          simp [hx]
      have hm : Hid (Bd.sMore (x :: s, false) = !(x == 101)) := by simp [Hid, Bd.sMore]
      go_enter Tryz.func122, Tryz.ntmps122
      go_wp2_with fail
      refine (ready_any _ _ _ H.out).mono ?_
      rintro e w1 ⟨rfl, rfl⟩
      go_wp2
      go_ret
      exact ⟨by rw [hm.out]; rfl, rfl⟩
theorem more_nil (w : World) : Calls Tryz.prog 122 #[.pointer none] w fun e w' => e = .returned (.bool false) ∧ w = w' := by
  go_enter Tryz.func122, Tryz.ntmps122
  go_wp2_with fail
  refine (ready_nil _).mono ?_
  rintro e w1 ⟨rfl, rfl⟩
  go_wp2
  go_ret
  exact ⟨rfl, rfl⟩
theorem sign_nil (c : UInt8) (w : World) : Calls Tryz.prog 91 #[.pointer none, .string ⟨#[c]⟩] w fun e w' => e = .returned (.tuple #[]) ∧ w = w' := by
  go_enter Tryz.func91, Tryz.ntmps91
  go_wp2_with fail
  refine (ready_nil _).mono ?_
  rintro e w1 ⟨rfl, rfl⟩
  go_wp2
  go_end0
  exact ⟨rfl, rfl⟩
theorem open_nil (w : World) : Calls Tryz.prog 58 #[.pointer none] w fun e w' => e = .returned (.tuple #[]) ∧ w = w' := by
  go_enter Tryz.func58, Tryz.ntmps58
  go_wp2_with fail
  refine (sign_nil _ _).mono ?_
  rintro e w1 ⟨rfl, rfl⟩
  go_wp2
  go_end0
  exact ⟨rfl, rfl⟩
theorem close_nil (w : World) : Calls Tryz.prog 60 #[.pointer none] w fun e w' => e = .returned (.tuple #[]) ∧ w = w' := by
  go_enter Tryz.func60, Tryz.ntmps60
  go_wp2_with fail
  refine (sign_nil _ _).mono ?_
  rintro e w1 ⟨rfl, rfl⟩
  go_wp2
  go_end0
  exact ⟨rfl, rfl⟩

end Go.Proofs.YtbljbdjmgogknaaGreatDoor
