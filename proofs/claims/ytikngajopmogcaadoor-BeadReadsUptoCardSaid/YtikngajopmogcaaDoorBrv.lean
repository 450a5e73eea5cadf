/-
  BeadReads: the walk.
  Conditions: the library's variables hold what they are laid with; the text has at most 2^20 bytes.
-/
import Derived.Test.YtikngajopmogcaaDoorBru
import Derived.Test.YtikngajopmogcaaDoorBlf
import Derived.Test.YtikngajopmogcaaDoorBo
import Derived.Deep.RegionHeld3
set_option linter.unusedVariables false
set_option linter.unusedSimpArgs false
namespace Go.Proofs.YtikngajopmogcaaDoor
open Go.ChangeShapes Go.WideShapes Go.ChangeAt Go.RowKit

set_option linter.unnecessarySimpa false in
set_option maxRecDepth 100000 in
theorem open_asks_r {W : World} {r : Reach} {base b0 : Nat} {H : Type} {enc : TypeId × Value → H} {spare : Nat → Bool} {held : Bool} {v : Value} {d : DataW H} {p : List MemPlace} (hv : Value.okWide Tryd.prog W r base 27 v)
    (h : DataW.Trod enc Tryd.prog W b0 spare held 27 v d p) : ∃ zs, Asks W v zs ∧ zs.length ≤ maxLen ∧ ∀ i, i < zs.length → -9223372036854775808 ≤ (zs.getD i (0, 0)).2 ∧ (zs.getD i (0, 0)).2 ≤ 9223372036854775807 := by
  obtain ⟨a, len, cap, rfl, hl, hm, h0, h1, hel⟩ := slice_open Tryd.underlying27 hv h
  rw [show Tryd.prog.cellsOf 34 = 2 by kernel_rfl] at hel
  obtain ⟨zs, hz, hzs⟩ := list_of (0, 0) (fun i (q : Int × Int) => (∃ b off, a = some ⟨b, off, none⟩ ∧ b < W.heap.size ∧
    W.cell? ⟨b, off + i * 2, none⟩ = some (.int .i64 q.1) ∧ W.cell? ⟨b, off + i * 2 + 1, none⟩ = some (.int .i64 q.2)) ∧ -9223372036854775808 ≤ q.2 ∧ q.2 ≤ 9223372036854775807) (n := len) (fun i hi => by
      obtain ⟨b, off, cs, n, y, rfl, hlt, hcl, hc, ht⟩ := hel i hi
      obtain ⟨y0, y1, m, _, _, hy0, hy1⟩ := trod_struct2 Tryd.underlying34 ht
      obtain ⟨q0, e0, _, _⟩ := DataW.trod_int Tryd.underlying3 hy0
      obtain ⟨q1, e1, _, wq⟩ := DataW.trod_int Tryd.underlying3 hy1
      have m1 : IntKind.i64.min = -9223372036854775808 := by decide
      have m2 : IntKind.i64.max = 9223372036854775807 := by decide
      simp [Lit.wf, m1, m2] at wq
      match cs, hcl with
      | [c0, c1], _ =>
        simp [show Tryd.prog.cellsOf 3 = 1 by kernel_rfl] at e0 e1
        subst e0 e1
        exact ⟨(q0, q1), ⟨b, off, rfl, hlt, by simpa using hc 0 (by omega), by simpa using hc 1 (by omega)⟩, wq⟩)
  subst hz
  exact ⟨zs, ⟨a, cap, rfl, fun i hi => (hzs i hi).1⟩, Nat.le_trans hl hm, fun i hi => (hzs i hi).2⟩

theorem refdone_is (p : Nat) (l : List UInt8) (q : Bd.St) (d : Int) (hd : Bd.sDone q = d) (w : World) (hl : l.length ≤ 4294967296) (h : RU w p l q) :
    Calls Tryd.prog 29 #[.pointer (some ⟨p, 0, none⟩)] w fun e w' => e = .returned (.int .i64 d) ∧ ∃ n, w' = w.drewN n := by
  have := refdone_any p l q w hl h
  rwa [hd] at this
theorem sText_le (m : Int) (q : Bd.St) : (Bd.sText m q).2.1.length ≤ q.1.length := by
  obtain ⟨s, b⟩ := q
  cases b with
  | true => exact Nat.le_refl _
  | false =>
    cases h : Bd.rdText m s with
    | none => simp [Bd.sText, h]
    | some x =>
      obtain ⟨t, r⟩ := x
      obtain ⟨_, e⟩ := Bd.rdText_some h
      simp [Bd.sText, h]
      rw [e, List.length_append]
      omega
theorem sSign_le (c : UInt8) (q : Bd.St) : (Bd.sSign c q).1.length ≤ q.1.length := by
  obtain ⟨s, b⟩ := q
  cases b with
  | true => exact Nat.le_refl _
  | false => exact Lib.trimPrefix_le s [c]
theorem Keeps.bel {w0 w w' : World} {p : Nat} (h : Keeps (fun k => k = p) w w') (hb : Below w0.heap.size w0 w) (hp : w0.heap.size ≤ p) : Below w0.heap.size w0 w' :=
  hb.trans (h.toBelow hb.size (fun k hk e => by omega))

set_option maxRecDepth 20000 in
set_option maxHeartbeats 6400000 in
theorem reads_walk (s : List UInt8) (hs : s.length ≤ 1048576) (v : Value) (zs : List (Int × Int)) (w : World) (hz : Asks w v zs) (hm : zs.length ≤ maxLen) (hr : ∀ i, i < zs.length → -9223372036854775808 ≤ (zs.getD i (0, 0)).2 ∧ (zs.getD i (0, 0)).2 ≤ 9223372036854775807) (hw : Lw w) :
    Calls Tryd.prog 4 #[.string ⟨s.toArray⟩, v] w fun e w' => e = .returned (.bool true) ∧ Below w.heap.size w w' := by
  have HZ := Lib.hid hz
  obtain ⟨a, cap, rfl, _⟩ := hz
  unfold maxLen at hm
  have HW := Lib.hid hw
  have HQ := Lib.hid hr
  have hs32 : s.length ≤ 4294967296 := by omega
  clear hw hr
  go_enter Tryd.func4, Tryd.ntmps4
  go_wp2_with fail
  refine (awake_any _ HW.out).mono ?_
  rintro e w1 ⟨rfl, hb1⟩
  have B1 := Lib.hid hb1
  clear hb1
  go_wp2_with fail
  refine (new_any s _).mono ?_
  rintro e w4 ⟨rfl, rfl⟩
  have B5 : Hid (Below w.heap.size w (w1.alloc (.cells #[.string ⟨s.toArray⟩, .bool false] 53))) := B1.out.alloc B1.out.size _
  have R5 := Lib.hid (Rd.new s w1)
  have hp := B1.out.size
  generalize w1.alloc (.cells #[.string ⟨s.toArray⟩, .bool false] 53) = w5 at *
  generalize w1.heap.size = p at *
  clear B1
  have hlt5 := R5.out.lt
  have hu := B5.out.size
  have B6 : Hid (Below w.heap.size w (w5.alloc (.cells #[.string ⟨s.toArray⟩, .int .i64 0, .bool false] 32))) := B5.out.alloc B5.out.size _
  have R6 : Hid (Rd (w5.alloc (.cells #[.string ⟨s.toArray⟩, .int .i64 0, .bool false] 32)) p (s, false)) := R5.out.keep (S := fun _ => False) (Keeps.alloc _ _ _) id
  have U6 := Lib.hid (RU.new s w5)
  go_wp2_with fail
  generalize w5.alloc (.cells #[.string ⟨s.toArray⟩, .int .i64 0, .bool false] 32) = w6 at *
  generalize w5.heap.size = u at *
  clear R5 B5
  go_loopw [7] (fun i wr => ∃ (k : Nat) (q : Bd.St), i = .int .i64 k ∧ k ≤ zs.length ∧ k ≤ 200 ∧ Rd wr p q ∧ RU wr u s q ∧ q.1.length ≤ s.length ∧ Below w.heap.size w wr) (fun i _ => zs.length - (intOf i).toNat)
  case atStart => exact ⟨0, _, rfl, by omega, by omega, R6.out, U6.out, Nat.le_refl _, B6.out⟩
  case round =>
    obtain ⟨k, q, rfl, hk, hk200, hr, hru, hql, hb⟩ := hrel
    have HR := Lib.hid hr
    have HU := Lib.hid hru
    have HB := Lib.hid hb
    clear hr hru hb R6 B6 U6
    by_cases hc : k < zs.length ∧ k < 200
    · obtain ⟨hlt, hlt1⟩ := hc
      obtain ⟨hq0, hq1⟩ := HQ.out k hlt
      obtain ⟨a', cap', he, hcells⟩ := HZ.out
      injection he with he1 he2 he3
      subst he1 he3
      obtain ⟨g, off, rfl, hg, hd1, hd2⟩ := hcells k hlt
      have hgw := Lib.hid hg
      have hc1 := (HB.out.cell (p := ⟨g, off + k * 2, none⟩) hg).trans hd1
      have hc2 := (HB.out.cell (p := ⟨g, off + k * 2 + 1, none⟩) hg).trans hd2
      clear hcells he2 hg
      generalize zs.getD k (0, 0) = qa at hc1 hc2 hd1 hd2 hq0 hq1
      obtain ⟨q1, q2⟩ := qa
      simp only at hc1 hc2 hd1 hd2 hq0 hq1
      have HD2 := Lib.hid hd2
      clear hd1 hd2
      by_cases k1 : q1 = 1
      · subst k1
        go_wp2_with fail
        refine (int_any p q _ HR.out (by omega) (HW.out.below HB.out)).mono ?_
        rintro e w8 ⟨rfl, h8⟩
        have U8 := Lib.hid (HU.out.keep h8.2 (by omega))
        have B8 := Lib.hid (h8.bel HB.out hp)
        have R8 := Lib.hid h8.1
        have LA := Nat.le_trans (sInt_le q) hql
        clear h8
        go_wp2_with fail
        refine (refint_any u s q _ hs32 U8.out).mono ?_
        rintro e w9 ⟨rfl, h9⟩
        have RB := Lib.hid h9.1
        have BA := Lib.hid (Keeps.bel h9.2 B8.out (by omega))
        have RA := Lib.hid (R8.out.keep h9.2 (by omega))
        clear h9
        generalize (Bd.sInt q).2 = qq at *
        generalize (Bd.sInt q).1 = z at *
        generalize hdd : Bd.sDone qq = d at *
        go_wp2_with fail
        refine (done_is p qq d hdd _ RA.out).mono ?_
        rintro e wa ⟨rfl, rfl⟩
        go_wp2_with fail
        refine (refdone_is u s qq d hdd _ hs32 RB.out).mono ?_
        rintro e wb ⟨rfl, nd, rfl⟩
        go_wp2
        go_roundw
        case rel => exact ⟨k + 1, qq, by go_num, by omega, by omega, RA.out, RB.out, LA, by first | exact below_drewN BA.out nd | exact below_drewN HB.out _⟩
        case measure => simp [intOf]; omega
      have t1 : (q1 == 1) = false := beq_eq_false_iff_ne.2 k1
      by_cases k2 : q1 = 2
      · subst k2
        have LA := Nat.le_trans (sText_le q2 q) hql
        have hql32 : q.1.length < 4294967281 := by omega
        have HRd : Hid (Rd wr.drew p q) := HR.out
        have HUd : Hid (RU wr.drew u s q) := HU.out
        have HBd : Hid (Below w.heap.size w wr.drew) := below_drewN HB.out 1
        go_wp2_with fail
        go_region_held3 (fun W => W.cell? ⟨g, off + k * 2 + 1, none⟩ = some (.int .i64 q2)) (first | assumption | exact hc2) (first
          | (go_at_call 20; refine (text_any p q2 q _ HRd.out hql32 (HW.out.below HBd.out)).mono ?_; rintro e w8 ⟨rfl, h8⟩; have U8 := Lib.hid (HUd.out.keep h8.2 (by omega)); have B8 := Lib.hid (h8.bel HBd.out hp); have R8 := Lib.hid h8.1; have c8 := (B8.out.cell (p := ⟨g, off + k * 2 + 1, none⟩) hgw.out).trans HD2.out; clear h8)
          | (go_at_call 21; refine (reftext_any u q2 hq0 hq1 s q _ hs32 U8.out).mono ?_; rintro e w9 ⟨rfl, h9⟩; have RB := Lib.hid h9.1; have BA := Lib.hid (Keeps.bel h9.2 B8.out (by omega)); have RA := Lib.hid (R8.out.keep h9.2 (by omega)); have c9 := (BA.out.cell (p := ⟨g, off + k * 2 + 1, none⟩) hgw.out).trans HD2.out; clear h9))
        generalize (Bd.sText q2 q).2 = qq at *
        generalize (Bd.sText q2 q).1 = z at *
        generalize hdd : Bd.sDone qq = d at *
        go_wp2_with fail
        refine (done_is p qq d hdd _ RA.out).mono ?_
        rintro e wa ⟨rfl, rfl⟩
        go_wp2_with fail
        refine (refdone_is u s qq d hdd _ hs32 RB.out).mono ?_
        rintro e wb ⟨rfl, nd, rfl⟩
        go_wp2
        go_roundw
        case rel => exact ⟨k + 1, qq, by go_num, by omega, by omega, RA.out, RB.out, LA, by first | exact below_drewN BA.out nd | exact below_drewN HB.out _⟩
        case measure => simp [intOf]; omega
      have t2 : (q1 == 2) = false := beq_eq_false_iff_ne.2 k2
      by_cases k3 : q1 = 3
      · subst k3
        go_wp2_with fail
        refine (open_any p q _ HR.out).mono ?_
        rintro e w8 ⟨rfl, h8⟩
        have U8 := Lib.hid (HU.out.keep h8.2 (by omega))
        have B8 := Lib.hid (h8.bel HB.out hp)
        have R8 := Lib.hid h8.1
        have LA := Nat.le_trans (sSign_le 108 q) hql
        clear h8
        go_wp2_with fail
        refine (refopen_any u s q _ hs32 U8.out).mono ?_
        rintro e w9 ⟨rfl, h9⟩
        have RB := Lib.hid h9.1
        have BA := Lib.hid (Keeps.bel h9.2 B8.out (by omega))
        have RA := Lib.hid (R8.out.keep h9.2 (by omega))
        clear h9
        generalize Bd.sSign 108 q = qq at *
        generalize hdd : Bd.sDone qq = d at *
        go_wp2_with fail
        refine (done_is p qq d hdd _ RA.out).mono ?_
        rintro e wa ⟨rfl, rfl⟩
        go_wp2_with fail
        refine (refdone_is u s qq d hdd _ hs32 RB.out).mono ?_
        rintro e wb ⟨rfl, nd, rfl⟩
        go_wp2
        go_roundw
        case rel => exact ⟨k + 1, qq, by go_num, by omega, by omega, RA.out, RB.out, LA, by first | exact below_drewN BA.out nd | exact below_drewN HB.out _⟩
        case measure => simp [intOf]; omega
      have t3 : (q1 == 3) = false := beq_eq_false_iff_ne.2 k3
      by_cases k4 : q1 = 4
      · subst k4
        go_wp2_with fail
        refine (more_any p q _ HR.out).mono ?_
        rintro e w8 ⟨rfl, rfl⟩
        go_wp2_with fail
        refine (refmore_any u s q _ hs32 HU.out).mono ?_
        rintro e w9 ⟨rfl, nm, rfl⟩
        have RA : Hid (Rd (wr.drewN nm) p q) := HR.out
        have RB : Hid (RU (wr.drewN nm) u s q) := HU.out
        have BA := Lib.hid (below_drewN HB.out nm)
        have LA := hql
        generalize Bd.sMore q = z at *
        generalize hqq : q = qq at *
        generalize hdd : Bd.sDone qq = d at *
        go_wp2_with fail
        refine (done_is p qq d hdd _ RA.out).mono ?_
        rintro e wa ⟨rfl, rfl⟩
        go_wp2_with fail
        refine (refdone_is u s qq d hdd _ hs32 RB.out).mono ?_
        rintro e wb ⟨rfl, nd, rfl⟩
        go_wp2
        go_roundw
        case rel => exact ⟨k + 1, qq, by go_num, by omega, by omega, RA.out, RB.out, LA, by first | exact below_drewN BA.out nd | exact below_drewN HB.out _⟩
        case measure => simp [intOf]; omega
      have t4 : (q1 == 4) = false := beq_eq_false_iff_ne.2 k4
      by_cases k5 : q1 = 5
      · subst k5
        go_wp2_with fail
        refine (close_any p q _ HR.out).mono ?_
        rintro e w8 ⟨rfl, h8⟩
        have U8 := Lib.hid (HU.out.keep h8.2 (by omega))
        have B8 := Lib.hid (h8.bel HB.out hp)
        have R8 := Lib.hid h8.1
        have LA := Nat.le_trans (sSign_le 101 q) hql
        clear h8
        go_wp2_with fail
        refine (refclose_any u s q _ hs32 U8.out).mono ?_
        rintro e w9 ⟨rfl, h9⟩
        have RB := Lib.hid h9.1
        have BA := Lib.hid (Keeps.bel h9.2 B8.out (by omega))
        have RA := Lib.hid (R8.out.keep h9.2 (by omega))
        clear h9
        generalize Bd.sSign 101 q = qq at *
        generalize hdd : Bd.sDone qq = d at *
        go_wp2_with fail
        refine (done_is p qq d hdd _ RA.out).mono ?_
        rintro e wa ⟨rfl, rfl⟩
        go_wp2_with fail
        refine (refdone_is u s qq d hdd _ hs32 RB.out).mono ?_
        rintro e wb ⟨rfl, nd, rfl⟩
        go_wp2
        go_roundw
        case rel => exact ⟨k + 1, qq, by go_num, by omega, by omega, RA.out, RB.out, LA, by first | exact below_drewN BA.out nd | exact below_drewN HB.out _⟩
        case measure => simp [intOf]; omega
      have t5 : (q1 == 5) = false := beq_eq_false_iff_ne.2 k5
      clear k1 k2 k3 k4 k5
      have RA := HR
      have RB := HU
      have BA := HB
      have LA := hql
      generalize hqq : q = qq at *
      generalize hdd : Bd.sDone qq = d at *
      go_wp2_with fail
      refine (done_is p qq d hdd _ RA.out).mono ?_
      rintro e wa ⟨rfl, rfl⟩
      go_wp2_with fail
      refine (refdone_is u s qq d hdd _ hs32 RB.out).mono ?_
      rintro e wb ⟨rfl, nd, rfl⟩
      go_wp2
      go_roundw
      case rel => exact ⟨k + 1, qq, by go_num, by omega, by omega, RA.out, RB.out, LA, by first | exact below_drewN BA.out nd | exact below_drewN HB.out _⟩
      case measure => simp [intOf]; omega
    · have hor : k = zs.length ∨ (k = 200 ∧ 200 < zs.length) := by omega
      clear hc
      generalize hdd : Bd.sDone q = d
      rcases hor with rfl | ⟨rfl, hgt⟩
      all_goals
        go_wp2_with fail
        refine (done_is p q d hdd _ HR.out).mono ?_
        rintro e w8 ⟨rfl, rfl⟩
        go_wp2_with fail
        refine (refdone_is u s q d hdd _ hs32 HU.out).mono ?_
        rintro e w9 ⟨rfl, nd, rfl⟩
        go_wp2
        go_ret
        exact ⟨by simp, below_drewN HB.out nd⟩

end Go.Proofs.YtikngajopmogcaaDoor
