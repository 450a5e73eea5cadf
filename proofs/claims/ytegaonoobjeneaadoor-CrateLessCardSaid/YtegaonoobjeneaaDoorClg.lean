/-
  CrateSame, walked.
  Conditions: the library's variables hold what they are laid with.
-/
import Derived.Test.YtegaonoobjeneaaDoorCla
import Derived.Laws.DeepNot64
set_option linter.unusedVariables false
set_option linter.unusedSimpArgs false
namespace Go.Proofs.YtegaonoobjeneaaDoor
open Go.RowKit

theorem xor_one (n : Int) : bits .xor .i64 n 1 ≠ n ∧ Bd.inR (bits .xor .i64 n 1) := by
  have e : bits .xor .i64 n 1 = IntKind.i64.wrap ((BitVec.ofInt 64 n ^^^ BitVec.ofInt 64 1).toNat : Int) := rfl
  have hlt := (BitVec.ofInt 64 n ^^^ BitVec.ofInt 64 1).isLt
  generalize hr : BitVec.ofInt 64 n ^^^ BitVec.ofInt 64 1 = r at *
  rw [e, IntKind.wrap_i64]
  constructor
  · intro h
    have h2 : BitVec.ofInt 64 n = r := by
      apply BitVec.eq_of_toNat_eq
      rw [BitVec.toNat_ofInt]
      omega
    rw [h2] at hr
    have h3 := congrArg (fun x => r ^^^ x) hr
    simp only [← BitVec.xor_assoc, BitVec.xor_self, BitVec.zero_xor] at h3
    exact absurd h3 (by decide)
  · unfold Bd.inR
    omega
theorem same_comm (a b : Cr.Batch) : Cr.same b a = Cr.same a b := by
  cases h : Cr.same a b with
  | true => rw [Cr.same_iff.1 h]; exact Cr.same_iff.2 rfl
  | false =>
    cases h2 : Cr.same b a with
    | false => rfl
    | true => rw [Cr.same_iff.1 h2, Cr.same_iff.2 rfl] at h; cases h
theorem same_xor (a : Cr.Batch) : Cr.same a { a with seq := bits .xor .i64 a.seq 1 } = false := by
  cases h : Cr.same a { a with seq := bits .xor .i64 a.seq 1 } with
  | false => rfl
  | true => exact absurd (congrArg Cr.Batch.seq (Cr.same_iff.1 h)).symm (xor_one a.seq).1
theorem same_more (a : Cr.Batch) (x : Cr.Rec) : Cr.same a { a with recs := a.recs ++ [x] } = false := by
  cases h : Cr.same a { a with recs := a.recs ++ [x] } with
  | false => rfl
  | true =>
    have := congrArg (fun b => b.recs.length) (Cr.same_iff.1 h)
    simp at this
def zrec : Cr.Rec := ⟨0, [], [], false⟩
theorem recCells_zrec (l : List Cr.Rec) : recCells (l ++ [zrec]) = recCells l ++ [.int .i64 0, .string ⟨#[]⟩, .string ⟨#[]⟩, .bool false] := by simp [recCells, zrec]
theorem recs_srcIs {w : World} {l : List Cr.Rec} {a : Option Addr} {cap : Nat} (h : Recs w (.slice a l.length cap) l) (hn : a ≠ none ∨ cap = 0) : SrcIs w 4 (.slice a l.length cap) l.length (recCells l) := by
  cases a with
  | none =>
    have h0 : l = [] := by
      cases l with
      | nil => rfl
      | cons x l =>
        obtain ⟨a', cap', e, hc⟩ := h
        obtain ⟨g, off, e2, _⟩ := hc 0 x rfl
        injection e with e1
        rw [← e1] at e2
        cases e2
    subst h0
    obtain rfl : cap = 0 := hn.resolve_left (fun e => e rfl)
    exact .inl ⟨rfl, rfl, rfl⟩
  | some ad =>
    refine .inr ⟨_, _, rfl, recCells_len l, fun j u hu => ?_⟩
    cases l with
    | nil => simp [recCells] at hu
    | cons x l =>
      obtain ⟨a', cap', e, hc⟩ := id h
      obtain ⟨g, off, e2, hg, _⟩ := hc 0 x rfl
      injection e with e1
      rw [← e1] at e2
      injection e2 with e2
      subst e2
      have e3 : (⟨g, off, none⟩ : Addr).add j = ⟨g, off + j, none⟩ := by unfold Addr.add; split <;> simp_all
      rw [e3]
      exact recs_src h j u hu
theorem _root_.Go.World.ownsRow.form' {w : World} {base : Nat} {e : TypeId} {size : Nat} {v : Value} {n : Nat} {xs : List Value} (h : w.ownsRow base e size v n xs) : ∃ a c, v = .slice a n c := by
  rcases h.2 with ⟨rfl, h0⟩ | ⟨g, cap, cur, rfl, _⟩
  · exact ⟨none, 0, by rw [h0]⟩
  · exact ⟨_, _, rfl⟩
theorem batOk_seq {a : Cr.Batch} (h : BatOk a) : BatOk { a with seq := bits .xor .i64 a.seq 1 } := ⟨h.1, h.2.1, h.2.2.1, (xor_one a.seq).2, h.2.2.2.2.1, h.2.2.2.2.2.1, h.2.2.2.2.2.2⟩
theorem batOk_more {a : Cr.Batch} (h : BatOk a) (hl : a.recs.length ≤ 40) : BatOk { a with recs := a.recs ++ [zrec] } :=
  ⟨h.1, h.2.1, h.2.2.1, h.2.2.2.1, h.2.2.2.2.1, by simp only [List.length_append, List.length_singleton]; unfold maxLen; omega, fun x hx => by
    rcases List.mem_append.1 hx with hx | hx
    · exact h.2.2.2.2.2.2 x hx
    · rw [List.mem_singleton.1 hx]; exact ⟨⟨by decide, by decide⟩, by unfold maxLen; decide, by unfold maxLen; decide⟩⟩
theorem great_len {l : List Cr.Rec} (h : greatB l = false) : l.length ≤ 40 := by
  rcases Nat.lt_or_ge 40 l.length with h2 | h2
  · rw [greatB, decide_eq_true h2] at h
    cases h
  · exact h2
set_option maxRecDepth 20000 in
set_option maxHeartbeats 12800000 in
theorem csame_walk (a b c : Cr.Batch) (ha : BatOk a) (hb : BatOk b) (hc : BatOk c) (av bv cv : Value) (w : World) (h1 : Recs w av a.recs) (h2 : Recs w bv b.recs) (h3 : Recs w cv c.recs) (hnil : ∀ n c, av = .slice none n c → c = 0) (hw : Lw w) :
    Calls Tryd.prog 9 #[batV a av, batV b bv, batV c cv] w fun e w' => e = .returned (.bool true) ∧ Below w.heap.size w w' := by
  have HW := Lib.hid hw
  have H1 := Lib.hid h1
  have H2 := Lib.hid h2
  have H3 := Lib.hid h3
  have OA := Lib.hid ha
  have OB := Lib.hid hb
  have OC := Lib.hid hc
  have hl1 := ha.2.2.2.2.2.1
  have hl2 := hb.2.2.2.2.2.1
  have hl3 := hc.2.2.2.2.2.1
  have hsq := ha.2.2.2.1
  unfold maxLen at hl1 hl2 hl3
  obtain ⟨aa, acap, rfl⟩ := h1.form
  have HNC : Hid (aa ≠ none ∨ acap = 0) := by
    cases aa with
    | none => exact .inr (hnil _ _ rfl)
    | some ad => exact .inl (fun e => by cases e)
  clear hnil
  obtain ⟨ba, bcap, rfl⟩ := h2.form
  obtain ⟨ca, ccap, rfl⟩ := h3.form
  generalize hoa : Obj.cells #[.int .i64 a.base, .int .i64 a.count, .int .i64 a.prod, .int .i64 a.seq, .int .i64 a.time, .slice aa a.recs.length acap] 24 = oa
  generalize hob : Obj.cells #[.int .i64 b.base, .int .i64 b.count, .int .i64 b.prod, .int .i64 b.seq, .int .i64 b.time, .slice ba b.recs.length bcap] 24 = ob
  generalize hoc : Obj.cells #[.int .i64 c.base, .int .i64 c.count, .int .i64 c.prod, .int .i64 c.seq, .int .i64 c.time, .slice ca c.recs.length ccap] 24 = oc
  have s1 := World.size_alloc w oa
  have s2 := World.size_alloc (w.alloc oa) ob
  have B0 : Hid (Below w.heap.size w (((w.alloc oa).alloc ob).alloc oc)) := (((Below.refl _ _).alloc (Nat.le_refl _) _).alloc (by omega) _).alloc (by omega) _
  have A0 : Hid (Cl (((w.alloc oa).alloc ob).alloc oc) w.heap.size [.int .i64 a.base, .int .i64 a.count, .int .i64 a.prod, .int .i64 a.seq, .int .i64 a.time, .slice aa a.recs.length acap] 24) := by
    rw [← hoa]
    exact ((batCl w a (.slice aa a.recs.length acap)).alloc _).alloc _
  have D0 : Hid (Cl (((w.alloc oa).alloc ob).alloc oc) (w.heap.size + 1) [.int .i64 b.base, .int .i64 b.count, .int .i64 b.prod, .int .i64 b.seq, .int .i64 b.time, .slice ba b.recs.length bcap] 24) := by
    have := (batCl (w.alloc oa) b (.slice ba b.recs.length bcap)).alloc oc
    rw [hob, s1] at this
    exact this
  have E0 : Hid (Cl (((w.alloc oa).alloc ob).alloc oc) (w.heap.size + 2) [.int .i64 c.base, .int .i64 c.count, .int .i64 c.prod, .int .i64 c.seq, .int .i64 c.time, .slice ca c.recs.length ccap] 24) := by
    have := batCl ((w.alloc oa).alloc ob) c (.slice ca c.recs.length ccap)
    rw [hoc, s2, s1] at this
    exact this
  subst hoa hob hoc
  clear h1 h2 h3 hw ha hb hc s1 s2
  have HAA := Lib.hid (fun W (hW : Below w.heap.size w W) => same_any a a OA.out OA.out _ _ W (H1.out.kept hW) (H1.out.kept hW))
  have HAB := Lib.hid (fun W (hW : Below w.heap.size w W) => same_any a b OA.out OB.out _ _ W (H1.out.kept hW) (H2.out.kept hW))
  have HBA := Lib.hid (fun W (hW : Below w.heap.size w W) => same_any b a OB.out OA.out _ _ W (H2.out.kept hW) (H1.out.kept hW))
  have HBC := Lib.hid (fun W (hW : Below w.heap.size w W) => same_any b c OB.out OC.out _ _ W (H2.out.kept hW) (H3.out.kept hW))
  have HAC := Lib.hid (fun W (hW : Below w.heap.size w W) => same_any a c OA.out OC.out _ _ W (H1.out.kept hW) (H3.out.kept hW))
  rw [Cr.same_iff.2 rfl] at HAA
  rw [same_comm a b] at HBA
  unfold batV at *
  go_enter Tryd.func9, Tryd.ntmps9
  go_wp2_with fail
  refine (awake_any _ (HW.out.below B0.out)).mono ?_
  rintro e w1 ⟨rfl, hb1⟩
  have B1 := Lib.hid (bt B0.out hb1)
  have A1 := Lib.hid (A0.out.below hb1)
  have D1 := Lib.hid (D0.out.below hb1)
  have E1 := Lib.hid (E0.out.below hb1)
  clear hb1 A0 D0 E0 B0
  obtain ⟨a0, a1, a2, a3, a4, a5⟩ := A1.out.cell6
  obtain ⟨d0, d1, d2, d3, d4, d5⟩ := D1.out.cell6
  obtain ⟨e0, e1, e2, e3, e4, e5⟩ := E1.out.cell6
  have G1 := Lib.hid (great_any a.recs OA.out.2.2.2.2.2.2 OA.out.2.2.2.2.2.1 _ w1 (H1.out.kept B1.out))
  have G2 := Lib.hid (great_any b.recs OB.out.2.2.2.2.2.2 OB.out.2.2.2.2.2.1 _ w1 (H2.out.kept B1.out))
  have G3 := Lib.hid (great_any c.recs OC.out.2.2.2.2.2.2 OC.out.2.2.2.2.2.1 _ w1 (H3.out.kept B1.out))
  go_wp2_with fail
  refine G1.out.mono ?_
  rintro e w1 ⟨rfl, rfl⟩
  cases hg : greatB a.recs with
  | true =>
    go_wp2
    go_ret
    exact ⟨rfl, B1.out⟩
  | false =>
    have ha40 := great_len hg
    clear hg G1
    go_wp2_with fail
    refine G2.out.mono ?_
    rintro e w1 ⟨rfl, rfl⟩
    cases hg : greatB b.recs with
    | true =>
      go_wp2
      go_ret
      exact ⟨rfl, B1.out⟩
    | false =>
      clear hg G2
      go_wp2_with fail
      refine G3.out.mono ?_
      rintro e w1 ⟨rfl, rfl⟩
      cases hg : greatB c.recs with
      | true =>
        go_wp2
        go_ret
        exact ⟨rfl, B1.out⟩
      | false =>
        clear hg G3
        have m0 := fun x : BelowOf w1 => x.cell a0
        have m1 := fun x : BelowOf w1 => x.cell a1
        have m2 := fun x : BelowOf w1 => x.cell a2
        have m3 := fun x : BelowOf w1 => x.cell a3
        have m4 := fun x : BelowOf w1 => x.cell a4
        have m5 := fun x : BelowOf w1 => x.cell a5
        have n0 := fun x : BelowOf w1 => x.cell d0
        have n1 := fun x : BelowOf w1 => x.cell d1
        have n2 := fun x : BelowOf w1 => x.cell d2
        have n3 := fun x : BelowOf w1 => x.cell d3
        have n4 := fun x : BelowOf w1 => x.cell d4
        have n5 := fun x : BelowOf w1 => x.cell d5
        have q0 := fun x : BelowOf w1 => x.cell e0
        have q1 := fun x : BelowOf w1 => x.cell e1
        have q2 := fun x : BelowOf w1 => x.cell e2
        have q3 := fun x : BelowOf w1 => x.cell e3
        have q4 := fun x : BelowOf w1 => x.cell e4
        have q5 := fun x : BelowOf w1 => x.cell e5
        have I1 := Lib.hid (below_class (w := w1) fun W hW => HAA.out W (bt B1.out hW))
        have I2 := Lib.hid (below_class (w := w1) fun W hW => HAB.out W (bt B1.out hW))
        have I3 := Lib.hid (below_class (w := w1) fun W hW => HBA.out W (bt B1.out hW))
        have I4 := Lib.hid (below_class (w := w1) fun W hW => HBC.out W (bt B1.out hW))
        have I5 := Lib.hid (below_class (w := w1) fun W hW => HAC.out W (bt B1.out hW))
        go_wp2_with fail
        cases hab : Cr.same a b with
        | false =>
          rw [hab] at I2 I3
          clear hab
          refine wp_region_below (by kernel_rfl) (by kernel_rfl) ?_
          repeat (go_big_quiet_step (fail))
          go_big_quiet_step ((exact I1.out _))
          repeat (go_big_quiet_step (fail))
          go_big_quiet_step ((exact I2.out _))
          repeat (go_big_quiet_step (fail))
          go_big_quiet_step ((exact I3.out _))
          repeat (go_big_quiet_step (fail))
          go_big_quiet_step ((exact I2.out _))
          repeat (go_big_quiet_step (fail))
          refine wpQuiet_nil ?_
          intro w9 hC9
          obtain ⟨⟨w9, hb9⟩, rfl⟩ := hC9
          have B9 := Lib.hid (bt B1.out hb9)
          have A9 := Lib.hid (A1.out.below hb9)
          clear hb9 m0 m1 m2 m3 m4 m5 n0 n1 n2 n3 n4 n5 q0 q1 q2 q3 q4 q5 a0 a1 a2 a3 a4 a5 d0 d1 d2 d3 d4 d5 e0 e1 e2 e3 e4 e5 A1 D1 E1 I1 I2 I3 I4 I5 B1 HAA HAB HBA HBC HAC
          obtain ⟨a0, a1, a2, a3, a4, a5⟩ := A9.out.cell6
          have ND := Lib.hid (batCl w9 a (.slice aa a.recs.length acap))
          have AD := Lib.hid (A9.out.alloc (.cells #[.int .i64 a.base, .int .i64 a.count, .int .i64 a.prod, .int .i64 a.seq, .int .i64 a.time, .slice aa a.recs.length acap] 24))
          have BD : Hid (Below w.heap.size w (w9.alloc (.cells #[.int .i64 a.base, .int .i64 a.count, .int .i64 a.prod, .int .i64 a.seq, .int .i64 a.time, .slice aa a.recs.length acap] 24))) := B9.out.alloc B9.out.size _
          have hne : w9.heap.size ≠ w.heap.size := by have := A9.out.lt; omega
          go_upto_region 8 with (fail)
          clear a0 a1 a2 a3 a4 a5 A9
          generalize w9.alloc (.cells #[.int .i64 a.base, .int .i64 a.count, .int .i64 a.prod, .int .i64 a.seq, .int .i64 a.time, .slice aa a.recs.length acap] 24) = wd at *
          have hdb := B9.out.size
          clear B9
          generalize w9.heap.size = db at *
          obtain ⟨d0, d1, d2, d3, d4, d5⟩ := ND.out.cell6
          have f3 := ND.out.free 3
          have NE : Hid (Cl (wd.setCell ⟨db, 3, none⟩ (.int .i64 (bits .xor .i64 a.seq 1))) db [.int .i64 a.base, .int .i64 a.count, .int .i64 a.prod, .int .i64 (bits .xor .i64 a.seq 1), .int .i64 a.time, .slice aa a.recs.length acap] 24) := ND.out.set 3 _
          have AE := Lib.hid (AD.out.other ⟨db, 3, none⟩ (.int .i64 (bits .xor .i64 a.seq 1)) hne)
          have BE := Lib.hid (BD.out.setCell (p := ⟨db, 3, none⟩) hdb (.int .i64 (bits .xor .i64 a.seq 1)))
          go_upto_region 9 with (fail)
          clear d0 d1 d2 d3 d4 d5 f3 ND AD BD
          generalize wd.setCell ⟨db, 3, none⟩ (.int .i64 (bits .xor .i64 a.seq 1)) = we at *
          obtain ⟨a0, a1, a2, a3, a4, a5⟩ := AE.out.cell6
          have NF := Lib.hid (batCl we a (.slice aa a.recs.length acap))
          have AF := Lib.hid (AE.out.alloc (.cells #[.int .i64 a.base, .int .i64 a.count, .int .i64 a.prod, .int .i64 a.seq, .int .i64 a.time, .slice aa a.recs.length acap] 24))
          have DF := Lib.hid (NE.out.alloc (.cells #[.int .i64 a.base, .int .i64 a.count, .int .i64 a.prod, .int .i64 a.seq, .int .i64 a.time, .slice aa a.recs.length acap] 24))
          have BF : Hid (Below w.heap.size w (we.alloc (.cells #[.int .i64 a.base, .int .i64 a.count, .int .i64 a.prod, .int .i64 a.seq, .int .i64 a.time, .slice aa a.recs.length acap] 24))) := BE.out.alloc BE.out.size _
          have hne2 : we.heap.size ≠ w.heap.size := by have := AE.out.lt; omega
          have hne3 : we.heap.size ≠ db := by have := NE.out.lt; omega
          have hdb2 := BE.out.size
          go_upto_region 10 with (fail)
          clear a0 a1 a2 a3 a4 a5 AE NE BE
          generalize we.alloc (.cells #[.int .i64 a.base, .int .i64 a.count, .int .i64 a.prod, .int .i64 a.seq, .int .i64 a.time, .slice aa a.recs.length acap] 24) = wf at *
          have heb := NF.out.lt
          generalize we.heap.size = eb at *
          obtain ⟨a0, a1, a2, a3, a4, a5⟩ := AF.out.cell6
          obtain ⟨i0, hi, hz0, hz1, hz2⟩ := info_parts recInfo
          have hmade : Hid ((wf.alloc (.cells #[] 41)).ownsRow wf.heap.size 41 4 (.slice (some ⟨wf.heap.size, 0, none⟩) 0 0) 0 []) := World.ownsRow_made wf #[] 0 (Nat.le_refl _) (by unfold maxLen; omega) rfl
          have hsrc : Hid (SrcIs (wf.alloc (.cells #[] 41)) 4 (.slice aa a.recs.length acap) a.recs.length (recCells a.recs)) := recs_srcIs (H1.out.kept (BF.out.alloc BF.out.size _)) HNC.out
          have hone := recCells_one a.recs
          have e6 := AF.out.alloc (.cells #[] 41) |>.cell 5
          go_wp2_with (at_builtin; refine wpList_append_src rfl (.tmp 59) (.tmp 61) 22 rfl wf.heap.size 41 i0 _ 4 48 Tryd.underlying22 hi hz0 hz1 hz2 rfl (by decide) _ _ _ rfl hmade.out _ _ _ rfl hsrc.out hone ?_ ?_ ?_ ?_)
          · unfold maxLen; omega
          · omega
          · first | omega | (rw [World.size_alloc]; omega) | simp
          intro v1 wg hown1 hg1
          have O1 : Hid (wg.ownsRow wf.heap.size 41 4 v1 a.recs.length (recCells a.recs)) := by
            show World.ownsRow _ _ _ _ _ _ _
            simpa using hown1
          have KG : Hid (Keeps (fun j => wf.heap.size ≤ j) wf wg) := (Keeps.alloc _ _ _).trans (Keeps.grown hg1 (fun j hj => (hmade.out.lt j hj).1))
          have hsg := KG.out.size
          clear hown1 hg1 hmade hsrc e6 hone
          have hone : ∀ u ∈ [Value.int .i64 0, .string ⟨#[]⟩, .string ⟨#[]⟩, .bool false], u.oneCell' = true := by simp [Value.oneCell']
          go_wp2_with (at_builtin; refine wpList_append_own _ rfl (.tmp 62) (.tmp 64) 22 rfl wf.heap.size 41 i0 _ 4 48 Tryd.underlying22 hi hz0 hz1 hz2 rfl (by decide) _ _ _ rfl (World.ownsRow.alloc O1.out _) ⟨wg.heap.size, 0, none⟩ 1 1 [.int .i64 0, .string ⟨#[]⟩, .string ⟨#[]⟩, .bool false] rfl rfl (World.news_of_block (cs := #[.int .i64 0, .string ⟨#[]⟩, .string ⟨#[]⟩, .bool false]) (t := 41) (fr := (0, 0)) (heap_alloc_new wg _)) hone ?_ ?_ ?_ ?_)
          · unfold maxLen; omega
          · omega
          · first | omega | (rw [World.size_alloc]; omega) | (simp; omega)
          intro v2 wh hown2 hg2 _
          have KH : Hid (Keeps (fun j => wf.heap.size ≤ j) wf wh) := KG.out.trans ((Keeps.alloc _ _ _).trans (Keeps.grown hg2 (fun j hj => (O1.out.lt j hj).1)))
          have O2 : Hid (wh.ownsRow wf.heap.size 41 4 v2 (a.recs.length + 1) (recCells (a.recs ++ [zrec]))) := by
            rw [Hid, recCells_zrec]
            exact hown2
          have haf := AF.out.lt
          have hdf := DF.out.lt
          have NH := Lib.hid (NF.out.keep KH.out (by omega))
          have AH := Lib.hid (AF.out.keep KH.out (by omega))
          have DH := Lib.hid (DF.out.keep KH.out (by omega))
          have BH : Hid (Below w.heap.size w wh) := BF.out.trans (KH.out.toBelow BF.out.size (fun j hj e => by have := BF.out.size; omega))
          have hv2 := O2.out.form'
          obtain ⟨ea, ecap, hve⟩ := hv2
          subst hve
          clear hown2 hg2 KH KG O1 NF AF DF BF a0 a1 a2 a3 a4 a5 hone
          obtain ⟨d0, d1, d2, d3, d4, d5⟩ := NH.out.cell6
          have f5 := NH.out.free 5
          have NI : Hid (Cl (wh.setCell ⟨eb, 5, none⟩ (.slice ea (a.recs.length + 1) ecap)) eb [.int .i64 a.base, .int .i64 a.count, .int .i64 a.prod, .int .i64 a.seq, .int .i64 a.time, .slice ea (a.recs.length + 1) ecap] 24) := NH.out.set 5 _
          have AI := Lib.hid (AH.out.other ⟨eb, 5, none⟩ (.slice ea (a.recs.length + 1) ecap) hne2)
          have DI := Lib.hid (DH.out.other ⟨eb, 5, none⟩ (.slice ea (a.recs.length + 1) ecap) hne3)
          have BI := Lib.hid (BH.out.setCell (p := ⟨eb, 5, none⟩) hdb2 (.slice ea (a.recs.length + 1) ecap))
          have OI : Hid ((wh.setCell ⟨eb, 5, none⟩ (.slice ea (a.recs.length + 1) ecap)).ownsRow wf.heap.size 41 4 (.slice ea (a.recs.length + 1) ecap) (a.recs.length + 1) (recCells (a.recs ++ [zrec]))) := ownsRow_cell O2.out ⟨eb, 5, none⟩ _ heb
          go_upto_region 11 with (fail)
          clear d0 d1 d2 d3 d4 d5 f5 NH AH DH BH O2
          generalize wh.setCell ⟨eb, 5, none⟩ (.slice ea (a.recs.length + 1) ecap) = wi at *
          obtain ⟨a0, a1, a2, a3, a4, a5⟩ := AI.out.cell6
          obtain ⟨d0, d1, d2, d3, d4, d5⟩ := DI.out.cell6
          have S1 := Lib.hid (same_any a { a with seq := bits .xor .i64 a.seq 1 } OA.out (batOk_seq OA.out) _ _ wi (H1.out.kept BI.out) (H1.out.kept BI.out))
          rw [same_xor] at S1
          unfold batV at S1
          go_wp2_with fail
          refine S1.out.mono ?_
          rintro e wj ⟨rfl, hbj⟩
          have BJ := Lib.hid (bt BI.out hbj)
          have AJ := Lib.hid (AI.out.below hbj)
          have NJ := Lib.hid (NI.out.below hbj)
          have OJ := Lib.hid (ownsRow_below OI.out hbj)
          clear hbj S1 AI NI DI BI OI a0 a1 a2 a3 a4 a5 d0 d1 d2 d3 d4 d5
          obtain ⟨a0, a1, a2, a3, a4, a5⟩ := AJ.out.cell6
          obtain ⟨d0, d1, d2, d3, d4, d5⟩ := NJ.out.cell6
          have S2 := Lib.hid (same_any a { a with recs := a.recs ++ [zrec] } OA.out (batOk_more OA.out ha40) _ (.slice ea (a.recs.length + 1) ecap) wj (H1.out.kept BJ.out) (Sl.recs' (Sl.ofOwn OJ.out) (by simp)))
          rw [same_more] at S2
          unfold batV at S2
          go_wp2_with fail
          refine S2.out.mono ?_
          rintro e wk ⟨rfl, hbk⟩
          have BK := Lib.hid (bt BJ.out hbk)
          clear hbk S2
          go_wp2
          go_ret
          exact ⟨rfl, BK.out⟩
        | true =>
          cases hbc : Cr.same b c with
          | false =>
            rw [hab] at I2 I3
            rw [hbc] at I4
            clear hab hbc
            refine wp_region_below (by kernel_rfl) (by kernel_rfl) ?_
            repeat (go_big_quiet_step (fail))
            go_big_quiet_step ((exact I1.out _))
            repeat (go_big_quiet_step (fail))
            go_big_quiet_step ((exact I2.out _))
            repeat (go_big_quiet_step (fail))
            go_big_quiet_step ((exact I3.out _))
            repeat (go_big_quiet_step (fail))
            go_big_quiet_step ((exact I2.out _))
            repeat (go_big_quiet_step (fail))
            go_big_quiet_step ((exact I4.out _))
            repeat (go_big_quiet_step (fail))
            refine wpQuiet_nil ?_
            intro w9 hC9
            obtain ⟨⟨w9, hb9⟩, rfl⟩ := hC9
            have B9 := Lib.hid (bt B1.out hb9)
            have A9 := Lib.hid (A1.out.below hb9)
            clear hb9 m0 m1 m2 m3 m4 m5 n0 n1 n2 n3 n4 n5 q0 q1 q2 q3 q4 q5 a0 a1 a2 a3 a4 a5 d0 d1 d2 d3 d4 d5 e0 e1 e2 e3 e4 e5 A1 D1 E1 I1 I2 I3 I4 I5 B1 HAA HAB HBA HBC HAC
            obtain ⟨a0, a1, a2, a3, a4, a5⟩ := A9.out.cell6
            have ND := Lib.hid (batCl w9 a (.slice aa a.recs.length acap))
            have AD := Lib.hid (A9.out.alloc (.cells #[.int .i64 a.base, .int .i64 a.count, .int .i64 a.prod, .int .i64 a.seq, .int .i64 a.time, .slice aa a.recs.length acap] 24))
            have BD : Hid (Below w.heap.size w (w9.alloc (.cells #[.int .i64 a.base, .int .i64 a.count, .int .i64 a.prod, .int .i64 a.seq, .int .i64 a.time, .slice aa a.recs.length acap] 24))) := B9.out.alloc B9.out.size _
            have hne : w9.heap.size ≠ w.heap.size := by have := A9.out.lt; omega
            go_upto_region 8 with (fail)
            clear a0 a1 a2 a3 a4 a5 A9
            generalize w9.alloc (.cells #[.int .i64 a.base, .int .i64 a.count, .int .i64 a.prod, .int .i64 a.seq, .int .i64 a.time, .slice aa a.recs.length acap] 24) = wd at *
            have hdb := B9.out.size
            clear B9
            generalize w9.heap.size = db at *
            obtain ⟨d0, d1, d2, d3, d4, d5⟩ := ND.out.cell6
            have f3 := ND.out.free 3
            have NE : Hid (Cl (wd.setCell ⟨db, 3, none⟩ (.int .i64 (bits .xor .i64 a.seq 1))) db [.int .i64 a.base, .int .i64 a.count, .int .i64 a.prod, .int .i64 (bits .xor .i64 a.seq 1), .int .i64 a.time, .slice aa a.recs.length acap] 24) := ND.out.set 3 _
            have AE := Lib.hid (AD.out.other ⟨db, 3, none⟩ (.int .i64 (bits .xor .i64 a.seq 1)) hne)
            have BE := Lib.hid (BD.out.setCell (p := ⟨db, 3, none⟩) hdb (.int .i64 (bits .xor .i64 a.seq 1)))
            go_upto_region 9 with (fail)
            clear d0 d1 d2 d3 d4 d5 f3 ND AD BD
            generalize wd.setCell ⟨db, 3, none⟩ (.int .i64 (bits .xor .i64 a.seq 1)) = we at *
            obtain ⟨a0, a1, a2, a3, a4, a5⟩ := AE.out.cell6
            have NF := Lib.hid (batCl we a (.slice aa a.recs.length acap))
            have AF := Lib.hid (AE.out.alloc (.cells #[.int .i64 a.base, .int .i64 a.count, .int .i64 a.prod, .int .i64 a.seq, .int .i64 a.time, .slice aa a.recs.length acap] 24))
            have DF := Lib.hid (NE.out.alloc (.cells #[.int .i64 a.base, .int .i64 a.count, .int .i64 a.prod, .int .i64 a.seq, .int .i64 a.time, .slice aa a.recs.length acap] 24))
            have BF : Hid (Below w.heap.size w (we.alloc (.cells #[.int .i64 a.base, .int .i64 a.count, .int .i64 a.prod, .int .i64 a.seq, .int .i64 a.time, .slice aa a.recs.length acap] 24))) := BE.out.alloc BE.out.size _
            have hne2 : we.heap.size ≠ w.heap.size := by have := AE.out.lt; omega
            have hne3 : we.heap.size ≠ db := by have := NE.out.lt; omega
            have hdb2 := BE.out.size
            go_upto_region 10 with (fail)
            clear a0 a1 a2 a3 a4 a5 AE NE BE
            generalize we.alloc (.cells #[.int .i64 a.base, .int .i64 a.count, .int .i64 a.prod, .int .i64 a.seq, .int .i64 a.time, .slice aa a.recs.length acap] 24) = wf at *
            have heb := NF.out.lt
            generalize we.heap.size = eb at *
            obtain ⟨a0, a1, a2, a3, a4, a5⟩ := AF.out.cell6
            obtain ⟨i0, hi, hz0, hz1, hz2⟩ := info_parts recInfo
            have hmade : Hid ((wf.alloc (.cells #[] 41)).ownsRow wf.heap.size 41 4 (.slice (some ⟨wf.heap.size, 0, none⟩) 0 0) 0 []) := World.ownsRow_made wf #[] 0 (Nat.le_refl _) (by unfold maxLen; omega) rfl
            have hsrc : Hid (SrcIs (wf.alloc (.cells #[] 41)) 4 (.slice aa a.recs.length acap) a.recs.length (recCells a.recs)) := recs_srcIs (H1.out.kept (BF.out.alloc BF.out.size _)) HNC.out
            have hone := recCells_one a.recs
            have e6 := AF.out.alloc (.cells #[] 41) |>.cell 5
            go_wp2_with (at_builtin; refine wpList_append_src rfl (.tmp 59) (.tmp 61) 22 rfl wf.heap.size 41 i0 _ 4 48 Tryd.underlying22 hi hz0 hz1 hz2 rfl (by decide) _ _ _ rfl hmade.out _ _ _ rfl hsrc.out hone ?_ ?_ ?_ ?_)
            · unfold maxLen; omega
            · omega
            · first | omega | (rw [World.size_alloc]; omega) | simp
            intro v1 wg hown1 hg1
            have O1 : Hid (wg.ownsRow wf.heap.size 41 4 v1 a.recs.length (recCells a.recs)) := by
              show World.ownsRow _ _ _ _ _ _ _
              simpa using hown1
            have KG : Hid (Keeps (fun j => wf.heap.size ≤ j) wf wg) := (Keeps.alloc _ _ _).trans (Keeps.grown hg1 (fun j hj => (hmade.out.lt j hj).1))
            have hsg := KG.out.size
            clear hown1 hg1 hmade hsrc e6 hone
            have hone : ∀ u ∈ [Value.int .i64 0, .string ⟨#[]⟩, .string ⟨#[]⟩, .bool false], u.oneCell' = true := by simp [Value.oneCell']
            go_wp2_with (at_builtin; refine wpList_append_own _ rfl (.tmp 62) (.tmp 64) 22 rfl wf.heap.size 41 i0 _ 4 48 Tryd.underlying22 hi hz0 hz1 hz2 rfl (by decide) _ _ _ rfl (World.ownsRow.alloc O1.out _) ⟨wg.heap.size, 0, none⟩ 1 1 [.int .i64 0, .string ⟨#[]⟩, .string ⟨#[]⟩, .bool false] rfl rfl (World.news_of_block (cs := #[.int .i64 0, .string ⟨#[]⟩, .string ⟨#[]⟩, .bool false]) (t := 41) (fr := (0, 0)) (heap_alloc_new wg _)) hone ?_ ?_ ?_ ?_)
            · unfold maxLen; omega
            · omega
            · first | omega | (rw [World.size_alloc]; omega) | (simp; omega)
            intro v2 wh hown2 hg2 _
            have KH : Hid (Keeps (fun j => wf.heap.size ≤ j) wf wh) := KG.out.trans ((Keeps.alloc _ _ _).trans (Keeps.grown hg2 (fun j hj => (O1.out.lt j hj).1)))
            have O2 : Hid (wh.ownsRow wf.heap.size 41 4 v2 (a.recs.length + 1) (recCells (a.recs ++ [zrec]))) := by
              rw [Hid, recCells_zrec]
              exact hown2
            have haf := AF.out.lt
            have hdf := DF.out.lt
            have NH := Lib.hid (NF.out.keep KH.out (by omega))
            have AH := Lib.hid (AF.out.keep KH.out (by omega))
            have DH := Lib.hid (DF.out.keep KH.out (by omega))
            have BH : Hid (Below w.heap.size w wh) := BF.out.trans (KH.out.toBelow BF.out.size (fun j hj e => by have := BF.out.size; omega))
            have hv2 := O2.out.form'
            obtain ⟨ea, ecap, hve⟩ := hv2
            subst hve
            clear hown2 hg2 KH KG O1 NF AF DF BF a0 a1 a2 a3 a4 a5 hone
            obtain ⟨d0, d1, d2, d3, d4, d5⟩ := NH.out.cell6
            have f5 := NH.out.free 5
            have NI : Hid (Cl (wh.setCell ⟨eb, 5, none⟩ (.slice ea (a.recs.length + 1) ecap)) eb [.int .i64 a.base, .int .i64 a.count, .int .i64 a.prod, .int .i64 a.seq, .int .i64 a.time, .slice ea (a.recs.length + 1) ecap] 24) := NH.out.set 5 _
            have AI := Lib.hid (AH.out.other ⟨eb, 5, none⟩ (.slice ea (a.recs.length + 1) ecap) hne2)
            have DI := Lib.hid (DH.out.other ⟨eb, 5, none⟩ (.slice ea (a.recs.length + 1) ecap) hne3)
            have BI := Lib.hid (BH.out.setCell (p := ⟨eb, 5, none⟩) hdb2 (.slice ea (a.recs.length + 1) ecap))
            have OI : Hid ((wh.setCell ⟨eb, 5, none⟩ (.slice ea (a.recs.length + 1) ecap)).ownsRow wf.heap.size 41 4 (.slice ea (a.recs.length + 1) ecap) (a.recs.length + 1) (recCells (a.recs ++ [zrec]))) := ownsRow_cell O2.out ⟨eb, 5, none⟩ _ heb
            go_upto_region 11 with (fail)
            clear d0 d1 d2 d3 d4 d5 f5 NH AH DH BH O2
            generalize wh.setCell ⟨eb, 5, none⟩ (.slice ea (a.recs.length + 1) ecap) = wi at *
            obtain ⟨a0, a1, a2, a3, a4, a5⟩ := AI.out.cell6
            obtain ⟨d0, d1, d2, d3, d4, d5⟩ := DI.out.cell6
            have S1 := Lib.hid (same_any a { a with seq := bits .xor .i64 a.seq 1 } OA.out (batOk_seq OA.out) _ _ wi (H1.out.kept BI.out) (H1.out.kept BI.out))
            rw [same_xor] at S1
            unfold batV at S1
            go_wp2_with fail
            refine S1.out.mono ?_
            rintro e wj ⟨rfl, hbj⟩
            have BJ := Lib.hid (bt BI.out hbj)
            have AJ := Lib.hid (AI.out.below hbj)
            have NJ := Lib.hid (NI.out.below hbj)
            have OJ := Lib.hid (ownsRow_below OI.out hbj)
            clear hbj S1 AI NI DI BI OI a0 a1 a2 a3 a4 a5 d0 d1 d2 d3 d4 d5
            obtain ⟨a0, a1, a2, a3, a4, a5⟩ := AJ.out.cell6
            obtain ⟨d0, d1, d2, d3, d4, d5⟩ := NJ.out.cell6
            have S2 := Lib.hid (same_any a { a with recs := a.recs ++ [zrec] } OA.out (batOk_more OA.out ha40) _ (.slice ea (a.recs.length + 1) ecap) wj (H1.out.kept BJ.out) (Sl.recs' (Sl.ofOwn OJ.out) (by simp)))
            rw [same_more] at S2
            unfold batV at S2
            go_wp2_with fail
            refine S2.out.mono ?_
            rintro e wk ⟨rfl, hbk⟩
            have BK := Lib.hid (bt BJ.out hbk)
            clear hbk S2
            go_wp2
            go_ret
            exact ⟨rfl, BK.out⟩
          | true =>
            have hac : Cr.same a c = true := by
              rw [Cr.same_iff.1 hab, Cr.same_iff.1 hbc]
              exact Cr.same_iff.2 rfl
            rw [hab] at I2 I3
            rw [hbc] at I4
            rw [hac] at I5
            clear hab hbc hac
            refine wp_region_below (by kernel_rfl) (by kernel_rfl) ?_
            repeat (go_big_quiet_step (fail))
            go_big_quiet_step ((exact I1.out _))
            repeat (go_big_quiet_step (fail))
            go_big_quiet_step ((exact I2.out _))
            repeat (go_big_quiet_step (fail))
            go_big_quiet_step ((exact I3.out _))
            repeat (go_big_quiet_step (fail))
            go_big_quiet_step ((exact I2.out _))
            repeat (go_big_quiet_step (fail))
            go_big_quiet_step ((exact I4.out _))
            repeat (go_big_quiet_step (fail))
            go_big_quiet_step ((exact I5.out _))
            repeat (go_big_quiet_step (fail))
            refine wpQuiet_nil ?_
            intro w9 hC9
            obtain ⟨⟨w9, hb9⟩, rfl⟩ := hC9
            have B9 := Lib.hid (bt B1.out hb9)
            have A9 := Lib.hid (A1.out.below hb9)
            clear hb9 m0 m1 m2 m3 m4 m5 n0 n1 n2 n3 n4 n5 q0 q1 q2 q3 q4 q5 a0 a1 a2 a3 a4 a5 d0 d1 d2 d3 d4 d5 e0 e1 e2 e3 e4 e5 A1 D1 E1 I1 I2 I3 I4 I5 B1 HAA HAB HBA HBC HAC
            obtain ⟨a0, a1, a2, a3, a4, a5⟩ := A9.out.cell6
            have ND := Lib.hid (batCl w9 a (.slice aa a.recs.length acap))
            have AD := Lib.hid (A9.out.alloc (.cells #[.int .i64 a.base, .int .i64 a.count, .int .i64 a.prod, .int .i64 a.seq, .int .i64 a.time, .slice aa a.recs.length acap] 24))
            have BD : Hid (Below w.heap.size w (w9.alloc (.cells #[.int .i64 a.base, .int .i64 a.count, .int .i64 a.prod, .int .i64 a.seq, .int .i64 a.time, .slice aa a.recs.length acap] 24))) := B9.out.alloc B9.out.size _
            have hne : w9.heap.size ≠ w.heap.size := by have := A9.out.lt; omega
            go_upto_region 8 with (fail)
            clear a0 a1 a2 a3 a4 a5 A9
            generalize w9.alloc (.cells #[.int .i64 a.base, .int .i64 a.count, .int .i64 a.prod, .int .i64 a.seq, .int .i64 a.time, .slice aa a.recs.length acap] 24) = wd at *
            have hdb := B9.out.size
            clear B9
            generalize w9.heap.size = db at *
            obtain ⟨d0, d1, d2, d3, d4, d5⟩ := ND.out.cell6
            have f3 := ND.out.free 3
            have NE : Hid (Cl (wd.setCell ⟨db, 3, none⟩ (.int .i64 (bits .xor .i64 a.seq 1))) db [.int .i64 a.base, .int .i64 a.count, .int .i64 a.prod, .int .i64 (bits .xor .i64 a.seq 1), .int .i64 a.time, .slice aa a.recs.length acap] 24) := ND.out.set 3 _
            have AE := Lib.hid (AD.out.other ⟨db, 3, none⟩ (.int .i64 (bits .xor .i64 a.seq 1)) hne)
            have BE := Lib.hid (BD.out.setCell (p := ⟨db, 3, none⟩) hdb (.int .i64 (bits .xor .i64 a.seq 1)))
            go_upto_region 9 with (fail)
            clear d0 d1 d2 d3 d4 d5 f3 ND AD BD
            generalize wd.setCell ⟨db, 3, none⟩ (.int .i64 (bits .xor .i64 a.seq 1)) = we at *
            obtain ⟨a0, a1, a2, a3, a4, a5⟩ := AE.out.cell6
            have NF := Lib.hid (batCl we a (.slice aa a.recs.length acap))
            have AF := Lib.hid (AE.out.alloc (.cells #[.int .i64 a.base, .int .i64 a.count, .int .i64 a.prod, .int .i64 a.seq, .int .i64 a.time, .slice aa a.recs.length acap] 24))
            have DF := Lib.hid (NE.out.alloc (.cells #[.int .i64 a.base, .int .i64 a.count, .int .i64 a.prod, .int .i64 a.seq, .int .i64 a.time, .slice aa a.recs.length acap] 24))
            have BF : Hid (Below w.heap.size w (we.alloc (.cells #[.int .i64 a.base, .int .i64 a.count, .int .i64 a.prod, .int .i64 a.seq, .int .i64 a.time, .slice aa a.recs.length acap] 24))) := BE.out.alloc BE.out.size _
            have hne2 : we.heap.size ≠ w.heap.size := by have := AE.out.lt; omega
            have hne3 : we.heap.size ≠ db := by have := NE.out.lt; omega
            have hdb2 := BE.out.size
            go_upto_region 10 with (fail)
            clear a0 a1 a2 a3 a4 a5 AE NE BE
            generalize we.alloc (.cells #[.int .i64 a.base, .int .i64 a.count, .int .i64 a.prod, .int .i64 a.seq, .int .i64 a.time, .slice aa a.recs.length acap] 24) = wf at *
            have heb := NF.out.lt
            generalize we.heap.size = eb at *
            obtain ⟨a0, a1, a2, a3, a4, a5⟩ := AF.out.cell6
            obtain ⟨i0, hi, hz0, hz1, hz2⟩ := info_parts recInfo
            have hmade : Hid ((wf.alloc (.cells #[] 41)).ownsRow wf.heap.size 41 4 (.slice (some ⟨wf.heap.size, 0, none⟩) 0 0) 0 []) := World.ownsRow_made wf #[] 0 (Nat.le_refl _) (by unfold maxLen; omega) rfl
            have hsrc : Hid (SrcIs (wf.alloc (.cells #[] 41)) 4 (.slice aa a.recs.length acap) a.recs.length (recCells a.recs)) := recs_srcIs (H1.out.kept (BF.out.alloc BF.out.size _)) HNC.out
            have hone := recCells_one a.recs
            have e6 := AF.out.alloc (.cells #[] 41) |>.cell 5
            go_wp2_with (at_builtin; refine wpList_append_src rfl (.tmp 59) (.tmp 61) 22 rfl wf.heap.size 41 i0 _ 4 48 Tryd.underlying22 hi hz0 hz1 hz2 rfl (by decide) _ _ _ rfl hmade.out _ _ _ rfl hsrc.out hone ?_ ?_ ?_ ?_)
            · unfold maxLen; omega
            · omega
            · first | omega | (rw [World.size_alloc]; omega) | simp
            intro v1 wg hown1 hg1
            have O1 : Hid (wg.ownsRow wf.heap.size 41 4 v1 a.recs.length (recCells a.recs)) := by
              show World.ownsRow _ _ _ _ _ _ _
              simpa using hown1
            have KG : Hid (Keeps (fun j => wf.heap.size ≤ j) wf wg) := (Keeps.alloc _ _ _).trans (Keeps.grown hg1 (fun j hj => (hmade.out.lt j hj).1))
            have hsg := KG.out.size
            clear hown1 hg1 hmade hsrc e6 hone
            have hone : ∀ u ∈ [Value.int .i64 0, .string ⟨#[]⟩, .string ⟨#[]⟩, .bool false], u.oneCell' = true := by simp [Value.oneCell']
            go_wp2_with (at_builtin; refine wpList_append_own _ rfl (.tmp 62) (.tmp 64) 22 rfl wf.heap.size 41 i0 _ 4 48 Tryd.underlying22 hi hz0 hz1 hz2 rfl (by decide) _ _ _ rfl (World.ownsRow.alloc O1.out _) ⟨wg.heap.size, 0, none⟩ 1 1 [.int .i64 0, .string ⟨#[]⟩, .string ⟨#[]⟩, .bool false] rfl rfl (World.news_of_block (cs := #[.int .i64 0, .string ⟨#[]⟩, .string ⟨#[]⟩, .bool false]) (t := 41) (fr := (0, 0)) (heap_alloc_new wg _)) hone ?_ ?_ ?_ ?_)
            · unfold maxLen; omega
            · omega
            · first | omega | (rw [World.size_alloc]; omega) | (simp; omega)
            intro v2 wh hown2 hg2 _
            have KH : Hid (Keeps (fun j => wf.heap.size ≤ j) wf wh) := KG.out.trans ((Keeps.alloc _ _ _).trans (Keeps.grown hg2 (fun j hj => (O1.out.lt j hj).1)))
            have O2 : Hid (wh.ownsRow wf.heap.size 41 4 v2 (a.recs.length + 1) (recCells (a.recs ++ [zrec]))) := by
              rw [Hid, recCells_zrec]
              exact hown2
            have haf := AF.out.lt
            have hdf := DF.out.lt
            have NH := Lib.hid (NF.out.keep KH.out (by omega))
            have AH := Lib.hid (AF.out.keep KH.out (by omega))
            have DH := Lib.hid (DF.out.keep KH.out (by omega))
            have BH : Hid (Below w.heap.size w wh) := BF.out.trans (KH.out.toBelow BF.out.size (fun j hj e => by have := BF.out.size; omega))
            have hv2 := O2.out.form'
            obtain ⟨ea, ecap, hve⟩ := hv2
            subst hve
            clear hown2 hg2 KH KG O1 NF AF DF BF a0 a1 a2 a3 a4 a5 hone
            obtain ⟨d0, d1, d2, d3, d4, d5⟩ := NH.out.cell6
            have f5 := NH.out.free 5
            have NI : Hid (Cl (wh.setCell ⟨eb, 5, none⟩ (.slice ea (a.recs.length + 1) ecap)) eb [.int .i64 a.base, .int .i64 a.count, .int .i64 a.prod, .int .i64 a.seq, .int .i64 a.time, .slice ea (a.recs.length + 1) ecap] 24) := NH.out.set 5 _
            have AI := Lib.hid (AH.out.other ⟨eb, 5, none⟩ (.slice ea (a.recs.length + 1) ecap) hne2)
            have DI := Lib.hid (DH.out.other ⟨eb, 5, none⟩ (.slice ea (a.recs.length + 1) ecap) hne3)
            have BI := Lib.hid (BH.out.setCell (p := ⟨eb, 5, none⟩) hdb2 (.slice ea (a.recs.length + 1) ecap))
            have OI : Hid ((wh.setCell ⟨eb, 5, none⟩ (.slice ea (a.recs.length + 1) ecap)).ownsRow wf.heap.size 41 4 (.slice ea (a.recs.length + 1) ecap) (a.recs.length + 1) (recCells (a.recs ++ [zrec]))) := ownsRow_cell O2.out ⟨eb, 5, none⟩ _ heb
            go_upto_region 11 with (fail)
            clear d0 d1 d2 d3 d4 d5 f5 NH AH DH BH O2
            generalize wh.setCell ⟨eb, 5, none⟩ (.slice ea (a.recs.length + 1) ecap) = wi at *
            obtain ⟨a0, a1, a2, a3, a4, a5⟩ := AI.out.cell6
            obtain ⟨d0, d1, d2, d3, d4, d5⟩ := DI.out.cell6
            have S1 := Lib.hid (same_any a { a with seq := bits .xor .i64 a.seq 1 } OA.out (batOk_seq OA.out) _ _ wi (H1.out.kept BI.out) (H1.out.kept BI.out))
            rw [same_xor] at S1
            unfold batV at S1
            go_wp2_with fail
            refine S1.out.mono ?_
            rintro e wj ⟨rfl, hbj⟩
            have BJ := Lib.hid (bt BI.out hbj)
            have AJ := Lib.hid (AI.out.below hbj)
            have NJ := Lib.hid (NI.out.below hbj)
            have OJ := Lib.hid (ownsRow_below OI.out hbj)
            clear hbj S1 AI NI DI BI OI a0 a1 a2 a3 a4 a5 d0 d1 d2 d3 d4 d5
            obtain ⟨a0, a1, a2, a3, a4, a5⟩ := AJ.out.cell6
            obtain ⟨d0, d1, d2, d3, d4, d5⟩ := NJ.out.cell6
            have S2 := Lib.hid (same_any a { a with recs := a.recs ++ [zrec] } OA.out (batOk_more OA.out ha40) _ (.slice ea (a.recs.length + 1) ecap) wj (H1.out.kept BJ.out) (Sl.recs' (Sl.ofOwn OJ.out) (by simp)))
            rw [same_more] at S2
            unfold batV at S2
            go_wp2_with fail
            refine S2.out.mono ?_
            rintro e wk ⟨rfl, hbk⟩
            have BK := Lib.hid (bt BJ.out hbk)
            clear hbk S2
            go_wp2
            go_ret
            exact ⟨rfl, BK.out⟩

end Go.Proofs.YtegaonoobjeneaaDoor
