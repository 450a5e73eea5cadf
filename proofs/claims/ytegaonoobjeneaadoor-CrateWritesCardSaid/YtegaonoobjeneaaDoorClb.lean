/-
  CrateWrites, walked.
  Conditions: the library's variables hold what they are laid with.
-/
import Derived.Test.YtegaonoobjeneaaDoorCla
import Derived.Test.YtegaonoobjeneaaDoorCrh
import Derived.Test.YtegaonoobjeneaaDoorCrb
set_option linter.unusedVariables false
set_option linter.unusedSimpArgs false
namespace Go.Proofs.YtegaonoobjeneaaDoor
open Go.RowKit

set_option maxRecDepth 20000 in
set_option maxHeartbeats 6400000 in
theorem cwrites_walk (b c : Cr.Batch) (hb : BatOk b) (hc : BatOk c) (rv cv : Value) (w : World) (h1 : Recs w rv b.recs) (h2 : Recs w cv c.recs) (hw : Lw w) :
    Calls Tryd.prog 3 #[batV b rv, batV c cv] w fun e w' => e = .returned (.bool true) ∧ Below w.heap.size w w' := by
  have HW := Lib.hid hw
  have H1 := Lib.hid h1
  have H2 := Lib.hid h2
  have OB := Lib.hid hb
  have OC := Lib.hid hc
  have hl1 := hb.2.2.2.2.2.1
  have hl2 := hc.2.2.2.2.2.1
  unfold maxLen at hl1 hl2
  obtain ⟨a, cap, rfl⟩ := h1.form
  obtain ⟨a2, cap2, rfl⟩ := h2.form
  have hs0 := World.size_alloc w (.cells #[.int .i64 b.base, .int .i64 b.count, .int .i64 b.prod, .int .i64 b.seq, .int .i64 b.time, .slice a b.recs.length cap] 24)
  have B0 : Hid (Below w.heap.size w ((w.alloc (.cells #[.int .i64 b.base, .int .i64 b.count, .int .i64 b.prod, .int .i64 b.seq, .int .i64 b.time, .slice a b.recs.length cap] 24)).alloc (.cells #[.int .i64 c.base, .int .i64 c.count, .int .i64 c.prod, .int .i64 c.seq, .int .i64 c.time, .slice a2 c.recs.length cap2] 24))) := ((Below.refl _ _).alloc (Nat.le_refl _) _).alloc (by omega) _
  have C0 := Lib.hid ((batCl w b (.slice a b.recs.length cap)).alloc (.cells #[.int .i64 c.base, .int .i64 c.count, .int .i64 c.prod, .int .i64 c.seq, .int .i64 c.time, .slice a2 c.recs.length cap2] 24))
  have D0 := Lib.hid (batCl (w.alloc (.cells #[.int .i64 b.base, .int .i64 b.count, .int .i64 b.prod, .int .i64 b.seq, .int .i64 b.time, .slice a b.recs.length cap] 24)) c (.slice a2 c.recs.length cap2))
  rw [hs0] at D0
  clear h1 h2 hw hb hc
  unfold batV
  go_enter Tryd.func3, Tryd.ntmps3
  go_wp2_with fail
  refine (awake_any _ (HW.out.below B0.out)).mono ?_
  rintro e w1 ⟨rfl, hb1⟩
  have B1 := Lib.hid (bt B0.out hb1)
  have C1 := Lib.hid (C0.out.below hb1)
  have D1 := Lib.hid (D0.out.below hb1)
  clear hb1 C0 D0 B0 hs0
  obtain ⟨c0, c1, c2, c3, c4, c5⟩ := C1.out.cell6
  obtain ⟨d0, d1, d2, d3, d4, d5⟩ := D1.out.cell6
  have HGR := Lib.hid (great_any b.recs OB.out.2.2.2.2.2.2 OB.out.2.2.2.2.2.1 _ w1 (H1.out.kept B1.out))
  go_wp2_with fail
  refine HGR.out.mono ?_
  rintro e w2 ⟨rfl, rfl⟩
  cases hg : greatB b.recs with
  | true =>
    go_wp2
    go_ret
    exact ⟨rfl, B1.out⟩
  | false =>
    clear hg HGR
    have HGR := Lib.hid (great_any c.recs OC.out.2.2.2.2.2.2 OC.out.2.2.2.2.2.1 _ w2 (H2.out.kept B1.out))
    go_wp2_with fail
    refine HGR.out.mono ?_
    rintro e w2 ⟨rfl, rfl⟩
    cases hg : greatB c.recs with
    | true =>
      go_wp2
      go_ret
      exact ⟨rfl, B1.out⟩
    | false =>
      clear hg HGR
      have HE := Lib.hid (encode_any b OB.out _ w2 (H1.out.kept B1.out) (HW.out.below B1.out))
      unfold batV at HE
      go_wp2_with fail
      refine HE.out.mono ?_
      rintro e w3 ⟨rfl, hb3⟩
      have B3 := Lib.hid (bt B1.out hb3)
      have C3 := Lib.hid (C1.out.below hb3)
      have D3 := Lib.hid (D1.out.below hb3)
      have HF := Lib.hid (refencode_any b OB.out _ w3 (H1.out.kept B3.out))
      unfold batV at HF
      obtain ⟨l, en, hen⟩ : ∃ (l : List UInt8) (en : Int), encR b = .tuple #[.string ⟨l.toArray⟩, .int .i64 en] := by
        unfold encR
        split
        · exact ⟨_, _, rfl⟩
        · exact ⟨[], 1, rfl⟩
      rw [hen] at HF ⊢
      clear hb3 C1 D1 HE c0 c1 c2 c3 c4 c5 d0 d1 d2 d3 d4 d5 hen
      obtain ⟨c0, c1, c2, c3, c4, c5⟩ := C3.out.cell6
      obtain ⟨d0, d1, d2, d3, d4, d5⟩ := D3.out.cell6
      go_wp2_with fail
      refine HF.out.mono ?_
      rintro e w4 ⟨rfl, hb4⟩
      have B4 := Lib.hid (bt B3.out hb4)
      have C4 := Lib.hid (C3.out.below hb4)
      have D4 := Lib.hid (D3.out.below hb4)
      clear hb4 C3 D3 B3 HF c0 c1 c2 c3 c4 c5 d0 d1 d2 d3 d4 d5
      obtain ⟨c0, c1, c2, c3, c4, c5⟩ := C4.out.cell6
      obtain ⟨d0, d1, d2, d3, d4, d5⟩ := D4.out.cell6
      have m0 := fun x : BelowOf w4 => x.cell c0
      have m1 := fun x : BelowOf w4 => x.cell c1
      have m2 := fun x : BelowOf w4 => x.cell c2
      have m3 := fun x : BelowOf w4 => x.cell c3
      have m4 := fun x : BelowOf w4 => x.cell c4
      have m5 := fun x : BelowOf w4 => x.cell c5
      have n0 := fun x : BelowOf w4 => x.cell d0
      have n1 := fun x : BelowOf w4 => x.cell d1
      have n2 := fun x : BelowOf w4 => x.cell d2
      have n3 := fun x : BelowOf w4 => x.cell d3
      have n4 := fun x : BelowOf w4 => x.cell d4
      have n5 := fun x : BelowOf w4 => x.cell d5
      have I1 := Lib.hid (below_class (w := w4) fun W hW => good_any b OB.out _ W (H1.out.kept (bt B4.out hW)))
      have I2 := Lib.hid (below_class (w := w4) fun W hW => refgood_any b OB.out _ W (H1.out.kept (bt B4.out hW)))
      have I3 := Lib.hid (below_class (w := w4) fun W hW => fits_any b.recs OB.out.2.2.2.2.2.2 OB.out.2.2.2.2.2.1 _ W (H1.out.kept (bt B4.out hW)))
      have I4 := Lib.hid (below_class (w := w4) fun W hW => reffits_any b.recs OB.out.2.2.2.2.2.2 OB.out.2.2.2.2.2.1 _ W (H1.out.kept (bt B4.out hW)))
      have I5 := Lib.hid (below_class (w := w4) fun W hW => same_any b c OB.out OC.out _ _ W (H1.out.kept (bt B4.out hW)) (H2.out.kept (bt B4.out hW)))
      have I6 := Lib.hid (below_class (w := w4) fun W hW => refsame_any b c OB.out OC.out _ _ W (H1.out.kept (bt B4.out hW)) (H2.out.kept (bt B4.out hW)))
      unfold batV at I1 I2 I5 I6
      generalize Cr.good b = g1 at *
      generalize Cr.fits b.recs = g2 at *
      generalize Cr.same b c = g3 at *
      go_wp2_with fail
      refine wp_region_below (by kernel_rfl) (by kernel_rfl) ?_
      repeat (go_big_quiet_step (fail))
      go_big_quiet_step ((exact I1.out _))
      repeat (go_big_quiet_step (fail))
      go_big_quiet_step ((exact I2.out _))
      repeat (go_big_quiet_step (fail))
      go_big_quiet_step ((exact I3.out _))
      repeat (go_big_quiet_step (fail))
      go_big_quiet_step ((exact I4.out _))
      repeat (go_big_quiet_step (fail))
      go_big_quiet_step ((exact I5.out _))
      repeat (go_big_quiet_step (fail))
      go_big_quiet_step ((exact I6.out _))
      repeat (go_big_quiet_step (fail))
      refine wpQuiet_nil ?_
      intro w9 hC9
      obtain ⟨⟨w9, hb9⟩, rfl⟩ := hC9
      have B9 := Lib.hid (bt B4.out hb9)
      clear hb9 m0 m1 m2 m3 m4 m5 n0 n1 n2 n3 n4 n5
      go_wp2
      go_ret
      exact ⟨rfl, B9.out⟩

end Go.Proofs.YtegaonoobjeneaaDoor
