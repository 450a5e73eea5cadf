/-
  CrateShort, walked.
  Conditions: the library's variables hold what they are laid with.
-/
import Derived.Test.YtegaonoobjeneaaDoorCa
set_option linter.unusedVariables false
set_option linter.unusedSimpArgs false
namespace Go.Proofs.YtegaonoobjeneaaDoor
open Go.RowKit

theorem batCl (w : World) (b : Cr.Batch) (rv : Value) : Cl (w.alloc (.cells #[.int .i64 b.base, .int .i64 b.count, .int .i64 b.prod, .int .i64 b.seq, .int .i64 b.time, rv] 24)) w.heap.size [.int .i64 b.base, .int .i64 b.count, .int .i64 b.prod, .int .i64 b.seq, .int .i64 b.time, rv] 24 := Cl.new _ _ _
set_option maxRecDepth 20000 in
set_option maxHeartbeats 3200000 in
theorem short_walk (b : Cr.Batch) (hok : BatOk b) (rv : Value) (w : World) (h : Recs w rv b.recs) (hw : Lw w) :
    Calls Tryd.prog 10 #[batV b rv] w fun e w' => e = .returned (.bool true) ∧ Below w.heap.size w w' := by
  have HW := Lib.hid hw
  have HZ := Lib.hid h
  have HO := Lib.hid hok
  have hl := hok.2.2.2.2.2.1
  unfold maxLen at hl
  obtain ⟨a, cap, rfl⟩ := h.form
  have B0 : Hid (Below w.heap.size w (w.alloc (.cells #[.int .i64 b.base, .int .i64 b.count, .int .i64 b.prod, .int .i64 b.seq, .int .i64 b.time, .slice a b.recs.length cap] 24))) := (Below.refl _ _).alloc (Nat.le_refl _) _
  have C0 := Lib.hid (batCl w b (.slice a b.recs.length cap))
  clear h hw hok
  unfold batV
  go_enter Tryd.func10, Tryd.ntmps10
  go_wp2_with fail
  refine (awake_any _ (HW.out.below B0.out)).mono ?_
  rintro e w1 ⟨rfl, hb1⟩
  have B1 := Lib.hid (bt B0.out hb1)
  have C1 := Lib.hid (C0.out.below hb1)
  clear hb1 C0
  obtain ⟨c0, c1, c2, c3, c4, c5⟩ := C1.out.cell6
  have HGR := Lib.hid (great_any b.recs HO.out.2.2.2.2.2.2 HO.out.2.2.2.2.2.1 _ w1 (HZ.out.kept B1.out))
  go_wp2_with fail
  refine HGR.out.mono ?_
  rintro e w2 ⟨rfl, rfl⟩
  cases hg : greatB b.recs with
  | true =>
    go_wp2
    go_ret
    exact ⟨rfl, B1.out⟩
  | false =>
    clear hg HGR
    have HE := Lib.hid (encode_any b HO.out _ w2 (HZ.out.kept B1.out) (HW.out.below B1.out))
    unfold batV at HE
    go_wp2_with fail
    refine HE.out.mono ?_
    rintro e w3 ⟨rfl, hb3⟩
    have B3 := Lib.hid (bt B1.out hb3)
    have C3 := Lib.hid (C1.out.below hb3)
    clear hb3 C1 HE c0 c1 c2 c3 c4 c5
    obtain ⟨c0, c1, c2, c3, c4, c5⟩ := C3.out.cell6
    cases hg : Cr.good b with
    | false =>
      have HX : Hid (encR b = .tuple #[.string ⟨#[]⟩, .int .i64 1]) := by rw [Hid, encR, if_neg (by rw [hg]; decide)]
      rw [HX.out]
      go_wp2
      go_ret
      exact ⟨rfl, B3.out⟩
    | true =>
      have HX : Hid (encR b = .tuple #[.string ⟨(Cr.enc b).toArray⟩, .int .i64 0]) := by rw [Hid, encR, if_pos hg]
      obtain ⟨l1, l2, l3⟩ := Cr.enc_len hg
      obtain ⟨m, hm⟩ := Cr.enc_ends b
      rw [HX.out]
      have ha0 := str_at (P := Tryd.prog) (Cr.enc b) 0 0 rfl (by omega) 9 Tryd.underlying9
      have ha1 := str_at (P := Tryd.prog) (Cr.enc b) ((Cr.enc b).length - 1) (((Cr.enc b).length : Int) - 1) (by omega) (by omega) 9 Tryd.underlying9
      have e0 : (Cr.enc b).getD 0 0 = 108 := by rw [hm]; rfl
      have e1 : (Cr.enc b).getD ((Cr.enc b).length - 1) 0 = 101 := by
        rw [hm]
        simp [List.getD]
      rw [e0] at ha0
      rw [e1] at ha1
      clear e0 e1 hm HX hg
      generalize Cr.enc b = l at *
      generalize b.recs.length = n at *
      go_wp2
      go_ret
      exact ⟨rfl, B3.out⟩

end Go.Proofs.YtegaonoobjeneaaDoor
