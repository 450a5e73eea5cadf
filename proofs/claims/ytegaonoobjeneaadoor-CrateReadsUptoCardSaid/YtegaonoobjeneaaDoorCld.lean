/-
  CrateBack, walked.
  Conditions: the library's variables hold what they are laid with; a text of at most 2^20 bytes.
-/
import Derived.Test.YtegaonoobjeneaaDoorCla
set_option linter.unusedVariables false
set_option linter.unusedSimpArgs false
namespace Go.Proofs.YtegaonoobjeneaaDoor
open Go.RowKit

theorem batOk_good {b : Cr.Batch} (h : Cr.good b = true) : BatOk b := by
  obtain ⟨h1, h2, h3, h4, h5, h6, h7, h8, h9⟩ := Cr.good_nums h
  have hr := Cr.good_recs h
  refine ⟨Cr.inR_num h1, ⟨by omega, by omega⟩, Cr.inR_num h2, Cr.inR_num h3, Cr.inR_num h4, by unfold maxLen; omega, fun x hx => ?_⟩
  obtain ⟨g1, g2, g3⟩ := hr x hx
  simp only [Cr.isRec, Bool.and_eq_true, decide_eq_true_eq] at g1
  exact ⟨⟨by omega, by omega⟩, by unfold maxLen; omega, by unfold maxLen; omega⟩
theorem bs_ne {a b : List UInt8} (h : a ≠ b) : (a == b) = false := by simpa using h
set_option maxRecDepth 100000 in
set_option maxHeartbeats 12800000 in
theorem back_walk (a b : Cr.Batch) (ha : BatOk a) (hb : BatOk b) (av bv : Value) (s : List UInt8) (hs : s.length ≤ 1048576) (w : World) (h1 : Recs w av a.recs) (h2 : Recs w bv b.recs) (hw : Lw w) :
    Calls Tryd.prog 6 #[batV a av, batV b bv, .string ⟨s.toArray⟩] w fun e w' => e = .returned (.bool true) ∧ Below w.heap.size w w' := by
  have HW := Lib.hid hw
  have H1 := Lib.hid h1
  have H2 := Lib.hid h2
  have OA := Lib.hid ha
  have OB := Lib.hid hb
  have hl1 := ha.2.2.2.2.2.1
  have hl2 := hb.2.2.2.2.2.1
  unfold maxLen at hl1 hl2
  obtain ⟨aa, cap, rfl⟩ := h1.form
  obtain ⟨ba, cap2, rfl⟩ := h2.form
  have hs0 := World.size_alloc w (.cells #[.int .i64 a.base, .int .i64 a.count, .int .i64 a.prod, .int .i64 a.seq, .int .i64 a.time, .slice aa a.recs.length cap] 24)
  have B0 : Hid (Below w.heap.size w ((w.alloc (.cells #[.int .i64 a.base, .int .i64 a.count, .int .i64 a.prod, .int .i64 a.seq, .int .i64 a.time, .slice aa a.recs.length cap] 24)).alloc (.cells #[.int .i64 b.base, .int .i64 b.count, .int .i64 b.prod, .int .i64 b.seq, .int .i64 b.time, .slice ba b.recs.length cap2] 24))) := ((Below.refl _ _).alloc (Nat.le_refl _) _).alloc (by omega) _
  have C0 := Lib.hid ((batCl w a (.slice aa a.recs.length cap)).alloc (.cells #[.int .i64 b.base, .int .i64 b.count, .int .i64 b.prod, .int .i64 b.seq, .int .i64 b.time, .slice ba b.recs.length cap2] 24))
  have D0 := Lib.hid (batCl (w.alloc (.cells #[.int .i64 a.base, .int .i64 a.count, .int .i64 a.prod, .int .i64 a.seq, .int .i64 a.time, .slice aa a.recs.length cap] 24)) b (.slice ba b.recs.length cap2))
  rw [hs0] at D0
  clear h1 h2 hw ha hb
  unfold batV
  go_enter Tryd.func6, Tryd.ntmps6
  go_wp2_with fail
  refine (awake_any _ (HW.out.below B0.out)).mono ?_
  rintro e w1 ⟨rfl, hb1⟩
  have B1 := Lib.hid (bt B0.out hb1)
  have C1 := Lib.hid (C0.out.below hb1)
  have D1 := Lib.hid (D0.out.below hb1)
  clear hb1 C0 D0 B0 hs0
  obtain ⟨c0, c1, c2, c3, c4, c5⟩ := C1.out.cell6
  obtain ⟨d0, d1, d2, d3, d4, d5⟩ := D1.out.cell6
  have HGR := Lib.hid (great_any a.recs OA.out.2.2.2.2.2.2 OA.out.2.2.2.2.2.1 _ w1 (H1.out.kept B1.out))
  go_wp2_with fail
  refine HGR.out.mono ?_
  rintro e w2 ⟨rfl, rfl⟩
  cases hg : greatB a.recs with
  | true =>
    go_wp2
    go_ret
    exact ⟨rfl, B1.out⟩
  | false =>
    clear hg HGR
    have HGR := Lib.hid (great_any b.recs OB.out.2.2.2.2.2.2 OB.out.2.2.2.2.2.1 _ w2 (H2.out.kept B1.out))
    go_wp2_with fail
    refine HGR.out.mono ?_
    rintro e w2 ⟨rfl, rfl⟩
    cases hg : greatB b.recs with
    | true =>
      go_wp2
      go_ret
      exact ⟨rfl, B1.out⟩
    | false =>
      clear hg HGR
      have HE := Lib.hid (encode_any a OA.out _ w2 (H1.out.kept B1.out) (HW.out.below B1.out))
      unfold batV at HE
      go_wp2_with fail
      refine HE.out.mono ?_
      rintro e w3 ⟨rfl, hb3⟩
      have B3 := Lib.hid (bt B1.out hb3)
      have C3 := Lib.hid (C1.out.below hb3)
      have D3 := Lib.hid (D1.out.below hb3)
      clear hb3 C1 D1 HE c0 c1 c2 c3 c4 c5 d0 d1 d2 d3 d4 d5
      obtain ⟨c0, c1, c2, c3, c4, c5⟩ := C3.out.cell6
      obtain ⟨d0, d1, d2, d3, d4, d5⟩ := D3.out.cell6
      have HF := Lib.hid (encode_any b OB.out _ w3 (H2.out.kept B3.out) (HW.out.below B3.out))
      unfold batV at HF
      have HGA := Lib.hid (fun W (hW : Below w.heap.size w W) => good_any a OA.out _ W (H1.out.kept hW))
      unfold batV at HGA
      have HSA := Lib.hid (fun W (hW : Below w.heap.size w W) => same_any a b OA.out OB.out _ _ W (H1.out.kept hW) (H2.out.kept hW))
      unfold batV at HSA
      cases ga : Cr.good a with
      | false =>
        have HX : Hid (encR a = .tuple #[.string ⟨#[]⟩, .int .i64 1]) := by rw [Hid, encR, if_neg (by rw [ga]; decide)]
        obtain ⟨lb, en, hen⟩ : ∃ (l : List UInt8) (en : Int), encR b = .tuple #[.string ⟨l.toArray⟩, .int .i64 en] := by
          unfold encR
          split
          · exact ⟨_, _, rfl⟩
          · exact ⟨[], 1, rfl⟩
        rw [hen] at HF
        rw [HX.out]
        rw [ga] at HGA
        clear ga hen HSA
        go_wp2_with fail
        refine HF.out.mono ?_
        rintro e w4 ⟨rfl, hb4⟩
        have B4 := Lib.hid (bt B3.out hb4)
        have C4 := Lib.hid (C3.out.below hb4)
        have D4 := Lib.hid (D3.out.below hb4)
        clear hb4 C3 D3 B3 HF c0 c1 c2 c3 c4 c5 d0 d1 d2 d3 d4 d5
        obtain ⟨c0, c1, c2, c3, c4, c5⟩ := C4.out.cell6
        obtain ⟨d0, d1, d2, d3, d4, d5⟩ := D4.out.cell6
        go_wp2_with fail
        refine (HGA.out _ B4.out).mono ?_
        rintro e w5 ⟨rfl, hb5⟩
        have B5 := Lib.hid (bt B4.out hb5)
        have C5 := Lib.hid (C4.out.below hb5)
        have D5 := Lib.hid (D4.out.below hb5)
        clear hb5 C4 D4 B4 c0 c1 c2 c3 c4 c5 d0 d1 d2 d3 d4 d5
        obtain ⟨c0, c1, c2, c3, c4, c5⟩ := C5.out.cell6
        obtain ⟨d0, d1, d2, d3, d4, d5⟩ := D5.out.cell6
        have HD := Lib.hid (decode_any s (by omega) w5 (HW.out.below B5.out))
        cases hds : Cr.dec s with
        | none =>
          rw [hds] at HD
          clear hds
          go_wp2_with fail
          refine HD.out.mono ?_
          intro e w20 h20
          obtain ⟨a20, cap20, rfl, r20, b20⟩ := h20.none'
          have B20 := Lib.hid (bt B5.out b20)
          have C20 : Hid (Cl (w20.alloc (.cells #[.int .i64 0, .int .i64 0, .int .i64 0, .int .i64 0, .int .i64 0, .slice a20 0 cap20] 24)) w20.heap.size [.int .i64 0, .int .i64 0, .int .i64 0, .int .i64 0, .int .i64 0, .slice a20 0 cap20] 24) := Cl.new _ _ _
          have D20 : Hid (Below w20.heap.size w20 (w20.alloc (.cells #[.int .i64 0, .int .i64 0, .int .i64 0, .int .i64 0, .int .i64 0, .slice a20 0 cap20] 24))) := (Below.refl _ _).alloc (Nat.le_refl _) _
          have R20 := Lib.hid (r20.kept D20.out)
          clear h20 r20 b20 HD
          unfold batV
          dsimp only [zeroBat]
          have HS := Lib.hid (same_any zeroBat zeroBat batOkZ batOkZ _ _ _ R20.out (recs_none _))
          rw [Cr.same_iff.2 rfl] at HS
          obtain ⟨k0, k1, k2, k3, k4, k5⟩ := C20.out.cell6
          go_wp2_with fail
          refine HS.out.mono ?_
          rintro e w21 ⟨rfl, hb21⟩
          have B21 := Lib.hid (bt B20.out (bt D20.out hb21))
          clear hb21
          go_wp2
          go_ret
          exact ⟨rfl, B21.out⟩
        | some cb =>
          have HGC := Lib.hid (Cr.dec_some hds).1
          have HSC := Lib.hid (Cr.dec_some hds).2
          rw [hds] at HD
          clear hds
          go_wp2_with fail
          refine HD.out.mono ?_
          intro e w20 h20
          obtain ⟨a20, cap20, rfl, r20, b20⟩ := h20.some'
          have B20 := Lib.hid (bt B5.out b20)
          have C20 := Lib.hid (batCl w20 cb (.slice a20 cb.recs.length cap20))
          have D20 : Hid (Below w20.heap.size w20 (w20.alloc (.cells #[.int .i64 cb.base, .int .i64 cb.count, .int .i64 cb.prod, .int .i64 cb.seq, .int .i64 cb.time, .slice a20 cb.recs.length cap20] 24))) := (Below.refl _ _).alloc (Nat.le_refl _) _
          have HE2 := Lib.hid (encode_any cb (batOk_good HGC.out) _ _ (r20.kept D20.out) (HW.out.below (bt B20.out D20.out)))
          rw [show encR cb = .tuple #[.string ⟨s.toArray⟩, .int .i64 0] from by rw [encR, if_pos HGC.out, ← HSC.out]] at HE2
          clear h20 r20 b20 HD HSC HGC
          unfold batV at HE2 ⊢
          obtain ⟨k0, k1, k2, k3, k4, k5⟩ := C20.out.cell6
          go_wp2_with fail
          refine HE2.out.mono ?_
          rintro e w21 ⟨rfl, hb21⟩
          have B21 := Lib.hid (bt B20.out (bt D20.out hb21))
          clear hb21
          go_wp2
          go_ret
          exact ⟨rfl, B21.out⟩
      | true =>
        have HX : Hid (encR a = .tuple #[.string ⟨(Cr.enc a).toArray⟩, .int .i64 0]) := by rw [Hid, encR, if_pos ga]
        obtain ⟨l1, l2, l3⟩ := Cr.enc_len ga
        have HDE := Lib.hid (Cr.dec_enc ga)
        rw [HX.out]
        cases gb : Cr.good b with
        | false =>
          have HY : Hid (encR b = .tuple #[.string ⟨#[]⟩, .int .i64 1]) := by rw [Hid, encR, if_neg (by rw [gb]; decide)]
          rw [HY.out] at HF
          rw [ga] at HGA
          clear ga gb HX HY HSA
          generalize Cr.enc a = la at *
          go_wp2_with fail
          refine HF.out.mono ?_
          rintro e w4 ⟨rfl, hb4⟩
          have B4 := Lib.hid (bt B3.out hb4)
          have C4 := Lib.hid (C3.out.below hb4)
          have D4 := Lib.hid (D3.out.below hb4)
          clear hb4 C3 D3 B3 HF c0 c1 c2 c3 c4 c5 d0 d1 d2 d3 d4 d5
          obtain ⟨c0, c1, c2, c3, c4, c5⟩ := C4.out.cell6
          obtain ⟨d0, d1, d2, d3, d4, d5⟩ := D4.out.cell6
          go_wp2_with fail
          refine (HGA.out _ B4.out).mono ?_
          rintro e w5 ⟨rfl, hb5⟩
          have B5 := Lib.hid (bt B4.out hb5)
          have C5 := Lib.hid (C4.out.below hb5)
          have D5 := Lib.hid (D4.out.below hb5)
          clear hb5 C4 D4 B4 c0 c1 c2 c3 c4 c5 d0 d1 d2 d3 d4 d5
          obtain ⟨c0, c1, c2, c3, c4, c5⟩ := C5.out.cell6
          obtain ⟨d0, d1, d2, d3, d4, d5⟩ := D5.out.cell6
          have HDA := Lib.hid (decode_any la (by omega) w5 (HW.out.below B5.out))
          rw [HDE.out] at HDA
          go_wp2_with fail
          refine HDA.out.mono ?_
          intro e w7 h7
          obtain ⟨a7, cap7, rfl, r7, b7⟩ := h7.some'
          have B7 := Lib.hid (bt B5.out b7)
          have C7 := Lib.hid (C5.out.below b7)
          have N7 := Lib.hid (batCl w7 a (.slice a7 a.recs.length cap7))
          have C8 := Lib.hid (C7.out.alloc (.cells #[.int .i64 a.base, .int .i64 a.count, .int .i64 a.prod, .int .i64 a.seq, .int .i64 a.time, .slice a7 a.recs.length cap7] 24))
          have D7 : Hid (Below w7.heap.size w7 (w7.alloc (.cells #[.int .i64 a.base, .int .i64 a.count, .int .i64 a.prod, .int .i64 a.seq, .int .i64 a.time, .slice a7 a.recs.length cap7] 24))) := (Below.refl _ _).alloc (Nat.le_refl _) _
          have HS7 := Lib.hid (same_any a a OA.out OA.out _ _ _ (r7.kept D7.out) (H1.out.kept (bt B7.out D7.out)))
          rw [Cr.same_iff.2 rfl] at HS7
          clear h7 r7 b7 HDA C7 c0 c1 c2 c3 c4 c5
          unfold batV at HS7 ⊢
          obtain ⟨c0, c1, c2, c3, c4, c5⟩ := C8.out.cell6
          obtain ⟨k0, k1, k2, k3, k4, k5⟩ := N7.out.cell6
          go_wp2_with fail
          refine HS7.out.mono ?_
          rintro e w8 ⟨rfl, hb8⟩
          have B8 := Lib.hid (bt B7.out (bt D7.out hb8))
          clear hb8 C8 N7 D7 B7 HS7 c0 c1 c2 c3 c4 c5 k0 k1 k2 k3 k4 k5
          have HD := Lib.hid (decode_any s (by omega) w8 (HW.out.below B8.out))
          cases hds : Cr.dec s with
          | none =>
            rw [hds] at HD
            clear hds
            go_wp2_with fail
            refine HD.out.mono ?_
            intro e w20 h20
            obtain ⟨a20, cap20, rfl, r20, b20⟩ := h20.none'
            have B20 := Lib.hid (bt B8.out b20)
            have C20 : Hid (Cl (w20.alloc (.cells #[.int .i64 0, .int .i64 0, .int .i64 0, .int .i64 0, .int .i64 0, .slice a20 0 cap20] 24)) w20.heap.size [.int .i64 0, .int .i64 0, .int .i64 0, .int .i64 0, .int .i64 0, .slice a20 0 cap20] 24) := Cl.new _ _ _
            have D20 : Hid (Below w20.heap.size w20 (w20.alloc (.cells #[.int .i64 0, .int .i64 0, .int .i64 0, .int .i64 0, .int .i64 0, .slice a20 0 cap20] 24))) := (Below.refl _ _).alloc (Nat.le_refl _) _
            have R20 := Lib.hid (r20.kept D20.out)
            clear h20 r20 b20 HD
            unfold batV
            dsimp only [zeroBat]
            have HS := Lib.hid (same_any zeroBat zeroBat batOkZ batOkZ _ _ _ R20.out (recs_none _))
            rw [Cr.same_iff.2 rfl] at HS
            obtain ⟨k0, k1, k2, k3, k4, k5⟩ := C20.out.cell6
            go_wp2_with fail
            refine HS.out.mono ?_
            rintro e w21 ⟨rfl, hb21⟩
            have B21 := Lib.hid (bt B20.out (bt D20.out hb21))
            clear hb21
            go_wp2
            go_ret
            exact ⟨rfl, B21.out⟩
          | some cb =>
            have HGC := Lib.hid (Cr.dec_some hds).1
            have HSC := Lib.hid (Cr.dec_some hds).2
            rw [hds] at HD
            clear hds
            go_wp2_with fail
            refine HD.out.mono ?_
            intro e w20 h20
            obtain ⟨a20, cap20, rfl, r20, b20⟩ := h20.some'
            have B20 := Lib.hid (bt B8.out b20)
            have C20 := Lib.hid (batCl w20 cb (.slice a20 cb.recs.length cap20))
            have D20 : Hid (Below w20.heap.size w20 (w20.alloc (.cells #[.int .i64 cb.base, .int .i64 cb.count, .int .i64 cb.prod, .int .i64 cb.seq, .int .i64 cb.time, .slice a20 cb.recs.length cap20] 24))) := (Below.refl _ _).alloc (Nat.le_refl _) _
            have HE2 := Lib.hid (encode_any cb (batOk_good HGC.out) _ _ (r20.kept D20.out) (HW.out.below (bt B20.out D20.out)))
            rw [show encR cb = .tuple #[.string ⟨s.toArray⟩, .int .i64 0] from by rw [encR, if_pos HGC.out, ← HSC.out]] at HE2
            clear h20 r20 b20 HD HSC HGC
            unfold batV at HE2 ⊢
            obtain ⟨k0, k1, k2, k3, k4, k5⟩ := C20.out.cell6
            go_wp2_with fail
            refine HE2.out.mono ?_
            rintro e w21 ⟨rfl, hb21⟩
            have B21 := Lib.hid (bt B20.out (bt D20.out hb21))
            clear hb21
            go_wp2
            go_ret
            exact ⟨rfl, B21.out⟩
        | true =>
          have HY : Hid (encR b = .tuple #[.string ⟨(Cr.enc b).toArray⟩, .int .i64 0]) := by rw [Hid, encR, if_pos gb]
          have hinj := Cr.enc_inj ga gb
          rw [HY.out] at HF
          rw [ga] at HGA
          cases hsm : Cr.same a b with
          | true =>
            have hab : Cr.enc b = Cr.enc a := by rw [Cr.same_iff.1 hsm]
            rw [hsm] at HSA
            rw [hab] at HF
            clear ga gb HX HY hinj hsm hab
            generalize Cr.enc a = la at *
            go_wp2_with fail
            refine HF.out.mono ?_
            rintro e w4 ⟨rfl, hb4⟩
            have B4 := Lib.hid (bt B3.out hb4)
            have C4 := Lib.hid (C3.out.below hb4)
            have D4 := Lib.hid (D3.out.below hb4)
            clear hb4 C3 D3 B3 HF c0 c1 c2 c3 c4 c5 d0 d1 d2 d3 d4 d5
            obtain ⟨c0, c1, c2, c3, c4, c5⟩ := C4.out.cell6
            obtain ⟨d0, d1, d2, d3, d4, d5⟩ := D4.out.cell6
            go_wp2_with fail
            refine (HGA.out _ B4.out).mono ?_
            rintro e w5 ⟨rfl, hb5⟩
            have B5 := Lib.hid (bt B4.out hb5)
            have C5 := Lib.hid (C4.out.below hb5)
            have D5 := Lib.hid (D4.out.below hb5)
            clear hb5 C4 D4 B4 c0 c1 c2 c3 c4 c5 d0 d1 d2 d3 d4 d5
            obtain ⟨c0, c1, c2, c3, c4, c5⟩ := C5.out.cell6
            obtain ⟨d0, d1, d2, d3, d4, d5⟩ := D5.out.cell6
            go_wp2_with fail
            refine (HSA.out _ B5.out).mono ?_
            rintro e w6 ⟨rfl, hb6⟩
            have B6 := Lib.hid (bt B5.out hb6)
            have C6 := Lib.hid (C5.out.below hb6)
            clear hb6 C5 D5 B5 c0 c1 c2 c3 c4 c5 d0 d1 d2 d3 d4 d5
            obtain ⟨c0, c1, c2, c3, c4, c5⟩ := C6.out.cell6
            have HDA := Lib.hid (decode_any la (by omega) w6 (HW.out.below B6.out))
            rw [HDE.out] at HDA
            go_wp2_with fail
            refine HDA.out.mono ?_
            intro e w7 h7
            obtain ⟨a7, cap7, rfl, r7, b7⟩ := h7.some'
            have B7 := Lib.hid (bt B6.out b7)
            have C7 := Lib.hid (C6.out.below b7)
            have N7 := Lib.hid (batCl w7 a (.slice a7 a.recs.length cap7))
            have C8 := Lib.hid (C7.out.alloc (.cells #[.int .i64 a.base, .int .i64 a.count, .int .i64 a.prod, .int .i64 a.seq, .int .i64 a.time, .slice a7 a.recs.length cap7] 24))
            have D7 : Hid (Below w7.heap.size w7 (w7.alloc (.cells #[.int .i64 a.base, .int .i64 a.count, .int .i64 a.prod, .int .i64 a.seq, .int .i64 a.time, .slice a7 a.recs.length cap7] 24))) := (Below.refl _ _).alloc (Nat.le_refl _) _
            have HS7 := Lib.hid (same_any a a OA.out OA.out _ _ _ (r7.kept D7.out) (H1.out.kept (bt B7.out D7.out)))
            rw [Cr.same_iff.2 rfl] at HS7
            clear h7 r7 b7 HDA C7 c0 c1 c2 c3 c4 c5
            unfold batV at HS7 ⊢
            obtain ⟨c0, c1, c2, c3, c4, c5⟩ := C8.out.cell6
            obtain ⟨k0, k1, k2, k3, k4, k5⟩ := N7.out.cell6
            go_wp2_with fail
            refine HS7.out.mono ?_
            rintro e w8 ⟨rfl, hb8⟩
            have B8 := Lib.hid (bt B7.out (bt D7.out hb8))
            clear hb8 C8 N7 D7 B7 HS7 c0 c1 c2 c3 c4 c5 k0 k1 k2 k3 k4 k5
            have HD := Lib.hid (decode_any s (by omega) w8 (HW.out.below B8.out))
            cases hds : Cr.dec s with
            | none =>
              rw [hds] at HD
              clear hds
              go_wp2_with fail
              refine HD.out.mono ?_
              intro e w20 h20
              obtain ⟨a20, cap20, rfl, r20, b20⟩ := h20.none'
              have B20 := Lib.hid (bt B8.out b20)
              have C20 : Hid (Cl (w20.alloc (.cells #[.int .i64 0, .int .i64 0, .int .i64 0, .int .i64 0, .int .i64 0, .slice a20 0 cap20] 24)) w20.heap.size [.int .i64 0, .int .i64 0, .int .i64 0, .int .i64 0, .int .i64 0, .slice a20 0 cap20] 24) := Cl.new _ _ _
              have D20 : Hid (Below w20.heap.size w20 (w20.alloc (.cells #[.int .i64 0, .int .i64 0, .int .i64 0, .int .i64 0, .int .i64 0, .slice a20 0 cap20] 24))) := (Below.refl _ _).alloc (Nat.le_refl _) _
              have R20 := Lib.hid (r20.kept D20.out)
              clear h20 r20 b20 HD
              unfold batV
              dsimp only [zeroBat]
              have HS := Lib.hid (same_any zeroBat zeroBat batOkZ batOkZ _ _ _ R20.out (recs_none _))
              rw [Cr.same_iff.2 rfl] at HS
              obtain ⟨k0, k1, k2, k3, k4, k5⟩ := C20.out.cell6
              go_wp2_with fail
              refine HS.out.mono ?_
              rintro e w21 ⟨rfl, hb21⟩
              have B21 := Lib.hid (bt B20.out (bt D20.out hb21))
              clear hb21
              go_wp2
              go_ret
              exact ⟨rfl, B21.out⟩
            | some cb =>
              have HGC := Lib.hid (Cr.dec_some hds).1
              have HSC := Lib.hid (Cr.dec_some hds).2
              rw [hds] at HD
              clear hds
              go_wp2_with fail
              refine HD.out.mono ?_
              intro e w20 h20
              obtain ⟨a20, cap20, rfl, r20, b20⟩ := h20.some'
              have B20 := Lib.hid (bt B8.out b20)
              have C20 := Lib.hid (batCl w20 cb (.slice a20 cb.recs.length cap20))
              have D20 : Hid (Below w20.heap.size w20 (w20.alloc (.cells #[.int .i64 cb.base, .int .i64 cb.count, .int .i64 cb.prod, .int .i64 cb.seq, .int .i64 cb.time, .slice a20 cb.recs.length cap20] 24))) := (Below.refl _ _).alloc (Nat.le_refl _) _
              have HE2 := Lib.hid (encode_any cb (batOk_good HGC.out) _ _ (r20.kept D20.out) (HW.out.below (bt B20.out D20.out)))
              rw [show encR cb = .tuple #[.string ⟨s.toArray⟩, .int .i64 0] from by rw [encR, if_pos HGC.out, ← HSC.out]] at HE2
              clear h20 r20 b20 HD HSC HGC
              unfold batV at HE2 ⊢
              obtain ⟨k0, k1, k2, k3, k4, k5⟩ := C20.out.cell6
              go_wp2_with fail
              refine HE2.out.mono ?_
              rintro e w21 ⟨rfl, hb21⟩
              have B21 := Lib.hid (bt B20.out (bt D20.out hb21))
              clear hb21
              go_wp2
              go_ret
              exact ⟨rfl, B21.out⟩
          | false =>
            have hne : Cr.enc a ≠ Cr.enc b := fun e => by
              rw [Cr.same_iff.2 (hinj.1 e)] at hsm
              cases hsm
            have hne1 := bs_ne hne
            rw [hsm] at HSA
            clear ga gb HX HY hinj hsm
            generalize Cr.enc a = la at *
            generalize Cr.enc b = lb at *
            go_wp2_with fail
            refine HF.out.mono ?_
            rintro e w4 ⟨rfl, hb4⟩
            have B4 := Lib.hid (bt B3.out hb4)
            have C4 := Lib.hid (C3.out.below hb4)
            have D4 := Lib.hid (D3.out.below hb4)
            clear hb4 C3 D3 B3 HF c0 c1 c2 c3 c4 c5 d0 d1 d2 d3 d4 d5
            obtain ⟨c0, c1, c2, c3, c4, c5⟩ := C4.out.cell6
            obtain ⟨d0, d1, d2, d3, d4, d5⟩ := D4.out.cell6
            go_wp2_with fail
            refine (HGA.out _ B4.out).mono ?_
            rintro e w5 ⟨rfl, hb5⟩
            have B5 := Lib.hid (bt B4.out hb5)
            have C5 := Lib.hid (C4.out.below hb5)
            have D5 := Lib.hid (D4.out.below hb5)
            clear hb5 C4 D4 B4 c0 c1 c2 c3 c4 c5 d0 d1 d2 d3 d4 d5
            obtain ⟨c0, c1, c2, c3, c4, c5⟩ := C5.out.cell6
            obtain ⟨d0, d1, d2, d3, d4, d5⟩ := D5.out.cell6
            go_wp2_with fail
            refine (HSA.out _ B5.out).mono ?_
            rintro e w6 ⟨rfl, hb6⟩
            have B6 := Lib.hid (bt B5.out hb6)
            have C6 := Lib.hid (C5.out.below hb6)
            clear hb6 C5 D5 B5 c0 c1 c2 c3 c4 c5 d0 d1 d2 d3 d4 d5
            obtain ⟨c0, c1, c2, c3, c4, c5⟩ := C6.out.cell6
            have HDA := Lib.hid (decode_any la (by omega) w6 (HW.out.below B6.out))
            rw [HDE.out] at HDA
            go_wp2_with fail
            refine HDA.out.mono ?_
            intro e w7 h7
            obtain ⟨a7, cap7, rfl, r7, b7⟩ := h7.some'
            have B7 := Lib.hid (bt B6.out b7)
            have C7 := Lib.hid (C6.out.below b7)
            have N7 := Lib.hid (batCl w7 a (.slice a7 a.recs.length cap7))
            have C8 := Lib.hid (C7.out.alloc (.cells #[.int .i64 a.base, .int .i64 a.count, .int .i64 a.prod, .int .i64 a.seq, .int .i64 a.time, .slice a7 a.recs.length cap7] 24))
            have D7 : Hid (Below w7.heap.size w7 (w7.alloc (.cells #[.int .i64 a.base, .int .i64 a.count, .int .i64 a.prod, .int .i64 a.seq, .int .i64 a.time, .slice a7 a.recs.length cap7] 24))) := (Below.refl _ _).alloc (Nat.le_refl _) _
            have HS7 := Lib.hid (same_any a a OA.out OA.out _ _ _ (r7.kept D7.out) (H1.out.kept (bt B7.out D7.out)))
            rw [Cr.same_iff.2 rfl] at HS7
            clear h7 r7 b7 HDA C7 c0 c1 c2 c3 c4 c5
            unfold batV at HS7 ⊢
            obtain ⟨c0, c1, c2, c3, c4, c5⟩ := C8.out.cell6
            obtain ⟨k0, k1, k2, k3, k4, k5⟩ := N7.out.cell6
            go_wp2_with fail
            refine HS7.out.mono ?_
            rintro e w8 ⟨rfl, hb8⟩
            have B8 := Lib.hid (bt B7.out (bt D7.out hb8))
            clear hb8 C8 N7 D7 B7 HS7 c0 c1 c2 c3 c4 c5 k0 k1 k2 k3 k4 k5
            have HD := Lib.hid (decode_any s (by omega) w8 (HW.out.below B8.out))
            cases hds : Cr.dec s with
            | none =>
              rw [hds] at HD
              clear hds
              go_wp2_with fail
              refine HD.out.mono ?_
              intro e w20 h20
              obtain ⟨a20, cap20, rfl, r20, b20⟩ := h20.none'
              have B20 := Lib.hid (bt B8.out b20)
              have C20 : Hid (Cl (w20.alloc (.cells #[.int .i64 0, .int .i64 0, .int .i64 0, .int .i64 0, .int .i64 0, .slice a20 0 cap20] 24)) w20.heap.size [.int .i64 0, .int .i64 0, .int .i64 0, .int .i64 0, .int .i64 0, .slice a20 0 cap20] 24) := Cl.new _ _ _
              have D20 : Hid (Below w20.heap.size w20 (w20.alloc (.cells #[.int .i64 0, .int .i64 0, .int .i64 0, .int .i64 0, .int .i64 0, .slice a20 0 cap20] 24))) := (Below.refl _ _).alloc (Nat.le_refl _) _
              have R20 := Lib.hid (r20.kept D20.out)
              clear h20 r20 b20 HD
              unfold batV
              dsimp only [zeroBat]
              have HS := Lib.hid (same_any zeroBat zeroBat batOkZ batOkZ _ _ _ R20.out (recs_none _))
              rw [Cr.same_iff.2 rfl] at HS
              obtain ⟨k0, k1, k2, k3, k4, k5⟩ := C20.out.cell6
              go_wp2_with fail
              refine HS.out.mono ?_
              rintro e w21 ⟨rfl, hb21⟩
              have B21 := Lib.hid (bt B20.out (bt D20.out hb21))
              clear hb21
              go_wp2
              go_ret
              exact ⟨rfl, B21.out⟩
            | some cb =>
              have HGC := Lib.hid (Cr.dec_some hds).1
              have HSC := Lib.hid (Cr.dec_some hds).2
              rw [hds] at HD
              clear hds
              go_wp2_with fail
              refine HD.out.mono ?_
              intro e w20 h20
              obtain ⟨a20, cap20, rfl, r20, b20⟩ := h20.some'
              have B20 := Lib.hid (bt B8.out b20)
              have C20 := Lib.hid (batCl w20 cb (.slice a20 cb.recs.length cap20))
              have D20 : Hid (Below w20.heap.size w20 (w20.alloc (.cells #[.int .i64 cb.base, .int .i64 cb.count, .int .i64 cb.prod, .int .i64 cb.seq, .int .i64 cb.time, .slice a20 cb.recs.length cap20] 24))) := (Below.refl _ _).alloc (Nat.le_refl _) _
              have HE2 := Lib.hid (encode_any cb (batOk_good HGC.out) _ _ (r20.kept D20.out) (HW.out.below (bt B20.out D20.out)))
              rw [show encR cb = .tuple #[.string ⟨s.toArray⟩, .int .i64 0] from by rw [encR, if_pos HGC.out, ← HSC.out]] at HE2
              clear h20 r20 b20 HD HSC HGC
              unfold batV at HE2 ⊢
              obtain ⟨k0, k1, k2, k3, k4, k5⟩ := C20.out.cell6
              go_wp2_with fail
              refine HE2.out.mono ?_
              rintro e w21 ⟨rfl, hb21⟩
              have B21 := Lib.hid (bt B20.out (bt D20.out hb21))
              clear hb21
              go_wp2
              go_ret
              exact ⟨rfl, B21.out⟩

end Go.Proofs.YtegaonoobjeneaaDoor
