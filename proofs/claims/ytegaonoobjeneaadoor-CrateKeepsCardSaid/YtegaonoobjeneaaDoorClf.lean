/-
  CrateKeeps, walked.
  Conditions: the library's variables hold what they are laid with.
-/
import Derived.Test.YtegaonoobjeneaaDoorCle
set_option linter.unusedVariables false
set_option linter.unusedSimpArgs false
namespace Go.Proofs.YtegaonoobjeneaaDoor
open Go.RowKit

set_option maxRecDepth 20000 in
set_option maxHeartbeats 6400000 in
theorem keeps_walk (l : List Cr.Rec) (hok : ∀ x ∈ l, RecOk x) (hl : l.length ≤ maxLen) (lv : Value) (base prod seq time : Int) (hb : Bd.inR base) (hp : Bd.inR prod) (hs : Bd.inR seq) (ht : Bd.inR time) (w : World) (h : Recs w lv l) (hw : Lw w) :
    Calls Tryd.prog 7 #[lv, plV base prod seq time] w fun e w' => e = .returned (.bool true) ∧ Below w.heap.size w w' := by
  have HW := Lib.hid hw
  have HZ := Lib.hid h
  have HO := Lib.hid hok
  have HL := Lib.hid hl
  obtain ⟨a, cap, rfl⟩ := h.form
  have B0 : Hid (Below w.heap.size w (w.alloc (.cells #[.int .i64 base, .int .i64 prod, .int .i64 seq, .int .i64 time] 36))) := (Below.refl _ _).alloc (Nat.le_refl _) _
  have C0 : Hid (Cl (w.alloc (.cells #[.int .i64 base, .int .i64 prod, .int .i64 seq, .int .i64 time] 36)) w.heap.size [.int .i64 base, .int .i64 prod, .int .i64 seq, .int .i64 time] 36) := Cl.new _ _ _
  clear h hw hok
  unfold plV
  go_enter Tryd.func7, Tryd.ntmps7
  go_wp2_with fail
  refine (awake_any _ (HW.out.below B0.out)).mono ?_
  rintro e w1 ⟨rfl, hb1⟩
  have B1 := Lib.hid (bt B0.out hb1)
  have C1 := Lib.hid (C0.out.below hb1)
  clear hb1 C0
  obtain ⟨c0, c1, c2, c3⟩ := C1.out.cell4
  have HGR := Lib.hid (great_any l HO.out HL.out _ w1 (HZ.out.kept B1.out))
  go_wp2_with fail
  refine HGR.out.mono ?_
  rintro e w2 ⟨rfl, rfl⟩
  cases hg : greatB l with
  | true =>
    go_wp2
    go_ret
    exact ⟨rfl, B1.out⟩
  | false =>
    clear hg HGR
    have HP := Lib.hid (pack_any l HO.out HL.out base prod seq time hb hp hs ht _ w2 (HZ.out.kept B1.out))
    have HPD : Hid (Cr.pack l base prod seq time = if Cr.fits l && Cr.isNum base && Cr.good (Cr.packed l base prod seq time) then some (Cr.packed l base prod seq time) else none) := rfl
    cases hc : (Cr.fits l && Cr.isNum base && Cr.good (Cr.packed l base prod seq time)) with
    | false =>
      have HN : Hid (Cr.pack l base prod seq time = none) := by rw [Hid, HPD.out, hc]; rfl
      rw [HN.out] at HP
      clear hc HPD HN
      go_wp2_with fail
      refine HP.out.mono ?_
      intro e w3 h3
      obtain ⟨a3, cap3, rfl, r3, b3⟩ := h3.none'
      have B3 := Lib.hid (bt B1.out b3)
      have D3 : Hid (Below w3.heap.size w3 (w3.alloc (.cells #[.int .i64 0, .int .i64 0, .int .i64 0, .int .i64 0, .int .i64 0, .slice a3 0 cap3] 24))) := (Below.refl _ _).alloc (Nat.le_refl _) _
      have R3 := Lib.hid (r3.kept D3.out)
      have N3 : Hid (Cl (w3.alloc (.cells #[.int .i64 0, .int .i64 0, .int .i64 0, .int .i64 0, .int .i64 0, .slice a3 0 cap3] 24)) w3.heap.size [.int .i64 0, .int .i64 0, .int .i64 0, .int .i64 0, .int .i64 0, .slice a3 0 cap3] 24) := Cl.new _ _ _
      have HS := Lib.hid (same_any zeroBat zeroBat batOkZ batOkZ _ _ _ R3.out (recs_none _))
      rw [Cr.same_iff.2 rfl] at HS
      clear h3 r3 b3 HP C1 c0 c1 c2 c3
      unfold batV
      dsimp only [zeroBat]
      obtain ⟨c0, c1, c2, c3, c4, c5⟩ := N3.out.cell6
      go_wp2_with fail
      refine HS.out.mono ?_
      rintro e w8 ⟨rfl, hb8⟩
      have B8 := Lib.hid (bt B3.out (bt D3.out hb8))
      clear hb8
      go_wp2
      go_ret
      exact ⟨rfl, B8.out⟩
    | true =>
      have HN : Hid (Cr.pack l base prod seq time = some (Cr.packed l base prod seq time)) := by rw [Hid, HPD.out, hc]; rfl
      simp only [Bool.and_eq_true] at hc
      have HFT := Lib.hid hc.1.1
      have HNB := Lib.hid hc.1.2
      have HGD := Lib.hid hc.2
      have hl8 : l.length ≤ 8 := by
        have := hc.1.1
        simp only [Cr.fits, Bool.and_eq_true, decide_eq_true_eq] at this
        exact this.2.1
      have hbr : 0 ≤ base ∧ base ≤ 1099511627776 := by simpa only [Cr.isNum, Bool.and_eq_true, decide_eq_true_eq] using hc.1.2
      obtain ⟨hb0, hb1⟩ := hbr
      have OP := Lib.hid (batOk_packed HO.out hl8 HNB.out hp hs ht)
      rw [HN.out] at HP
      clear hc HPD HN
      go_wp2_with fail
      refine HP.out.mono ?_
      intro e w3 h3
      obtain ⟨a3, cap3, rfl, r3, b3⟩ := h3.some'
      have hlen : (Cr.packed l base prod seq time).recs.length = l.length := Cr.offs_length l base
      rw [hlen] at r3
      rw [hlen]
      have B3 := Lib.hid (bt B1.out b3)
      have D3 : Hid (Below w3.heap.size w3 (w3.alloc (.cells #[.int .i64 base, .int .i64 l.length, .int .i64 prod, .int .i64 seq, .int .i64 time, .slice a3 l.length cap3] 24))) := (Below.refl _ _).alloc (Nat.le_refl _) _
      have C3 := Lib.hid ((C1.out.below b3).below D3.out)
      have R3 := Lib.hid (r3.kept D3.out)
      have N3 : Hid (Cl (w3.alloc (.cells #[.int .i64 base, .int .i64 l.length, .int .i64 prod, .int .i64 seq, .int .i64 time, .slice a3 l.length cap3] 24)) w3.heap.size [.int .i64 base, .int .i64 l.length, .int .i64 prod, .int .i64 seq, .int .i64 time, .slice a3 l.length cap3] 24) := Cl.new _ _ _
      have hbv : batV (Cr.packed l base prod seq time) (.slice a3 l.length cap3) = .agg #[.int .i64 base, .int .i64 l.length, .int .i64 prod, .int .i64 seq, .int .i64 time, .slice a3 l.length cap3] := rfl
      rw [hbv]
      have HF := Lib.hid (fits_any l HO.out HL.out _ _ (HZ.out.kept (bt B3.out D3.out)))
      rw [HFT.out] at HF
      clear h3 r3 b3 HP C1 c0 c1 c2 c3 hlen
      obtain ⟨c0, c1, c2, c3⟩ := C3.out.cell4
      obtain ⟨n0, n1, n2, n3, n4, n5⟩ := N3.out.cell6
      go_wp2_with fail
      have BB := Lib.hid (bt B3.out D3.out)
      clear B3 D3
      generalize w3.alloc (.cells #[.int .i64 base, .int .i64 l.length, .int .i64 prod, .int .i64 seq, .int .i64 time, .slice a3 l.length cap3] 24) = w4 at *
      generalize w3.heap.size = bb at *
      refine HF.out.mono ?_
      rintro e w5 ⟨rfl, hb5⟩
      have B5 := Lib.hid (bt BB.out hb5)
      have C5 := Lib.hid (C3.out.below hb5)
      have N5 := Lib.hid (N3.out.below hb5)
      have R5 := Lib.hid (R3.out.kept hb5)
      clear hb5 HF BB C3 N3 R3 c0 c1 c2 c3 n0 n1 n2 n3 n4 n5
      obtain ⟨c0, c1, c2, c3⟩ := C5.out.cell4
      obtain ⟨n0, n1, n2, n3, n4, n5⟩ := N5.out.cell6
      have HG := Lib.hid (good_any _ OP.out _ _ R5.out)
      rw [HGD.out, hbv] at HG
      go_wp2_with fail
      refine HG.out.mono ?_
      rintro e w6 ⟨rfl, hb6⟩
      have B6 := Lib.hid (bt B5.out hb6)
      have C6 := Lib.hid (C5.out.below hb6)
      have N6 := Lib.hid (N5.out.below hb6)
      have R6 := Lib.hid (R5.out.kept hb6)
      clear hb6 HG B5 C5 N5 R5 c0 c1 c2 c3 n0 n1 n2 n3 n4 n5 hbv
      obtain ⟨c0, c1, c2, c3⟩ := C6.out.cell4
      obtain ⟨n0, n1, n2, n3, n4, n5⟩ := N6.out.cell6
      go_wp2
      go_loopw [7] (fun i wr => ∃ k : Nat, i = .int .i64 k ∧ k ≤ l.length ∧ Below w6.heap.size w6 wr) (fun i _ => l.length - (intOf i).toNat)
      case atStart => exact ⟨0, rfl, by omega, Below.refl _ _⟩
      case round =>
        obtain ⟨k, rfl, hk, hbr⟩ := hrel
        have B7 := Lib.hid hbr
        have BW := Lib.hid (bt B6.out hbr)
        have C7 := Lib.hid (C6.out.below hbr)
        have N7 := Lib.hid (N6.out.below hbr)
        clear hbr c0 c1 c2 c3 n0 n1 n2 n3 n4 n5
        obtain ⟨c0, c1, c2, c3⟩ := C7.out.cell4
        obtain ⟨n0, n1, n2, n3, n4, n5⟩ := N7.out.cell6
        by_cases hlt : k < l.length
        · obtain ⟨x, hx⟩ : ∃ x, l[k]? = some x := ⟨l[k], by simp [hlt]⟩
          have hy : (Cr.packed l base prod seq time).recs[k]? = some { x with off := base + k } := by
            show (Cr.offs base l)[k]? = _
            rw [Cr.offs_get, hx]
            rfl
          obtain ⟨g, off, cap', he, hg, p0, p1, p2, p3⟩ := HZ.out.get BW.out hx
          injection he with he1 he2 he3
          subst he1 he3
          obtain ⟨g2, off2, cap2', he', hg2, s0, s1, s2, s3⟩ := R6.out.get B7.out hy
          injection he' with he1' he2' he3'
          subst he1' he3'
          obtain ⟨x0, xk, xv, xg⟩ := x
          dsimp only at *
          have CX : Hid (Cl (wr.alloc (.cells #[.int .i64 (base + k), .string ⟨xk.toArray⟩, .string ⟨xv.toArray⟩, .bool xg] 41)) wr.heap.size [.int .i64 (base + k), .string ⟨xk.toArray⟩, .string ⟨xv.toArray⟩, .bool xg] 41) := Cl.new _ _ _
          have DX : Hid (Below wr.heap.size wr (wr.alloc (.cells #[.int .i64 (base + k), .string ⟨xk.toArray⟩, .string ⟨xv.toArray⟩, .bool xg] 41))) := (Below.refl _ _).alloc (Nat.le_refl _) _
          have BX := Lib.hid (bt B7.out DX.out)
          have q0 := DX.out.cell (p := ⟨g, off + k * 4, none⟩) (World.block_lt_of_cell? wr _ p0) |>.trans p0
          have q1 := DX.out.cell (p := ⟨g, off + k * 4 + 1, none⟩) (World.block_lt_of_cell? wr _ p1) |>.trans p1
          have q2 := DX.out.cell (p := ⟨g, off + k * 4 + 2, none⟩) (World.block_lt_of_cell? wr _ p2) |>.trans p2
          have q3 := DX.out.cell (p := ⟨g, off + k * 4 + 3, none⟩) (World.block_lt_of_cell? wr _ p3) |>.trans p3
          have e0 := (C7.out.below DX.out).cell 0
          have he5 : base + (k : Int) - k = base := by omega
          clear he2 he2'
          go_upto_region 14 with (fail)
          generalize wr.alloc (.cells #[.int .i64 (base + k), .string ⟨xk.toArray⟩, .string ⟨xv.toArray⟩, .bool xg] 41) = w8 at *
          generalize wr.heap.size = xb at *
          obtain ⟨t0, t1, t2, t3⟩ := CX.out.cell4
          clear p0 p1 p2 p3 s0 s1 s2 s3 c0 c1 c2 c3 n0 n1 n2 n3 n4 n5
          go_quiet (fail)
          have BQ := Lib.hid (below_drewN BX.out nq)
          go_wp2
          go_roundw
          case rel => exact ⟨k + 1, by go_num, by omega, BQ.out⟩
          case measure => simp [intOf]; omega
        · obtain rfl : k = l.length := by omega
          go_wp2
          go_ret
          exact ⟨rfl, BW.out⟩

end Go.Proofs.YtegaonoobjeneaaDoor
