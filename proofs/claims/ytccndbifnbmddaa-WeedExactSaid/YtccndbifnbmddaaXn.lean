/-
  The document's Thin, walked.
  Conditions: the model's bounds.
-/
import Derived.Test.YtccndbifnbmddaaXm
import Derived.Test.YtccndbifnbmddaaXd
set_option linter.unusedVariables false
set_option linter.unusedSimpArgs false
namespace Go.Proofs.Ytccndbifnbmddaa
open Go.RowKit

theorem filter_one (p : Cr.Rec → Bool) {l : List Cr.Rec} {j : Nat} {x : Cr.Rec} (h : l[j]? = some x) : (l.take (j + 1)).filter p = (l.take j).filter p ++ (if p x = true then [x] else []) := by
  obtain ⟨hk, rfl⟩ := List.getElem?_eq_some_iff.1 h
  rw [List.take_succ_eq_append_getElem hk, List.filter_append]
  by_cases hp : p l[j] = true
  · rw [if_pos hp]; simp [hp]
  · rw [if_neg hp]; simp [hp]
theorem map_one (F : Cr.Batch → Cr.Batch) {l : List Cr.Batch} {j : Nat} {x : Cr.Batch} (h : l[j]? = some x) : (l.take (j + 1)).map F = (l.take j).map F ++ [F x] := by
  obtain ⟨hk, rfl⟩ := List.getElem?_eq_some_iff.1 h
  rw [List.take_succ_eq_append_getElem hk, List.map_append]
  rfl
theorem stay_ok {l : List Cr.Batch} {high now hor : Int} {b : Cr.Batch} {x : Cr.Rec} : stayR true l high now hor b x = !useR (recsOf l) high b.time now hor x := by simp [stayR]
theorem stay_no {l : List Cr.Batch} {high now hor : Int} {b : Cr.Batch} {x : Cr.Rec} : stayR false l high now hor b x = true := by simp [stayR]
set_option maxRecDepth 20000 in
set_option maxHeartbeats 6400000 in
theorem refthin_any (l : List Cr.Batch) (high now hor : Int) (v : Value) (w : World) (h : Bats w v l) (hl : l.length ≤ 1000000) (hrl : ∀ b ∈ l, b.recs.length ≤ 1000000) (hkl : ∀ b ∈ l, ∀ y ∈ b.recs, y.key.length ≤ maxLen) :
    Calls Try.prog 14 #[v, .int .i64 high, .int .i64 now, .int .i64 hor] w (BatsR w (thin l high now hor)) := by
  rw [← thinR_eq]
  have HB := Lib.hid h
  have HRL := Lib.hid hrl
  have HKL := Lib.hid hkl
  have HUS := Lib.hid (fun W (hW : Below w.heap.size w W) b ab nb cb x hx h1 h2 => refuse_any l b ab nb cb x high now hor v W (h.kept hW) (by unfold maxLen; omega) (fun b hb => Nat.le_trans (hrl b hb) (by unfold maxLen; omega)) hkl hx h1 h2)
  obtain ⟨a, cap, rfl⟩ := h.form
  clear h hrl hkl
  obtain ⟨i0, hi, hz0, hz1, hz2⟩ := info_parts batInfo
  obtain ⟨i1, hi1, hy0, hy1, hy2⟩ := info_parts recInfo
  have R0 : Hid (RiW w (w.alloc (.cells #[] 42)) (.slice (some ⟨w.heap.size, 0, none⟩) 0 0) [] []) := by
    have h1 : (w.alloc (.cells #[] 42)).ownsRow w.heap.size 42 6 (.slice (some ⟨w.heap.size, 0, none⟩) 0 0) 0 [] := World.ownsRow_made w #[] 0 (Nat.le_refl _) (by unfold maxLen; omega) rfl
    exact ⟨Sl.ofOwn h1, rfl, fun q hq => (by simp at hq), fun q hq => (by simp at hq), (Below.refl _ _).alloc (Nat.le_refl _) _⟩
  go_enter Try.func14, Try.ntmps14
  go_upto_region 1 with (fail)
  go_cut [9] (fun s9 wz => s9 = .bool (isT now && isT hor) ∧ wz = w)
  case first =>
    by_cases h1 : 0 ≤ now
    case neg =>
      have HE : Hid ((isT now && isT hor) = false) := by unfold isT; rw [decide_eq_false h1]; rfl
      go_wp2
      go_meet
      case rel => exact ⟨by rw [HE.out], rfl⟩
    by_cases h2 : now ≤ 1099511627776
    case neg =>
      have HE : Hid ((isT now && isT hor) = false) := by unfold isT; rw [decide_eq_false h2, Bool.and_false]; rfl
      go_wp2
      go_meet
      case rel => exact ⟨by rw [HE.out], rfl⟩
    by_cases h3 : 0 ≤ hor
    case neg =>
      have HE : Hid ((isT now && isT hor) = false) := by unfold isT; rw [decide_eq_false h3, Bool.false_and, Bool.and_false]; rfl
      go_wp2
      go_meet
      case rel => exact ⟨by rw [HE.out], rfl⟩
    by_cases h4 : hor ≤ 1099511627776
    case neg =>
      have HE : Hid ((isT now && isT hor) = false) := by unfold isT; rw [decide_eq_false h4, Bool.and_false, Bool.and_false]; rfl
      go_wp2
      go_meet
      case rel => exact ⟨by rw [HE.out], rfl⟩
    have HE : Hid ((isT now && isT hor) = true) := by unfold isT; rw [decide_eq_true h1, decide_eq_true h2, decide_eq_true h3, decide_eq_true h4]; rfl
    go_wp2
    go_meet
    case rel => exact ⟨by rw [HE.out], rfl⟩
  case rest =>
    obtain ⟨rfl, hwc⟩ := hcut
    have hwc2 : w = wc := hwc.symm
    clear hwc
    subst hwc2
    have HOK : Hid ((isT now && isT hor) = true → isT now = true ∧ isT hor = true) := fun h => by simpa using h
    generalize (isT now && isT hor) = ok at *
    go_upto_region 3 with (fail)
    generalize w.alloc (.cells #[] 42) = w1 at *
    go_wp2
    go_loopw [10, 11] (fun tv ti wr => ∃ (k : Nat) (L : List BV), ti = .int .i64 k ∧ k ≤ l.length ∧ RiW w wr tv L ((l.take k).map (thinRB ok l high now hor))) (fun _ ti _ => l.length - (intOf ti).toNat)
    case atStart => exact ⟨0, [], rfl, by omega, R0.out⟩
    case round =>
      obtain ⟨k, L, rfl, hk, hR⟩ := hrel
      have RK := Lib.hid hR
      clear hR R0
      by_cases hkl : k < l.length
      · obtain ⟨b, hb⟩ : ∃ b, l[k]? = some b := ⟨l[k], by simp [hkl]⟩
        have hbm := List.mem_of_getElem? hb
        have HMO := Lib.hid (map_one (thinRB ok l high now hor) hb)
        have hnl := HRL.out b hbm
        have HKB := Lib.hid (HKL.out b hbm)
        obtain ⟨g, off, cap2, rv, he, hg, p0, p1, p2, p3, p4, p5, hrec⟩ := HB.out.get RK.out.bel hb
        injection he with e1 e2 e3
        subst e1 e3
        have HRV := Lib.hid hrec
        obtain ⟨ar, capr, rfl⟩ := hrec.form
        have HST : Hid (thinRB ok l high now hor b = { b with recs := b.recs.filter (stayR ok l high now hor b) }) := rfl
        have HU1 := Lib.hid (fun W (hW : Below w.heap.size w W) x hx h1 h2 => HUS.out W hW b ar b.recs.length capr x hx h1 h2)
        have HSB : Hid (∀ x, stayR ok l high now hor b x = (!ok || !useR (recsOf l) high b.time now hor x)) := fun x => rfl
        clear e2 hrec hb hbm
        obtain ⟨base, count, prod, seq, time, recs⟩ := b
        dsimp only at *
        generalize stayR ok l high now hor ⟨base, count, prod, seq, time, recs⟩ = st at *
        generalize hn : recs.length = n at *
        have HN := Lib.hid hn
        clear hn
        have hsz := RK.out.bel.size
        have hlenL : ((l.take k).map (thinRB ok l high now hor)).length = k := by rw [List.length_map, List.length_take]; omega
        have hva : u10.ownBlock ≠ some wr.heap.size := fun e => by have := (RK.out.sl.lt _ e).2; omega
        have hLa : ∀ q ∈ L, q.2.ownBlock ≠ some wr.heap.size := fun q hq e => by have := (RK.out.ap q hq _ e).1; omega
        have HVA := Lib.hid hva
        have HLA := Lib.hid hLa
        have RA := Lib.hid (RK.out.below ((Below.refl wr.heap.size wr).alloc (Nat.le_refl _) (.cells #[.int .i64 base, .int .i64 count, .int .i64 prod, .int .i64 seq, .int .i64 time, .slice ar n capr] 42)))
        have CA : Hid (Cl (wr.alloc (.cells #[.int .i64 base, .int .i64 count, .int .i64 prod, .int .i64 seq, .int .i64 time, .slice ar n capr] 42)) wr.heap.size [.int .i64 base, .int .i64 count, .int .i64 prod, .int .i64 seq, .int .i64 time, .slice ar n capr] 42) := Cl.new wr _ _
        have HSA : Hid ((wr.alloc (.cells #[.int .i64 base, .int .i64 count, .int .i64 prod, .int .i64 seq, .int .i64 time, .slice ar n capr] 42)).heap.size = wr.heap.size + 1) := World.size_alloc _ _
        clear hva hLa
        go_upto_region 7 with (fail)
        generalize wr.alloc (.cells #[.int .i64 base, .int .i64 count, .int .i64 prod, .int .i64 seq, .int .i64 time, .slice ar n capr] 42) = wa at *
        generalize (l.take k).map (thinRB ok l high now hor) = M at *
        clear p0 p1 p2 p3 p4 p5 RK
        generalize wr.heap.size = pb at *
        have S0 : Hid (Sl (wa.alloc (.cells #[] 44)) wa.heap.size 4 (.slice (some ⟨wa.heap.size, 0, none⟩) 0 0) ((recs.take 0).filter st).length (recCells ((recs.take 0).filter st))) := Sl.ofOwn (World.ownsRow_made wa #[] 0 (Nat.le_refl _) (by unfold maxLen; omega) rfl)
        have BB0 : Hid (Below wa.heap.size wa (wa.alloc (.cells #[] 44))) := (Below.refl _ _).alloc (Nat.le_refl _) _
        go_upto_region 8 with (fail)
        generalize wa.alloc (.cells #[] 44) = wb at *
        go_wp2
        go_loopw [13, 14] (fun tr tj wz => ∃ (j : Nat), tj = .int .i64 j ∧ j ≤ n ∧ Sl wz wa.heap.size 4 tr ((recs.take j).filter st).length (recCells ((recs.take j).filter st)) ∧ Below wa.heap.size wa wz) (fun _ tj _ => n - (intOf tj).toNat)
        case atStart => exact ⟨0, rfl, by omega, S0.out, BB0.out⟩
        case round =>
          obtain ⟨j, rfl, hj, hS, hbz⟩ := hrel
          have SJ := Lib.hid hS
          have BJ := Lib.hid hbz
          have BW := Lib.hid (bt RA.out.bel hbz)
          have CJ := Lib.hid (CA.out.below hbz)
          clear hS hbz S0 BB0
          have d0 := CJ.out.cell 0
          have d1 := CJ.out.cell 1
          have d2 := CJ.out.cell 2
          have d3 := CJ.out.cell 3
          have d4 := CJ.out.cell 4
          have d5 := CJ.out.cell 5
          simp only [List.getElem?_cons_zero, List.getElem?_cons_succ] at d0 d1 d2 d3 d4 d5
          by_cases hjl : j < n
          · obtain ⟨x, hx⟩ : ∃ x, recs[j]? = some x := ⟨recs[j]'(by have := HN.out; omega), by simp⟩
            have HFO := Lib.hid (filter_one st hx)
            have hkx := HKB.out x (List.mem_of_getElem? hx)
            have HGX := Lib.hid (fun W (hW : Below w.heap.size w W) => HRV.out.get hW hx)
            have HSX := Lib.hid (HSB.out x)
            have HUX := Lib.hid (fun W (hW : Below w.heap.size w W) h1 h2 => HU1.out W hW x hkx h1 h2)
            have HSO := Lib.hid hjl
            have hfl : ((recs.take j).filter st).length ≤ 1000000 := by
              have h1 := List.length_filter_le st (recs.take j)
              rw [List.length_take] at h1
              omega
            clear hx
            generalize st x = sx at *
            generalize (recs.take j).filter st = acc at *
            obtain ⟨g2, off2, cap3, he, hg2, q0, q1, q2, q3⟩ := HGX.out _ BW.out
            rw [HN.out] at he
            injection he with e1 e2 e3
            subst e1 e3
            clear e2
            obtain ⟨xo, xk, xv, xg⟩ := x
            unfold recV at HUX
            dsimp only at *
            unfold maxLen at hkx
            go_upto_region 11 with (fail)
            go_cut [63] (fun s63 wz => s63 = .bool sx ∧ Below wr.heap.size wr wz)
            case first =>
              cases hok : ok with
              | false =>
                rw [hok] at HSX
                have HE : Hid (sx = true) := by rw [HSX.out]; rfl
                subst hok
                have BD : Hid (Below wr.heap.size wr wr) := Below.refl _ _
                clear HSX HUX HOK HB HRL HKL HUS
                go_wp2
                go_quiet (fail)
                go_wp2
                go_meet
                case rel => exact ⟨by rw [HE.out], below_drewN BD.out _⟩
              | true =>
                obtain ⟨ht1, ht2⟩ := HOK.out hok
                rw [hok] at HSX
                have HSY : Hid (sx = !useR (recsOf l) high time now hor ⟨xo, xk, xv, xg⟩) := by rw [HSX.out]; rfl
                subst hok
                have I1 := Lib.hid (below_class (w := wr) fun W hW => HUX.out W (bt BW.out hW) ht1 ht2)
                generalize useR (recsOf l) high time now hor ⟨xo, xk, xv, xg⟩ = ux at *
                have m0 := fun x : BelowOf wr => x.cell d0
                have m1 := fun x : BelowOf wr => x.cell d1
                have m2 := fun x : BelowOf wr => x.cell d2
                have m3 := fun x : BelowOf wr => x.cell d3
                have m4 := fun x : BelowOf wr => x.cell d4
                have m5 := fun x : BelowOf wr => x.cell d5
                have n0 := fun x : BelowOf wr => x.cell q0
                have n1 := fun x : BelowOf wr => x.cell q1
                have n2 := fun x : BelowOf wr => x.cell q2
                have n3 := fun x : BelowOf wr => x.cell q3
                clear HSX HUX HOK HB HRL HKL HUS ht1 ht2 d0 d1 d2 d3 d4 d5 q0 q1 q2 q3
                go_wp2
                refine wp_region_below (by kernel_rfl) (by kernel_rfl) ?_
                repeat (go_big_quiet_step (fail))
                go_big_quiet_step ((exact I1.out _))
                repeat (go_big_quiet_step (fail))
                refine wpQuiet_nil ?_
                intro w9 hw9
                obtain ⟨⟨w9, hb9⟩, rfl⟩ := hw9
                have B9 := Lib.hid hb9
                clear hb9 n0 n1 n2 n3 m0 m1 m2 m3 m4 m5 I1
                go_wp2
                go_meet
                case rel => exact ⟨by rw [HSY.out], B9.out⟩
            case rest =>
              obtain ⟨rfl, hbx⟩ := hcut
              have BX := Lib.hid (BJ.out.trans (hbx.mono BJ.out.size))
              have BXW := Lib.hid (bt BW.out hbx)
              have SX := Lib.hid (SJ.out.kept (Keeps.below (fun _ => False) hbx) (fun _ _ => id))
              have e5 := (hbx.cell (p := ⟨pb, 5, none⟩) (World.block_lt_of_cell? wr _ d5)).trans d5
              have r0 := (hbx.cell (p := ⟨g2, off2 + j * 4, none⟩) (World.block_lt_of_cell? wr _ q0)).trans q0
              have r1 := (hbx.cell (p := ⟨g2, off2 + j * 4 + 1, none⟩) (World.block_lt_of_cell? wr _ q1)).trans q1
              have r2 := (hbx.cell (p := ⟨g2, off2 + j * 4 + 2, none⟩) (World.block_lt_of_cell? wr _ q2)).trans q2
              have r3 := (hbx.cell (p := ⟨g2, off2 + j * 4 + 3, none⟩) (World.block_lt_of_cell? wr _ q3)).trans q3
              clear hbx d0 d1 d2 d3 d4 d5 q0 q1 q2 q3 BJ BW SJ CJ HUX HSX
              have hjl := HSO.out
              cases sx with
              | false =>
                have SK : Hid (Sl wc wa.heap.size 4 u13 ((recs.take (j + 1)).filter st).length (recCells ((recs.take (j + 1)).filter st))) := by
                  have := SX.out
                  rw [Hid, HFO.out]
                  simpa using this
                clear e5 r0 r1 r2 r3
                go_wp2
                go_roundw
                case rel => exact ⟨j + 1, by go_num, by omega, SK.out, BX.out⟩
                case measure => simp [intOf]; omega
              | true =>
                have SA : Hid (Sl (wc.alloc (.cells #[.int .i64 xo, .string ⟨xk.toArray⟩, .string ⟨xv.toArray⟩, .bool xg] 44)) wa.heap.size 4 u13 acc.length (recCells acc)) := SX.out.kept (Keeps.alloc (fun _ => False) wc _) (fun _ _ => id)
                have hsrc : Hid (SrcIs (wc.alloc (.cells #[.int .i64 xo, .string ⟨xk.toArray⟩, .string ⟨xv.toArray⟩, .bool xg] 44)) 4 (.slice (some ⟨wc.heap.size, 0, none⟩) 1 1) 1 [.int .i64 xo, .string ⟨xk.toArray⟩, .string ⟨xv.toArray⟩, .bool xg]) := (Cl.new wc [.int .i64 xo, .string ⟨xk.toArray⟩, .string ⟨xv.toArray⟩, .bool xg] 44).src 4 1 1 rfl
                have hbw : wa.heap.size ≤ wc.heap.size := BX.out.size
                go_wp2_with (at_builtin; refine wpList_append_sl rfl (.tmp 64) (.tmp 70) 30 rfl 44 i1 _ 4 48 Try.underlying30 hi1 hy0 hy1 hy2 rfl (by decide) wa.heap.size _ _ _ rfl SA.out _ _ _ rfl hsrc.out ?_ ?_ ?_ ?_ ?_)
                · simp [Value.oneCell']
                · unfold maxLen; omega
                · omega
                · first | omega | (simp; omega)
                intro v' w4 hown hgr hnew
                have SK : Hid (Sl w4 wa.heap.size 4 v' ((recs.take (j + 1)).filter st).length (recCells ((recs.take (j + 1)).filter st))) := by
                  rw [Hid, HFO.out]
                  simp only [↓reduceIte]
                  rw [recCells_append, List.length_append]
                  exact hown
                have BK2 : Hid (Below wa.heap.size wa w4) := (BX.out.alloc BX.out.size (.cells #[.int .i64 xo, .string ⟨xk.toArray⟩, .string ⟨xv.toArray⟩, .bool xg] 44)).grown hgr (by rw [World.size_alloc]; omega) (fun kk hkk => (SX.out.lt kk hkk).1)
                clear hown hgr hnew SA hsrc e5 r0 r1 r2 r3
                go_wp2
                go_roundw
                case rel => exact ⟨j + 1, by go_num, by omega, SK.out, BK2.out⟩
                case measure => simp [intOf]; omega
          · obtain rfl : j = n := by omega
            have HFE : (recs.take j).filter st = recs.filter st := by rw [List.take_of_length_le (by have := HN.out; omega)]
            have hacl : (recs.filter st).length ≤ 1000000 := by
              have := List.length_filter_le st recs
              have := HN.out
              omega
            rw [HFE] at SJ
            clear HFE
            generalize recs.filter st = acc at *
            have hform := SJ.out.form
            obtain ⟨au, cu, hu, _⟩ := hform
            subst hu
            have hlo := SJ.out.lt
            have hAs := HSA.out
            have f5 := CJ.out.free 5
            have RJ := Lib.hid (RA.out.below BJ.out)
            have CB := Lib.hid (CJ.out.set 5 (.slice au acc.length cu))
            have RB := Lib.hid (RJ.out.other ⟨pb, 5, none⟩ (.slice au acc.length cu) HVA.out HLA.out hsz)
            have HRB : Hid (Recs (wr.setCell ⟨pb, 5, none⟩ (.slice au acc.length cu)) (.slice au acc.length cu) acc) := (Sl.recs' SJ.out rfl).keepS (S := fun j => j = pb) (Keeps.setCell _ _ _ _ rfl) (fun j hj e => by have := (hlo j hj).1; omega)
            have HAP : Hid (∀ j, (Value.slice au acc.length cu).ownBlock = some j → j < (wr.setCell ⟨pb, 5, none⟩ (.slice au acc.length cu)).heap.size ∧ u10.ownBlock ≠ some j) := fun j hj => by
              have h1 := hlo j hj
              refine ⟨by simpa [World.setCell] using h1.2, fun e => ?_⟩
              have := (RA.out.sl.lt _ e).2
              omega
            simp only [List.set_cons_zero, List.set_cons_succ] at CB
            go_upto_region 14 with (fail)
            generalize wr.setCell ⟨pb, 5, none⟩ (.slice au acc.length cu) = wd at *
            clear d0 d1 d2 d3 d4 d5 f5 CJ RJ SJ hlo
            have d0 := CB.out.cell 0
            have d1 := CB.out.cell 1
            have d2 := CB.out.cell 2
            have d3 := CB.out.cell 3
            have d4 := CB.out.cell 4
            have d5 := CB.out.cell 5
            simp only [List.getElem?_cons_zero, List.getElem?_cons_succ] at d0 d1 d2 d3 d4 d5
            have hsl : Hid (Sl (wd.alloc (.cells #[.int .i64 base, .int .i64 count, .int .i64 prod, .int .i64 seq, .int .i64 time, .slice au acc.length cu] 42)) w.heap.size 6 u10 k (bvCells L)) := by
              have := RB.out.sl.kept (Keeps.alloc (fun _ => False) wd (.cells #[.int .i64 base, .int .i64 count, .int .i64 prod, .int .i64 seq, .int .i64 time, .slice au acc.length cu] 42)) (fun _ _ => id)
              rwa [hlenL] at this
            have hsrc : Hid (SrcIs (wd.alloc (.cells #[.int .i64 base, .int .i64 count, .int .i64 prod, .int .i64 seq, .int .i64 time, .slice au acc.length cu] 42)) 6 (.slice (some ⟨wd.heap.size, 0, none⟩) 1 1) 1 [.int .i64 base, .int .i64 count, .int .i64 prod, .int .i64 seq, .int .i64 time, .slice au acc.length cu]) := (Cl.new wd [.int .i64 base, .int .i64 count, .int .i64 prod, .int .i64 seq, .int .i64 time, .slice au acc.length cu] 42).src 6 1 1 rfl
            have hbw : w.heap.size ≤ wd.heap.size := RB.out.bel.size
            go_wp2_with (at_builtin; refine wpList_append_sl rfl (.tmp 74) (.tmp 76) 22 rfl 42 i0 _ 6 64 Try.underlying22 hi hz0 hz1 hz2 rfl (by decide) w.heap.size _ _ _ rfl hsl.out _ _ _ rfl hsrc.out ?_ ?_ ?_ ?_ ?_)
            · simp [Value.oneCell']
            · unfold maxLen; omega
            · omega
            · simp; omega
            intro v' w4 hown hgr hnew
            have RP : Hid (RiW w w4 v' (L ++ [(⟨base, count, prod, seq, time, acc⟩, .slice au acc.length cu)]) ((l.take (k + 1)).map (thinRB ok l high now hor))) := by
              rw [Hid, HMO.out, HST.out]
              refine RB.out.push ⟨base, count, prod, seq, time, acc⟩ _ (.cells #[.int .i64 base, .int .i64 count, .int .i64 prod, .int .i64 seq, .int .i64 time, .slice au acc.length cu] 42) HRB.out HAP.out ?_ hgr (hnew.imp id (fun hn j hj => by have := hn j hj; simp; omega))
              rw [hlenL]; exact hown
            clear hown hgr hnew hsl hsrc
            go_wp2
            go_roundw
            case rel => exact ⟨k + 1, _, by go_num, by omega, RP.out⟩
            case measure => simp [intOf]; omega
      · obtain rfl : k = l.length := by omega
        have HP : Hid (BatsR w (l.map (thinRB ok l high now hor)) (.returned u10) wr) := by
          have := RK.out.bats
          rw [List.take_length] at this
          exact ⟨u10, rfl, this, RK.out.bel⟩
        go_wp2
        go_ret
        exact HP.out

end Go.Proofs.Ytccndbifnbmddaa
