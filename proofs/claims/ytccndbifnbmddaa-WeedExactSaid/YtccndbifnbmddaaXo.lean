/-
  The document's Fold, walked (printed by wip/gen/mkfold.py).
  Conditions: the model's bounds.
-/
import Derived.Test.YtccndbifnbmddaaXn
set_option linter.unusedVariables false
set_option linter.unusedSimpArgs false
namespace Go.Proofs.Ytccndbifnbmddaa
open Go.RowKit

theorem push_row {B : Nat} {wa wz w4 : World} {v v' : Value} {out : List Cr.Rec} (hS : Sl wz B 4 v out.length (recCells out)) (hB : Below B wa wz) (y : Cr.Rec)
    (hown : Sl w4 B 4 v' (out.length + 1) (recCells out ++ [.int .i64 y.off, .string ⟨y.key.toArray⟩, .string ⟨y.val.toArray⟩, .bool y.gone]))
    (hgr : (wz.alloc (.cells #[.int .i64 y.off, .string ⟨y.key.toArray⟩, .string ⟨y.val.toArray⟩, .bool y.gone] 44)).grownBy w4 v.ownBlock) (hsz : B ≤ wz.heap.size := by omega) :
    Sl w4 B 4 v' (out ++ [y]).length (recCells (out ++ [y])) ∧ Below B wa w4 := by
  refine ⟨?_, (hB.alloc hsz (.cells #[.int .i64 y.off, .string ⟨y.key.toArray⟩, .string ⟨y.val.toArray⟩, .bool y.gone] 44)).grown hgr (by rw [World.size_alloc]; omega) (fun k hk => (hS.lt k hk).1)⟩
  rw [recCells_append, List.length_append]
  exact hown
theorem Sl.lower {w : World} {B B' size : Nat} {v : Value} {n : Nat} {xs : List Value} (h : Sl w B size v n xs) (hb : B' ≤ B) : Sl w B' size v n xs := by
  obtain ⟨h1, h2⟩ := h
  refine ⟨h1, ?_⟩
  rcases h2 with h2 | ⟨g, off, cap, e, hB, r⟩
  · exact .inl h2
  · exact .inr ⟨g, off, cap, e, Nat.le_trans hb hB, r⟩
theorem totalR_take {l : List Cr.Batch} {k : Nat} {b : Cr.Batch} (h : l[k]? = some b) : totalR (l.take (k + 1)) = totalR (l.take k) + b.recs.length := by
  obtain ⟨hk, rfl⟩ := List.getElem?_eq_some_iff.1 h
  rw [totalR, List.take_succ_eq_append_getElem hk, List.map_append, List.sum_append]
  simp [totalR]
theorem totalR_pre (l : List Cr.Batch) (k : Nat) : totalR (l.take k) ≤ totalR l := by
  have h : totalR l = totalR (l.take k) + totalR (l.drop k) := by
    unfold totalR
    rw [← List.sum_append, ← List.map_append, List.take_append_drop]
  omega
theorem refB_take (upto : Int) (l : List Cr.Batch) (k : Nat) : ((l.take k).foldl (refB upto) []).length ≤ totalR (l.take k) := by
  induction k with
  | zero => simp
  | succ k ih =>
    cases hb : l[k]? with
    | none =>
      have hk : l.length ≤ k := List.getElem?_eq_none_iff.1 hb
      rw [List.take_of_length_le (by omega)] at ih ⊢
      exact ih
    | some b =>
      rw [fold_take (refB upto) [] l k b hb, totalR_take hb]
      have h1 := refFoldl_len upto b.recs ((l.take k).foldl (refB upto) [])
      have h2 : (refB upto ((l.take k).foldl (refB upto) []) b).length = (b.recs.foldl (refStep upto) ((l.take k).foldl (refB upto) [])).length := rfl
      omega
theorem ref_len (upto : Int) {l : List Cr.Batch} {k : Nat} {b : Cr.Batch} (hb : l[k]? = some b) (j : Nat) : ((b.recs.take j).foldl (refStep upto) ((l.take k).foldl (refB upto) [])).length ≤ totalR l := by
  have h1 := refFoldl_len upto (b.recs.take j) ((l.take k).foldl (refB upto) [])
  have h2 := refB_take upto l k
  have h3 := totalR_take hb
  have h4 := totalR_pre l (k + 1)
  rw [List.length_take] at h1
  omega
theorem done_eq {x : Cr.Rec} {A out : List Cr.Rec} {j : Nat} {d e : Bool} (h : d = e) (hI : Ins x A j out d) : Ins x A j out e := h ▸ hI
set_option maxRecDepth 20000 in
set_option maxHeartbeats 12800000 in
theorem reffold_any (l : List Cr.Batch) (upto : Int) (v : Value) (w : World) (h : Bats w v l) (hl : l.length ≤ maxLen) (hrl : ∀ b ∈ l, b.recs.length ≤ maxLen) (ht : totalR l ≤ 1000000) (hkl : ∀ b ∈ l, ∀ y ∈ b.recs, y.key.length ≤ maxLen) :
    Calls Try.prog 17 #[v, .int .i64 upto] w fun e w' => ∃ v', e = .returned v' ∧ Recs w' v' (refFold upto l) ∧ Below w.heap.size w w' := by
  have HB := Lib.hid h
  have HRL := Lib.hid hrl
  have HKL := Lib.hid hkl
  have HKR : Hid (∀ x ∈ refL upto l, True) := fun _ _ => trivial
  obtain ⟨a, cap, rfl⟩ := h.form
  unfold maxLen at hl
  clear h hrl hkl
  obtain ⟨i1, hi1, hy0, hy1, hy2⟩ := info_parts recInfo
  have S0 : Hid (Sl (w.alloc (.cells #[] 44)) w.heap.size 4 (.slice (some ⟨w.heap.size, 0, none⟩) 0 0) (((l.take 0).foldl (refB upto) []).length) (recCells ((l.take 0).foldl (refB upto) []))) := Sl.ofOwn (World.ownsRow_made w #[] 0 (Nat.le_refl _) (by unfold maxLen; omega) rfl)
  have BB0 : Hid (Below w.heap.size w (w.alloc (.cells #[] 44))) := (Below.refl _ _).alloc (Nat.le_refl _) _
  go_enter Try.func17, Try.ntmps17
  go_upto_region 2 with (fail)
  generalize w.alloc (.cells #[] 44) = w1 at *
  go_upto_block 0 with (fail)
  go_cut [5] (fun s5 wz => Sl wz w.heap.size 4 s5 (refL upto l).length (recCells (refL upto l)) ∧ Below w.heap.size w wz)
  case first =>
    go_wp2
    go_loopw [5, 6] (fun tv ti wr => ∃ (i : Nat), ti = .int .i64 i ∧ i ≤ l.length ∧ Sl wr w.heap.size 4 tv ((l.take i).foldl (refB upto) []).length (recCells ((l.take i).foldl (refB upto) [])) ∧ Below w.heap.size w wr) (fun _ ti _ => l.length - (intOf ti).toNat)
    case atStart => exact ⟨0, rfl, by omega, S0.out, BB0.out⟩
    case round =>
      obtain ⟨i, rfl, hi, hS, hb⟩ := hrel
      have SI := Lib.hid hS
      have BI := Lib.hid hb
      clear hS hb S0 BB0
      by_cases hil : i < l.length
      · obtain ⟨b, hb⟩ : ∃ b, l[i]? = some b := ⟨l[i], by simp [hil]⟩
        have hbm := List.mem_of_getElem? hb
        have HFT := Lib.hid (fold_take (refB upto) [] l i b hb)
        have hrn := HRL.out b hbm
        have HKB := Lib.hid (HKL.out b hbm)
        have HLEN : Hid (∀ k, ((b.recs.take k).foldl (refStep upto) ((l.take i).foldl (refB upto) [])).length ≤ 1000000) := fun k => Nat.le_trans (ref_len upto hb k) ht
        have HSTR : Hid (∀ k, StrictR ((b.recs.take k).foldl (refStep upto) ((l.take i).foldl (refB upto) []))) := fun k => refL_strict upto l i b k
        have HGE := Lib.hid (fun W (hW : Below w.heap.size w W) => HB.out.get hW hb)
        unfold maxLen at hrn
        generalize (l.take i).foldl (refB upto) [] = A0 at *
        have SK0 : Hid (Sl wr w.heap.size 4 u5 ((b.recs.take 0).foldl (refStep upto) A0).length (recCells ((b.recs.take 0).foldl (refStep upto) A0))) := SI.out
        have BK0 := BI
        clear hb hbm SI BI
        go_wp2
        go_loopw [5, 7] (fun tv tk wr => ∃ (k : Nat), tk = .int .i64 k ∧ k ≤ b.recs.length ∧ Sl wr w.heap.size 4 tv ((b.recs.take k).foldl (refStep upto) A0).length (recCells ((b.recs.take k).foldl (refStep upto) A0)) ∧ Below w.heap.size w wr) (fun _ tk _ => b.recs.length - (intOf tk).toNat)
        case atStart => exact ⟨0, rfl, by omega, SK0.out, BK0.out⟩
        case round =>
          obtain ⟨k, rfl, hk, hS, hb⟩ := hrel
          have SK := Lib.hid hS
          have BK := Lib.hid hb
          clear hS hb SK0 BK0
          obtain ⟨g, off, cap2, rv, he, hg, p0, p1, p2, p3, p4, p5, hrec⟩ := HGE.out _ BK.out
          injection he with e1 e2 e3
          subst e1 e3
          have HRV := Lib.hid hrec
          obtain ⟨ar, capr, rfl⟩ := hrec.form
          clear e2 hrec p0 p1 p2 p3 p4
          by_cases hkl : k < b.recs.length
          · obtain ⟨x, hx⟩ : ∃ x, b.recs[k]? = some x := ⟨b.recs[k], by simp [hkl]⟩
            have HFX := Lib.hid (fold_take (refStep upto) A0 b.recs k x hx)
            have hkx := HKB.out x (List.mem_of_getElem? hx)
            have hAl := HLEN.out k
            have HST := Lib.hid (HSTR.out k)
            obtain ⟨g2, off2, cap3, he, hg2, q0, q1, q2, q3⟩ := HRV.out.get BK.out hx
            injection he with e1 e2 e3
            subst e1 e3
            clear e2 hx
            generalize (b.recs.take k).foldl (refStep upto) A0 = A at *
            have HRS : Hid (refStep upto A x = if x.key = [] ∨ upto ≤ x.off then A else insF x A) := rfl
            obtain ⟨xo, xk, xv, xg⟩ := x
            dsimp only at q0 q1 q2 q3 hkx HRS
            unfold maxLen at hkx
            have CA : Hid (Cl (wr.alloc (.cells #[.int .i64 xo, .string ⟨xk.toArray⟩, .string ⟨xv.toArray⟩, .bool xg] 44)) wr.heap.size [.int .i64 xo, .string ⟨xk.toArray⟩, .string ⟨xv.toArray⟩, .bool xg] 44) := Cl.new wr _ _
            have SA0 : Hid (Sl (wr.alloc (.cells #[.int .i64 xo, .string ⟨xk.toArray⟩, .string ⟨xv.toArray⟩, .bool xg] 44)) w.heap.size 4 u5 A.length (recCells A)) := SK.out.kept (Keeps.alloc (fun _ => False) wr _) (fun _ _ => id)
            have BA := Lib.hid (BK.out.alloc BK.out.size (.cells #[.int .i64 xo, .string ⟨xk.toArray⟩, .string ⟨xv.toArray⟩, .bool xg] 44))
            go_upto_region 9 with (fail)
            generalize wr.alloc (.cells #[.int .i64 xo, .string ⟨xk.toArray⟩, .string ⟨xv.toArray⟩, .bool xg] 44) = wa at *
            generalize wr.heap.size = p8 at *
            clear q0 q1 q2 q3 p5 SK BK
            have x0 := CA.out.cell 0
            have x1 := CA.out.cell 1
            have x2 := CA.out.cell 2
            have x3 := CA.out.cell 3
            simp only [List.getElem?_cons_zero, List.getElem?_cons_succ] at x0 x1 x2 x3
            cases hxk : xk with
            | nil =>
              have HX : Hid (refStep upto A ⟨xo, xk, xv, xg⟩ = A) := by rw [Hid, HRS.out, if_pos (.inl hxk)]
              subst hxk
              rw [HX.out] at HFX
              go_wp2
              go_roundw
              case rel => exact ⟨k + 1, by go_num, by omega, by rw [HFX.out]; exact SA0.out, BA.out⟩
              case measure => simp [intOf]; omega
            | cons c cs =>
            have hne : xk ≠ [] := by rw [hxk]; simp
            have hxl : (xk == []) = false := by rw [hxk]; rfl
            by_cases hup : xo < upto
            case neg =>
              have HX : Hid (refStep upto A ⟨xo, xk, xv, xg⟩ = A) := by rw [Hid, HRS.out, if_pos (.inr (by omega))]
              rw [HX.out] at HFX
              clear HRS HX hne hxl
              subst hxk
              go_wp2
              go_roundw
              case rel => exact ⟨k + 1, by go_num, by omega, by rw [HFX.out]; exact SA0.out, BA.out⟩
              case measure => simp [intOf]; omega
            rw [HRS.out, if_neg (by rintro (h | h); exact hne h; omega)] at HFX
            clear HRS hxl
            go_upto_region 10 with (fail)
            subst hxk
            clear hne
            generalize c :: cs = xk at *
            obtain ⟨au, cu, hu, _⟩ := SA0.out.form
            subst hu
            have RA := Lib.hid (Sl.recs' SA0.out rfl)
            have S1 : Hid (Sl (wa.alloc (.cells #[] 44)) wa.heap.size 4 (.slice (some ⟨wa.heap.size, 0, none⟩) 0 0) ([] : List Cr.Rec).length (recCells [])) := Sl.ofOwn (World.ownsRow_made wa #[] 0 (Nat.le_refl _) (by unfold maxLen; omega) rfl)
            have B1 : Hid (Below wa.heap.size wa (wa.alloc (.cells #[] 44))) := (Below.refl _ _).alloc (Nat.le_refl _) _
            go_upto_region 11 with (fail)
            generalize wa.alloc (.cells #[] 44) = wb at *
            clear x0 x1 x2 x3
            go_upto_block 4 with (fail)
            go_cut [9, 10] (fun s9 s10 wz => ∃ (out : List Cr.Rec) (done : Bool), s10 = .bool done ∧ Ins ⟨xo, xk, xv, xg⟩ A A.length out done ∧ Sl wz wa.heap.size 4 s9 out.length (recCells out) ∧ Below wa.heap.size wa wz)
            case first =>
              go_wp2
              go_loopw [9, 10, 11] (fun tv td tj wz => ∃ (j : Nat) (out : List Cr.Rec) (done : Bool), tj = .int .i64 j ∧ td = .bool done ∧ j ≤ A.length ∧ Ins ⟨xo, xk, xv, xg⟩ A j out done ∧ Sl wz wa.heap.size 4 tv out.length (recCells out) ∧ Below wa.heap.size wa wz) (fun _ _ tj _ => A.length - (intOf tj).toNat)
              case atStart => exact ⟨0, [], false, rfl, rfl, by omega, Ins.zero _ _, S1.out, B1.out⟩
              case round =>
                obtain ⟨j, out, done, rfl, rfl, hj, hI, hS, hb⟩ := hrel
                have IJ := Lib.hid hI
                have SJ := Lib.hid hS
                have BJ := Lib.hid hb
                have hol := hI.len
                clear hI hS hb S1 B1
                by_cases hjl : j < A.length
                · obtain ⟨y, hy⟩ : ∃ y, A[j]? = some y := ⟨A[j], by simp [hjl]⟩
                  have HAF := Lib.hid (fun (h : done = true) => Ins.after (done_eq h IJ.out) hy)
                  have HPA := Lib.hid (fun (h : done = false) h1 h2 => Ins.pass (done_eq h IJ.out) hy h1 h2)
                  have HHE := Lib.hid (fun (h : done = false) h1 => Ins.here HST.out (done_eq h IJ.out) hy h1)
                  have HSA := Lib.hid (fun (h : done = false) h1 h2 => Ins.same HST.out (done_eq h IJ.out) hy h1 h2)
                  have HGY := Lib.hid (fun W (hW : Below wa.heap.size wa W) => RA.out.get hW hy)
                  obtain ⟨g3, off3, cap4, he, hg3, r0, r1, r2, r3⟩ := RA.out.get BJ.out hy
                  injection he with e1 e2 e3
                  subst e1 e3
                  clear e2 hy
                  obtain ⟨yo, yk, yv, yg⟩ := y
                  dsimp only at r0 r1 r2 r3 HAF HPA HHE HSA
                  have CX := Lib.hid (CA.out.below BJ.out)
                  have x0 := CX.out.cell 0
                  have x1 := CX.out.cell 1
                  have x2 := CX.out.cell 2
                  have x3 := CX.out.cell 3
                  simp only [List.getElem?_cons_zero, List.getElem?_cons_succ] at x0 x1 x2 x3

                  have hby := bytesLess_eq xk yk
                  cases done with
                  | true =>
                    obtain ⟨hI2, hlt⟩ := HAF.out rfl
                    have I2 := Lib.hid hI2
                    have hbq : (yk == xk) = false := by
                      simp only [beq_eq_false_iff_ne]
                      intro e
                      rw [e] at hlt
                      exact List.lt_irrefl _ hlt
                    clear hby hI2 hlt HAF HPA HHE HSA
                    go_wp2
                    go_quiet (fail)
                    have S6 : Hid (Sl (wr.drewN nq) wa.heap.size 4 u9 out.length (recCells out)) := SJ.out
                    have B6 : Hid (Below wa.heap.size wa (wr.drewN nq)) := below_drewN BJ.out nq
                    generalize wr.drewN nq = w6 at *
                    clear r0 r1 r2 r3 x0 x1 x2 x3 CX
                    obtain ⟨g9, off9, cap9, he, hg9, r0, r1, r2, r3⟩ := HGY.out _ B6.out
                    injection he with e1 e2 e3
                    injection e1 with e1
                    injection e1 with e4 e5
                    subst e4 e5 e3
                    clear e2
                    try dsimp only at r0 r1 r2 r3
                    have CX := Lib.hid (CA.out.below B6.out)
                    have x0 := CX.out.cell 0
                    have x1 := CX.out.cell 1
                    have x2 := CX.out.cell 2
                    have x3 := CX.out.cell 3
                    simp only [List.getElem?_cons_zero, List.getElem?_cons_succ] at x0 x1 x2 x3
                    go_wp2
                    go_quiet (fail)
                    have S7 : Hid (Sl (w6.drewN nq) wa.heap.size 4 u9 out.length (recCells out)) := S6.out
                    have B7 : Hid (Below wa.heap.size wa (w6.drewN nq)) := below_drewN B6.out nq
                    generalize w6.drewN nq = w7 at *
                    clear r0 r1 r2 r3 x0 x1 x2 x3 CX
                    obtain ⟨g9, off9, cap9, he, hg9, r0, r1, r2, r3⟩ := HGY.out _ B7.out
                    injection he with e1 e2 e3
                    injection e1 with e1
                    injection e1 with e4 e5
                    subst e4 e5 e3
                    clear e2
                    try dsimp only at r0 r1 r2 r3
                    have CX := Lib.hid (CA.out.below B7.out)
                    have x0 := CX.out.cell 0
                    have x1 := CX.out.cell 1
                    have x2 := CX.out.cell 2
                    have x3 := CX.out.cell 3
                    simp only [List.getElem?_cons_zero, List.getElem?_cons_succ] at x0 x1 x2 x3
                    have SA : Hid (Sl (w7.alloc (.cells #[.int .i64 yo, .string ⟨yk.toArray⟩, .string ⟨yv.toArray⟩, .bool yg] 44)) wa.heap.size 4 u9 out.length (recCells out)) := S7.out.kept (Keeps.alloc (fun _ => False) w7 _) (fun _ _ => id)
                    have hsrc : Hid (SrcIs (w7.alloc (.cells #[.int .i64 yo, .string ⟨yk.toArray⟩, .string ⟨yv.toArray⟩, .bool yg] 44)) 4 (.slice (some ⟨w7.heap.size, 0, none⟩) 1 1) 1 [.int .i64 yo, .string ⟨yk.toArray⟩, .string ⟨yv.toArray⟩, .bool yg]) := (Cl.new w7 [.int .i64 yo, .string ⟨yk.toArray⟩, .string ⟨yv.toArray⟩, .bool yg] 44).src 4 1 1 rfl
                    have hbw : wa.heap.size ≤ w7.heap.size := B7.out.size
                    go_wp2_with (at_builtin; refine wpList_append_sl rfl (.tmp 94) (.tmp 99) 30 rfl 44 i1 _ 4 48 Try.underlying30 hi1 hy0 hy1 hy2 rfl (by decide) wa.heap.size _ _ _ rfl SA.out _ _ _ rfl hsrc.out ?_ ?_ ?_ ?_ ?_)
                    · simp [Value.oneCell']
                    · unfold maxLen; omega
                    · omega
                    · first | omega | (simp; omega)
                    intro v' w8 hown hgr hnew
                    obtain ⟨hp1, hp2⟩ := push_row S7.out B7.out ⟨yo, yk, yv, yg⟩ hown hgr
                    have S8 := Lib.hid hp1
                    have B8 := Lib.hid hp2
                    clear hown hgr hnew SA hsrc hp1 hp2 hbw
                    go_wp2
                    go_roundw
                    case rel => exact ⟨j + 1, _, true, by go_num, rfl, by omega, I2.out, S8.out, B8.out⟩
                    case measure => simp [intOf]; omega
                  | false =>
                    by_cases hlt : xk < yk
                    case pos =>
                      have I2 := Lib.hid (HHE.out rfl hlt)
                      have hbl : Op.bytesLess xk yk = true := by rw [hby]; exact decide_eq_true hlt
                      have hbq : (yk == xk) = false := by
                        simp only [beq_eq_false_iff_ne]
                        intro e
                        rw [e] at hlt
                        exact List.lt_irrefl _ hlt
                      clear hby hlt HAF HPA HHE HSA
                      go_wp2
                      go_quiet (fail)
                      have S6 : Hid (Sl (wr.drewN nq) wa.heap.size 4 u9 out.length (recCells out)) := SJ.out
                      have B6 : Hid (Below wa.heap.size wa (wr.drewN nq)) := below_drewN BJ.out nq
                      generalize wr.drewN nq = w6 at *
                      clear r0 r1 r2 r3 x0 x1 x2 x3 CX
                      obtain ⟨g9, off9, cap9, he, hg9, r0, r1, r2, r3⟩ := HGY.out _ B6.out
                      injection he with e1 e2 e3
                      injection e1 with e1
                      injection e1 with e4 e5
                      subst e4 e5 e3
                      clear e2
                      try dsimp only at r0 r1 r2 r3
                      have CX := Lib.hid (CA.out.below B6.out)
                      have x0 := CX.out.cell 0
                      have x1 := CX.out.cell 1
                      have x2 := CX.out.cell 2
                      have x3 := CX.out.cell 3
                      simp only [List.getElem?_cons_zero, List.getElem?_cons_succ] at x0 x1 x2 x3
                      have SA : Hid (Sl (w6.alloc (.cells #[.int .i64 xo, .string ⟨xk.toArray⟩, .string ⟨xv.toArray⟩, .bool xg] 44)) wa.heap.size 4 u9 out.length (recCells out)) := S6.out.kept (Keeps.alloc (fun _ => False) w6 _) (fun _ _ => id)
                      have hsrc : Hid (SrcIs (w6.alloc (.cells #[.int .i64 xo, .string ⟨xk.toArray⟩, .string ⟨xv.toArray⟩, .bool xg] 44)) 4 (.slice (some ⟨w6.heap.size, 0, none⟩) 1 1) 1 [.int .i64 xo, .string ⟨xk.toArray⟩, .string ⟨xv.toArray⟩, .bool xg]) := (Cl.new w6 [.int .i64 xo, .string ⟨xk.toArray⟩, .string ⟨xv.toArray⟩, .bool xg] 44).src 4 1 1 rfl
                      have hbw : wa.heap.size ≤ w6.heap.size := B6.out.size
                      go_wp2_with (at_builtin; refine wpList_append_sl rfl (.tmp 68) (.tmp 70) 30 rfl 44 i1 _ 4 48 Try.underlying30 hi1 hy0 hy1 hy2 rfl (by decide) wa.heap.size _ _ _ rfl SA.out _ _ _ rfl hsrc.out ?_ ?_ ?_ ?_ ?_)
                      · simp [Value.oneCell']
                      · unfold maxLen; omega
                      · omega
                      · first | omega | (simp; omega)
                      intro v' w7 hown hgr hnew
                      obtain ⟨hp1, hp2⟩ := push_row S6.out B6.out ⟨xo, xk, xv, xg⟩ hown hgr
                      have S7 := Lib.hid hp1
                      have B7 := Lib.hid hp2
                      clear hown hgr hnew SA hsrc hp1 hp2 hbw
                      clear r0 r1 r2 r3 x0 x1 x2 x3 CX
                      obtain ⟨g9, off9, cap9, he, hg9, r0, r1, r2, r3⟩ := HGY.out _ B7.out
                      injection he with e1 e2 e3
                      injection e1 with e1
                      injection e1 with e4 e5
                      subst e4 e5 e3
                      clear e2
                      try dsimp only at r0 r1 r2 r3
                      have CX := Lib.hid (CA.out.below B7.out)
                      have x0 := CX.out.cell 0
                      have x1 := CX.out.cell 1
                      have x2 := CX.out.cell 2
                      have x3 := CX.out.cell 3
                      simp only [List.getElem?_cons_zero, List.getElem?_cons_succ] at x0 x1 x2 x3
                      go_wp2
                      go_quiet (fail)
                      have S8 : Hid (Sl (w7.drewN nq) wa.heap.size 4 v' (out ++ [(⟨xo, xk, xv, xg⟩ : Cr.Rec)]).length (recCells (out ++ [(⟨xo, xk, xv, xg⟩ : Cr.Rec)]))) := S7.out
                      have B8 : Hid (Below wa.heap.size wa (w7.drewN nq)) := below_drewN B7.out nq
                      generalize w7.drewN nq = w8 at *
                      clear r0 r1 r2 r3 x0 x1 x2 x3 CX
                      obtain ⟨g9, off9, cap9, he, hg9, r0, r1, r2, r3⟩ := HGY.out _ B8.out
                      injection he with e1 e2 e3
                      injection e1 with e1
                      injection e1 with e4 e5
                      subst e4 e5 e3
                      clear e2
                      try dsimp only at r0 r1 r2 r3
                      have CX := Lib.hid (CA.out.below B8.out)
                      have x0 := CX.out.cell 0
                      have x1 := CX.out.cell 1
                      have x2 := CX.out.cell 2
                      have x3 := CX.out.cell 3
                      simp only [List.getElem?_cons_zero, List.getElem?_cons_succ] at x0 x1 x2 x3
                      have hol2 : (out ++ [(⟨xo, xk, xv, xg⟩ : Cr.Rec)]).length ≤ A.length + 2 := by rw [List.length_append]; simp; omega
                      generalize out ++ [(⟨xo, xk, xv, xg⟩ : Cr.Rec)] = out2 at *
                      have SA : Hid (Sl (w8.alloc (.cells #[.int .i64 yo, .string ⟨yk.toArray⟩, .string ⟨yv.toArray⟩, .bool yg] 44)) wa.heap.size 4 v' out2.length (recCells out2)) := S8.out.kept (Keeps.alloc (fun _ => False) w8 _) (fun _ _ => id)
                      have hsrc : Hid (SrcIs (w8.alloc (.cells #[.int .i64 yo, .string ⟨yk.toArray⟩, .string ⟨yv.toArray⟩, .bool yg] 44)) 4 (.slice (some ⟨w8.heap.size, 0, none⟩) 1 1) 1 [.int .i64 yo, .string ⟨yk.toArray⟩, .string ⟨yv.toArray⟩, .bool yg]) := (Cl.new w8 [.int .i64 yo, .string ⟨yk.toArray⟩, .string ⟨yv.toArray⟩, .bool yg] 44).src 4 1 1 rfl
                      have hbw : wa.heap.size ≤ w8.heap.size := B8.out.size
                      go_wp2_with (at_builtin; refine wpList_append_sl rfl (.tmp 94) (.tmp 99) 30 rfl 44 i1 _ 4 48 Try.underlying30 hi1 hy0 hy1 hy2 rfl (by decide) wa.heap.size _ _ _ rfl SA.out _ _ _ rfl hsrc.out ?_ ?_ ?_ ?_ ?_)
                      · simp [Value.oneCell']
                      · unfold maxLen; omega
                      · omega
                      · first | omega | (simp; omega)
                      intro v2 w9 hown hgr hnew
                      obtain ⟨hp1, hp2⟩ := push_row S8.out B8.out ⟨yo, yk, yv, yg⟩ hown hgr
                      have S9 := Lib.hid hp1
                      have B9 := Lib.hid hp2
                      clear hown hgr hnew SA hsrc hp1 hp2 hbw
                      go_wp2
                      go_roundw
                      case rel => exact ⟨j + 1, _, true, by go_num, rfl, by omega, I2.out, S9.out, B9.out⟩
                      case measure => simp [intOf]; omega
                    have hbl : Op.bytesLess xk yk = false := by rw [hby]; exact decide_eq_false hlt
                    by_cases heq : yk = xk
                    case pos =>
                      have hbq : (yk == xk) = true := by simp [heq]
                      have I2 := Lib.hid (HSA.out rfl hlt heq)
                      clear hby heq hlt HAF HPA HHE HSA
                      go_wp2
                      go_quiet (fail)
                      have S6 : Hid (Sl (wr.drewN nq) wa.heap.size 4 u9 out.length (recCells out)) := SJ.out
                      have B6 : Hid (Below wa.heap.size wa (wr.drewN nq)) := below_drewN BJ.out nq
                      generalize wr.drewN nq = w6 at *
                      clear r0 r1 r2 r3 x0 x1 x2 x3 CX
                      obtain ⟨g9, off9, cap9, he, hg9, r0, r1, r2, r3⟩ := HGY.out _ B6.out
                      injection he with e1 e2 e3
                      injection e1 with e1
                      injection e1 with e4 e5
                      subst e4 e5 e3
                      clear e2
                      try dsimp only at r0 r1 r2 r3
                      have CX := Lib.hid (CA.out.below B6.out)
                      have x0 := CX.out.cell 0
                      have x1 := CX.out.cell 1
                      have x2 := CX.out.cell 2
                      have x3 := CX.out.cell 3
                      simp only [List.getElem?_cons_zero, List.getElem?_cons_succ] at x0 x1 x2 x3
                      go_wp2
                      go_quiet (fail)
                      have S7 : Hid (Sl (w6.drewN nq) wa.heap.size 4 u9 out.length (recCells out)) := S6.out
                      have B7 : Hid (Below wa.heap.size wa (w6.drewN nq)) := below_drewN B6.out nq
                      generalize w6.drewN nq = w7 at *
                      clear r0 r1 r2 r3 x0 x1 x2 x3 CX
                      obtain ⟨g9, off9, cap9, he, hg9, r0, r1, r2, r3⟩ := HGY.out _ B7.out
                      injection he with e1 e2 e3
                      injection e1 with e1
                      injection e1 with e4 e5
                      subst e4 e5 e3
                      clear e2
                      try dsimp only at r0 r1 r2 r3
                      have CX := Lib.hid (CA.out.below B7.out)
                      have x0 := CX.out.cell 0
                      have x1 := CX.out.cell 1
                      have x2 := CX.out.cell 2
                      have x3 := CX.out.cell 3
                      simp only [List.getElem?_cons_zero, List.getElem?_cons_succ] at x0 x1 x2 x3
                      have CY : Hid (Cl (w7.alloc (.cells #[.int .i64 yo, .string ⟨yk.toArray⟩, .string ⟨yv.toArray⟩, .bool yg] 44)) w7.heap.size [.int .i64 yo, .string ⟨yk.toArray⟩, .string ⟨yv.toArray⟩, .bool yg] 44) := Cl.new w7 _ _
                      have SY : Hid (Sl (w7.alloc (.cells #[.int .i64 yo, .string ⟨yk.toArray⟩, .string ⟨yv.toArray⟩, .bool yg] 44)) wa.heap.size 4 u9 out.length (recCells out)) := S7.out.kept (Keeps.alloc (fun _ => False) w7 _) (fun _ _ => id)
                      have BY : Hid (Below wa.heap.size wa (w7.alloc (.cells #[.int .i64 yo, .string ⟨yk.toArray⟩, .string ⟨yv.toArray⟩, .bool yg] 44))) := B7.out.alloc B7.out.size _
                      have hyb : u9.ownBlock ≠ some w7.heap.size := fun e => by have := (S7.out.lt _ e).2; omega
                      have HYB := Lib.hid hyb
                      have hy8 := B7.out.size
                      clear hyb
                      go_upto_region 20 with (fail)
                      generalize w7.alloc (.cells #[.int .i64 yo, .string ⟨yk.toArray⟩, .string ⟨yv.toArray⟩, .bool yg] 44) = w8 at *
                      generalize w7.heap.size = p12 at *
                      clear r0 r1 r2 r3 x0 x1 x2 x3 CX S7 B7
                      have CX := Lib.hid (CA.out.below BY.out)
                      have x0 := CX.out.cell 0
                      have x1 := CX.out.cell 1
                      have x2 := CX.out.cell 2
                      have x3 := CX.out.cell 3
                      have y0 := CY.out.cell 0
                      have y1 := CY.out.cell 1
                      have y2 := CY.out.cell 2
                      have y3 := CY.out.cell 3
                      have z0 := CY.out.free 0
                      have z1 := CY.out.free 1
                      have z2 := CY.out.free 2
                      have z3 := CY.out.free 3
                      simp only [List.getElem?_cons_zero, List.getElem?_cons_succ] at x0 x1 x2 x3 y0 y1 y2 y3
                      by_cases hle : yo ≤ xo
                      case pos =>
                        rw [if_pos hle] at I2
                        obtain ⟨w9, hw9, C9, S9, B9⟩ : ∃ w9, (((w8.setCell ⟨p12, 0, none⟩ (.int .i64 xo)).setCell ⟨p12, 1, none⟩ (.string ⟨xk.toArray⟩)).setCell ⟨p12, 2, none⟩ (.string ⟨xv.toArray⟩)).setCell ⟨p12, 3, none⟩ (.bool xg) = w9 ∧ Hid (Cl w9 p12 [.int .i64 xo, .string ⟨xk.toArray⟩, .string ⟨xv.toArray⟩, .bool xg] 44) ∧ Hid (Sl w9 wa.heap.size 4 u9 out.length (recCells out)) ∧ Hid (Below wa.heap.size wa w9) :=
                          ⟨_, rfl, CY.out |>.set 0 (.int .i64 xo) |>.set 1 (.string ⟨xk.toArray⟩) |>.set 2 (.string ⟨xv.toArray⟩) |>.set 3 (.bool xg),
                            SY.out |>.otherCell ⟨p12, 0, none⟩ (.int .i64 xo) HYB.out |>.otherCell ⟨p12, 1, none⟩ (.string ⟨xk.toArray⟩) HYB.out |>.otherCell ⟨p12, 2, none⟩ (.string ⟨xv.toArray⟩) HYB.out |>.otherCell ⟨p12, 3, none⟩ (.bool xg) HYB.out,
                            BY.out |>.setCell (p := ⟨p12, 0, none⟩) hy8 (.int .i64 xo) |>.setCell (p := ⟨p12, 1, none⟩) hy8 (.string ⟨xk.toArray⟩) |>.setCell (p := ⟨p12, 2, none⟩) hy8 (.string ⟨xv.toArray⟩) |>.setCell (p := ⟨p12, 3, none⟩) hy8 (.bool xg)⟩
                        go_upto_region 22 with (fail)
                        first | rw [hw9] | skip
                        clear hw9 x0 x1 x2 x3 y0 y1 y2 y3 z0 z1 z2 z3 CX CY SY BY
                        have y0 := C9.out.cell 0
                        have y1 := C9.out.cell 1
                        have y2 := C9.out.cell 2
                        have y3 := C9.out.cell 3
                        simp only [List.getElem?_cons_zero, List.getElem?_cons_succ] at y0 y1 y2 y3
                        have SA : Hid (Sl (w9.alloc (.cells #[.int .i64 xo, .string ⟨xk.toArray⟩, .string ⟨xv.toArray⟩, .bool xg] 44)) wa.heap.size 4 u9 out.length (recCells out)) := S9.out.kept (Keeps.alloc (fun _ => False) w9 _) (fun _ _ => id)
                        have hsrc : Hid (SrcIs (w9.alloc (.cells #[.int .i64 xo, .string ⟨xk.toArray⟩, .string ⟨xv.toArray⟩, .bool xg] 44)) 4 (.slice (some ⟨w9.heap.size, 0, none⟩) 1 1) 1 [.int .i64 xo, .string ⟨xk.toArray⟩, .string ⟨xv.toArray⟩, .bool xg]) := (Cl.new w9 [.int .i64 xo, .string ⟨xk.toArray⟩, .string ⟨xv.toArray⟩, .bool xg] 44).src 4 1 1 rfl
                        have hbw : wa.heap.size ≤ w9.heap.size := B9.out.size
                        go_wp2_with (at_builtin; refine wpList_append_sl rfl (.tmp 90) (.tmp 92) 30 rfl 44 i1 _ 4 48 Try.underlying30 hi1 hy0 hy1 hy2 rfl (by decide) wa.heap.size _ _ _ rfl SA.out _ _ _ rfl hsrc.out ?_ ?_ ?_ ?_ ?_)
                        · simp [Value.oneCell']
                        · unfold maxLen; omega
                        · omega
                        · first | omega | (simp; omega)
                        intro v' wd hown hgr hnew
                        obtain ⟨hp1, hp2⟩ := push_row S9.out B9.out ⟨xo, xk, xv, xg⟩ hown hgr
                        have SD := Lib.hid hp1
                        have BD := Lib.hid hp2
                        clear hown hgr hnew SA hsrc hp1 hp2 hbw
                        go_wp2
                        go_roundw
                        case rel => exact ⟨j + 1, _, true, by go_num, rfl, by omega, I2.out, SD.out, BD.out⟩
                        case measure => simp [intOf]; omega
                      rw [if_neg hle] at I2
                      have SA : Hid (Sl (w8.alloc (.cells #[.int .i64 yo, .string ⟨yk.toArray⟩, .string ⟨yv.toArray⟩, .bool yg] 44)) wa.heap.size 4 u9 out.length (recCells out)) := SY.out.kept (Keeps.alloc (fun _ => False) w8 _) (fun _ _ => id)
                      have hsrc : Hid (SrcIs (w8.alloc (.cells #[.int .i64 yo, .string ⟨yk.toArray⟩, .string ⟨yv.toArray⟩, .bool yg] 44)) 4 (.slice (some ⟨w8.heap.size, 0, none⟩) 1 1) 1 [.int .i64 yo, .string ⟨yk.toArray⟩, .string ⟨yv.toArray⟩, .bool yg]) := (Cl.new w8 [.int .i64 yo, .string ⟨yk.toArray⟩, .string ⟨yv.toArray⟩, .bool yg] 44).src 4 1 1 rfl
                      have hbw : wa.heap.size ≤ w8.heap.size := BY.out.size
                      go_wp2_with (at_builtin; refine wpList_append_sl rfl (.tmp 90) (.tmp 92) 30 rfl 44 i1 _ 4 48 Try.underlying30 hi1 hy0 hy1 hy2 rfl (by decide) wa.heap.size _ _ _ rfl SA.out _ _ _ rfl hsrc.out ?_ ?_ ?_ ?_ ?_)
                      · simp [Value.oneCell']
                      · unfold maxLen; omega
                      · omega
                      · first | omega | (simp; omega)
                      intro v' wd hown hgr hnew
                      obtain ⟨hp1, hp2⟩ := push_row SY.out BY.out ⟨yo, yk, yv, yg⟩ hown hgr
                      have SD := Lib.hid hp1
                      have BD := Lib.hid hp2
                      clear hown hgr hnew SA hsrc hp1 hp2 hbw
                      go_wp2
                      go_roundw
                      case rel => exact ⟨j + 1, _, true, by go_num, rfl, by omega, I2.out, SD.out, BD.out⟩
                      case measure => simp [intOf]; omega
                    have hbq : (yk == xk) = false := by simp [heq]
                    have I2 := Lib.hid (HPA.out rfl hlt heq)
                    clear hby heq hlt HAF HPA HHE HSA
                    go_wp2
                    go_quiet (fail)
                    have S6 : Hid (Sl (wr.drewN nq) wa.heap.size 4 u9 out.length (recCells out)) := SJ.out
                    have B6 : Hid (Below wa.heap.size wa (wr.drewN nq)) := below_drewN BJ.out nq
                    generalize wr.drewN nq = w6 at *
                    clear r0 r1 r2 r3 x0 x1 x2 x3 CX
                    obtain ⟨g9, off9, cap9, he, hg9, r0, r1, r2, r3⟩ := HGY.out _ B6.out
                    injection he with e1 e2 e3
                    injection e1 with e1
                    injection e1 with e4 e5
                    subst e4 e5 e3
                    clear e2
                    try dsimp only at r0 r1 r2 r3
                    have CX := Lib.hid (CA.out.below B6.out)
                    have x0 := CX.out.cell 0
                    have x1 := CX.out.cell 1
                    have x2 := CX.out.cell 2
                    have x3 := CX.out.cell 3
                    simp only [List.getElem?_cons_zero, List.getElem?_cons_succ] at x0 x1 x2 x3
                    go_wp2
                    go_quiet (fail)
                    have S7 : Hid (Sl (w6.drewN nq) wa.heap.size 4 u9 out.length (recCells out)) := S6.out
                    have B7 : Hid (Below wa.heap.size wa (w6.drewN nq)) := below_drewN B6.out nq
                    generalize w6.drewN nq = w7 at *
                    clear r0 r1 r2 r3 x0 x1 x2 x3 CX
                    obtain ⟨g9, off9, cap9, he, hg9, r0, r1, r2, r3⟩ := HGY.out _ B7.out
                    injection he with e1 e2 e3
                    injection e1 with e1
                    injection e1 with e4 e5
                    subst e4 e5 e3
                    clear e2
                    try dsimp only at r0 r1 r2 r3
                    have CX := Lib.hid (CA.out.below B7.out)
                    have x0 := CX.out.cell 0
                    have x1 := CX.out.cell 1
                    have x2 := CX.out.cell 2
                    have x3 := CX.out.cell 3
                    simp only [List.getElem?_cons_zero, List.getElem?_cons_succ] at x0 x1 x2 x3
                    have SA : Hid (Sl (w7.alloc (.cells #[.int .i64 yo, .string ⟨yk.toArray⟩, .string ⟨yv.toArray⟩, .bool yg] 44)) wa.heap.size 4 u9 out.length (recCells out)) := S7.out.kept (Keeps.alloc (fun _ => False) w7 _) (fun _ _ => id)
                    have hsrc : Hid (SrcIs (w7.alloc (.cells #[.int .i64 yo, .string ⟨yk.toArray⟩, .string ⟨yv.toArray⟩, .bool yg] 44)) 4 (.slice (some ⟨w7.heap.size, 0, none⟩) 1 1) 1 [.int .i64 yo, .string ⟨yk.toArray⟩, .string ⟨yv.toArray⟩, .bool yg]) := (Cl.new w7 [.int .i64 yo, .string ⟨yk.toArray⟩, .string ⟨yv.toArray⟩, .bool yg] 44).src 4 1 1 rfl
                    have hbw : wa.heap.size ≤ w7.heap.size := B7.out.size
                    go_wp2_with (at_builtin; refine wpList_append_sl rfl (.tmp 94) (.tmp 99) 30 rfl 44 i1 _ 4 48 Try.underlying30 hi1 hy0 hy1 hy2 rfl (by decide) wa.heap.size _ _ _ rfl SA.out _ _ _ rfl hsrc.out ?_ ?_ ?_ ?_ ?_)
                    · simp [Value.oneCell']
                    · unfold maxLen; omega
                    · omega
                    · first | omega | (simp; omega)
                    intro v' w8 hown hgr hnew
                    obtain ⟨hp1, hp2⟩ := push_row S7.out B7.out ⟨yo, yk, yv, yg⟩ hown hgr
                    have S8 := Lib.hid hp1
                    have B8 := Lib.hid hp2
                    clear hown hgr hnew SA hsrc hp1 hp2 hbw
                    go_wp2
                    go_roundw
                    case rel => exact ⟨j + 1, _, false, by go_num, rfl, by omega, I2.out, S8.out, B8.out⟩
                    case measure => simp [intOf]; omega
                · obtain rfl : j = A.length := by omega
                  go_wp2
                  go_meet
                  case rel => exact ⟨out, done, rfl, IJ.out, SJ.out, BJ.out⟩
            case rest =>

              obtain ⟨out, done, rfl, hI, hS, hb⟩ := hcut
              have SJ := Lib.hid hS
              have BJ := Lib.hid hb
              have hol := hI.len
              have BW : Hid (Below w.heap.size w wc) := BA.out.trans (hb.mono BA.out.size)
              have hba := BA.out.size
              cases done with
              | true =>
                have hE := hI.endYes
                have SN : Hid (Sl wc w.heap.size 4 u9 ((b.recs.take (k + 1)).foldl (refStep upto) A0).length (recCells ((b.recs.take (k + 1)).foldl (refStep upto) A0))) := by rw [Hid, HFX.out, ← hE]; exact SJ.out.lower hba
                clear hI hS hb
                go_wp2
                go_roundw
                case rel => exact ⟨k + 1, by go_num, by omega, SN.out, BW.out⟩
                case measure => simp [intOf]; omega
              | false =>
                have hE := hI.endNo
                have CX := Lib.hid (CA.out.below hb)
                have x0 := CX.out.cell 0
                have x1 := CX.out.cell 1
                have x2 := CX.out.cell 2
                have x3 := CX.out.cell 3
                simp only [List.getElem?_cons_zero, List.getElem?_cons_succ] at x0 x1 x2 x3
                clear hI hS hb
                have SA : Hid (Sl (wc.alloc (.cells #[.int .i64 xo, .string ⟨xk.toArray⟩, .string ⟨xv.toArray⟩, .bool xg] 44)) wa.heap.size 4 u9 out.length (recCells out)) := SJ.out.kept (Keeps.alloc (fun _ => False) wc _) (fun _ _ => id)
                have hsrc : Hid (SrcIs (wc.alloc (.cells #[.int .i64 xo, .string ⟨xk.toArray⟩, .string ⟨xv.toArray⟩, .bool xg] 44)) 4 (.slice (some ⟨wc.heap.size, 0, none⟩) 1 1) 1 [.int .i64 xo, .string ⟨xk.toArray⟩, .string ⟨xv.toArray⟩, .bool xg]) := (Cl.new wc [.int .i64 xo, .string ⟨xk.toArray⟩, .string ⟨xv.toArray⟩, .bool xg] 44).src 4 1 1 rfl
                have hbw : wa.heap.size ≤ wc.heap.size := BJ.out.size
                go_wp2_with (at_builtin; refine wpList_append_sl rfl (.tmp 103) (.tmp 105) 30 rfl 44 i1 _ 4 48 Try.underlying30 hi1 hy0 hy1 hy2 rfl (by decide) wa.heap.size _ _ _ rfl SA.out _ _ _ rfl hsrc.out ?_ ?_ ?_ ?_ ?_)
                · simp [Value.oneCell']
                · unfold maxLen; omega
                · omega
                · first | omega | (simp; omega)
                intro v' w8 hown hgr hnew
                obtain ⟨hp1, hp2⟩ := push_row SJ.out BJ.out ⟨xo, xk, xv, xg⟩ hown hgr
                have S8 := Lib.hid hp1
                have B8 := Lib.hid hp2
                clear hown hgr hnew SA hsrc hp1 hp2 hbw
                have SN : Hid (Sl w8 w.heap.size 4 v' ((b.recs.take (k + 1)).foldl (refStep upto) A0).length (recCells ((b.recs.take (k + 1)).foldl (refStep upto) A0))) := by rw [Hid, HFX.out, ← hE]; exact S8.out.lower hba
                have BN : Hid (Below w.heap.size w w8) := BA.out.trans (B8.out.mono hba)
                go_wp2
                go_roundw
                case rel => exact ⟨k + 1, by go_num, by omega, SN.out, BN.out⟩
                case measure => simp [intOf]; omega
          · obtain rfl : k = b.recs.length := by omega
            have SN : Hid (Sl wr w.heap.size 4 u5 ((l.take (i + 1)).foldl (refB upto) []).length (recCells ((l.take (i + 1)).foldl (refB upto) []))) := by
              have := SK.out
              rw [List.take_length] at this
              rw [Hid, HFT.out]
              exact this
            go_wp2
            go_roundw
            case rel => exact ⟨i + 1, by go_num, by omega, SN.out, BK.out⟩
            case measure => simp [intOf]; omega
      · obtain rfl : i = l.length := by omega
        have SN : Hid (Sl wr w.heap.size 4 u5 (refL upto l).length (recCells (refL upto l))) := by
          have := SI.out
          rw [List.take_length] at this
          exact this
        go_wp2
        go_meet
        case rel => exact ⟨SN.out, BI.out⟩
  case rest =>
    obtain ⟨hS, hb⟩ := hcut

    have SW := Lib.hid hS
    have BW := Lib.hid hb
    have hAl : (refL upto l).length ≤ 1000000 := by
      have h1 := refB_take upto l l.length
      rw [List.take_length] at h1
      exact Nat.le_trans h1 ht
    clear hS hb
    generalize HRF : refFold upto l = F
    have HFF : Hid (F = (refL upto l).filter (fun x => !x.gone)) := HRF.symm
    have HR0 := Lib.hid HRF
    clear HRF
    generalize refL upto l = A at *
    obtain ⟨au, cu, hu, _⟩ := SW.out.form
    subst hu
    have RA := Lib.hid (Sl.recs' SW.out rfl)
    have S1 : Hid (Sl (wc.alloc (.cells #[] 44)) wc.heap.size 4 (.slice (some ⟨wc.heap.size, 0, none⟩) 0 0) ((A.take 0).filter (fun x => !x.gone)).length (recCells ((A.take 0).filter (fun x => !x.gone)))) := Sl.ofOwn (World.ownsRow_made wc #[] 0 (Nat.le_refl _) (by unfold maxLen; omega) rfl)
    have B1 : Hid (Below wc.heap.size wc (wc.alloc (.cells #[] 44))) := (Below.refl _ _).alloc (Nat.le_refl _) _
    go_upto_region 29 with (fail)
    generalize wc.alloc (.cells #[] 44) = wb at *
    go_wp2
    go_loopw [13, 14] (fun tv tj wz => ∃ (j : Nat), tj = .int .i64 j ∧ j ≤ A.length ∧ Sl wz wc.heap.size 4 tv ((A.take j).filter (fun x => !x.gone)).length (recCells ((A.take j).filter (fun x => !x.gone))) ∧ Below wc.heap.size wc wz) (fun _ tj _ => A.length - (intOf tj).toNat)
    case atStart => exact ⟨0, rfl, by omega, S1.out, B1.out⟩
    case round =>
      obtain ⟨j, rfl, hj, hS, hb⟩ := hrel
      have SJ := Lib.hid hS
      have BJ := Lib.hid hb
      clear hS hb S1 B1
      by_cases hjl : j < A.length
      · obtain ⟨y, hy⟩ : ∃ y, A[j]? = some y := ⟨A[j], by simp [hjl]⟩
        have HFO := Lib.hid (filter_one (fun x => !x.gone) hy)
        have hfl : ((A.take j).filter (fun x => !x.gone)).length ≤ 1000000 := by
          have h1 := List.length_filter_le (fun x => !x.gone) (A.take j)
          rw [List.length_take] at h1
          omega
        obtain ⟨g3, off3, cap4, he, hg3, r0, r1, r2, r3⟩ := RA.out.get BJ.out hy
        injection he with e1 e2 e3
        subst e1 e3
        clear e2 hy
        generalize (A.take j).filter (fun x => !x.gone) = out at *
        obtain ⟨yo, yk, yv, yg⟩ := y
        dsimp only at r0 r1 r2 r3 HFO
        cases yg with
        | true =>
          have SN : Hid (Sl wr wc.heap.size 4 u13 ((A.take (j + 1)).filter (fun x => !x.gone)).length (recCells ((A.take (j + 1)).filter (fun x => !x.gone)))) := by
            have := SJ.out
            rw [Hid, HFO.out]
            simpa using this
          go_wp2
          go_roundw
          case rel => exact ⟨j + 1, by go_num, by omega, SN.out, BJ.out⟩
          case measure => simp [intOf]; omega
        | false =>
          have SA : Hid (Sl (wr.alloc (.cells #[.int .i64 yo, .string ⟨yk.toArray⟩, .string ⟨yv.toArray⟩, .bool false] 44)) wc.heap.size 4 u13 out.length (recCells out)) := SJ.out.kept (Keeps.alloc (fun _ => False) wr _) (fun _ _ => id)
          have hsrc : Hid (SrcIs (wr.alloc (.cells #[.int .i64 yo, .string ⟨yk.toArray⟩, .string ⟨yv.toArray⟩, .bool false] 44)) 4 (.slice (some ⟨wr.heap.size, 0, none⟩) 1 1) 1 [.int .i64 yo, .string ⟨yk.toArray⟩, .string ⟨yv.toArray⟩, .bool false]) := (Cl.new wr [.int .i64 yo, .string ⟨yk.toArray⟩, .string ⟨yv.toArray⟩, .bool false] 44).src 4 1 1 rfl
          have hbw : wc.heap.size ≤ wr.heap.size := BJ.out.size
          go_wp2_with (at_builtin; refine wpList_append_sl rfl (.tmp 121) (.tmp 126) 30 rfl 44 i1 _ 4 48 Try.underlying30 hi1 hy0 hy1 hy2 rfl (by decide) wc.heap.size _ _ _ rfl SA.out _ _ _ rfl hsrc.out ?_ ?_ ?_ ?_ ?_)
          · simp [Value.oneCell']
          · unfold maxLen; omega
          · omega
          · first | omega | (simp; omega)
          intro v' w8 hown hgr hnew
          obtain ⟨hp1, hp2⟩ := push_row SJ.out BJ.out ⟨yo, yk, yv, false⟩ hown hgr
          have S8 := Lib.hid hp1
          have B8 := Lib.hid hp2
          clear hown hgr hnew SA hsrc hp1 hp2 hbw
          have SN : Hid (Sl w8 wc.heap.size 4 v' ((A.take (j + 1)).filter (fun x => !x.gone)).length (recCells ((A.take (j + 1)).filter (fun x => !x.gone)))) := by
            have := S8.out
            rw [Hid, HFO.out]
            simpa using this
          go_wp2
          go_roundw
          case rel => exact ⟨j + 1, by go_num, by omega, SN.out, B8.out⟩
          case measure => simp [intOf]; omega
      · obtain rfl : j = A.length := by omega
        have RF : Hid (Recs wr u13 F) := by
          have := Sl.recs' SJ.out rfl
          rw [List.take_length, ← HFF.out] at this
          exact this
        have BF : Hid (Below w.heap.size w wr) := BW.out.trans (BJ.out.mono BW.out.size)
        go_wp2
        go_ret
        refine ⟨_, rfl, ?_, BF.out⟩
        rw [HR0.out]
        exact RF.out

end Go.Proofs.Ytccndbifnbmddaa
