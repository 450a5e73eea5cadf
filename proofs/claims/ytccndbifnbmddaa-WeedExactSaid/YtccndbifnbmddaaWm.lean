/-
  Fold, walked.
  Conditions: the model's bounds.
-/
import Derived.Test.YtccndbifnbmddaaWl
set_option linter.unusedVariables false
set_option linter.unusedSimpArgs false
namespace Go.Proofs.Ytccndbifnbmddaa
open Go.RowKit

/-- Whether a record becomes its key's. -/
def foldNew (upto : Int) (m : RM) (x : Cr.Rec) : Bool := decide (x.key ≠ []) && (decide (x.off < upto) && (match lookR m x.key with | none => true | some y => decide (y.off ≤ x.off)))
def foldStep (upto : Int) (m : RM) (x : Cr.Rec) : RM := if foldNew upto m x = true then updR m x.key x else m
def foldB (upto : Int) (m : RM) (b : Cr.Batch) : RM := b.recs.foldl (foldStep upto) m
def foldL (upto : Int) (l : List Cr.Batch) : RM := l.foldl (foldB upto) []
theorem updR_len (m : RM) (k : List UInt8) (x : Cr.Rec) : (updR m k x).length ≤ m.length + 1 := by
  induction m with
  | nil => simp [updR]
  | cons q r ih =>
    rw [updR]
    split
    · simp
    · simp only [List.length_cons]; omega
theorem foldStep_len (upto : Int) (m : RM) (x : Cr.Rec) : (foldStep upto m x).length ≤ m.length + 1 := by
  rw [foldStep]
  split
  · exact updR_len _ _ _
  · omega
theorem foldB_len (upto : Int) (m : RM) (b : Cr.Batch) : (foldB upto m b).length ≤ m.length + b.recs.length := by
  unfold foldB
  generalize b.recs = l
  induction l generalizing m with
  | nil => simp
  | cons x l ih =>
    have h1 := ih (foldStep upto m x)
    have h2 := foldStep_len upto m x
    simp only [List.foldl_cons, List.length_cons]
    omega
def totalR (l : List Cr.Batch) : Nat := (l.map (·.recs.length)).sum
theorem foldL_len (upto : Int) (l : List Cr.Batch) : (foldL upto l).length ≤ totalR l := by
  have : ∀ (l : List Cr.Batch) (m : RM), (l.foldl (foldB upto) m).length ≤ m.length + totalR l := by
    intro l
    induction l with
    | nil => intro m; simp [totalR]
    | cons b l ih =>
      intro m
      have h1 := ih (foldB upto m b)
      have h2 := foldB_len upto m b
      simp only [List.foldl_cons, totalR, List.map_cons, List.sum_cons] at h1 ⊢
      omega
  simpa [foldL] using this l []
theorem total_mem {l : List Cr.Batch} {b : Cr.Batch} (h : b ∈ l) : b.recs.length ≤ totalR l := by
  induction l with
  | nil => cases h
  | cons a l ih =>
    simp only [totalR, List.map_cons, List.sum_cons] at ih ⊢
    rcases List.mem_cons.1 h with rfl | h
    · omega
    · have := ih h; omega
theorem zeroRV : recV (default : Cr.Rec) = .agg #[.int .i64 0, .string ⟨#[]⟩, .string ⟨#[]⟩, .bool false] := rfl
def FoldPost (w : World) (m0 : RM) (e : Ending) (w' : World) : Prop := ∃ v f, e = .returned v ∧ f.Perm ((liveR m0).map (·.2)) ∧ SortedR f ∧ Recs w' v f ∧ Below w.heap.size w w'
set_option maxRecDepth 20000 in
set_option maxHeartbeats 6400000 in
theorem fold_any (l : List Cr.Batch) (upto : Int) (v : Value) (w : World) (h : Bats w v l) (hl : l.length ≤ maxLen) (ht : totalR l ≤ 1000000) (hkl : ∀ b ∈ l, ∀ x ∈ b.recs, x.key.length ≤ maxLen) :
    Calls Try.prog 16 #[v, .int .i64 upto] w (FoldPost w (foldL upto l)) := by
  have HB := Lib.hid h
  have HTL := Lib.hid ht
  have HKL := Lib.hid hkl
  obtain ⟨a, cap, rfl⟩ := h.form
  unfold maxLen at hl
  clear h hkl ht
  have hmk : ∀ w0 : World, (Instr.makeMap 58 none).run Try.prog w0 = .ok (.map (some w0.heap.size)) (w0.alloc (.map #[] 0)) := fun _ => rfl
  have M0 : Hid (Mp (w.alloc (.map #[] 0)) w.heap.size (rmap [])) := Mp.new w
  have B0 : Hid (Below w.heap.size w (w.alloc (.map #[] 0))) := (Below.refl _ _).alloc (Nat.le_refl _) _
  have HFL : Hid (foldL upto l = l.foldl (foldB upto) []) := rfl
  have HLN : Hid ((foldL upto l).length ≤ 1000000) := Nat.le_trans (foldL_len upto l) HTL.out
  go_enter Try.func16, Try.ntmps16
  go_wp2
  generalize w.alloc (.map #[] 0) = w0 at *
  generalize hm : w.heap.size = m at M0 ⊢
  have LE := Lib.hid (Nat.le_of_eq hm)
  clear hm hmk
  go_loopw [15] (fun i wr => ∃ k : Nat, i = .int .i64 k ∧ k ≤ l.length ∧ Mp wr m (rmap ((l.take k).foldl (foldB upto) [])) ∧ Below w.heap.size w wr) (fun i _ => l.length - (intOf i).toNat)
  case atStart => exact ⟨0, rfl, by omega, M0.out, B0.out⟩
  case round =>
    obtain ⟨k, rfl, hk, hM, hbel⟩ := hrel
    have HM := Lib.hid hM
    have HBL := Lib.hid hbel
    clear hM hbel M0 B0
    by_cases hlt : k < l.length
    · obtain ⟨b, hb⟩ : ∃ b, l[k]? = some b := ⟨l[k], by simp [hlt]⟩
      have HNX := Lib.hid (fold_take (foldB upto) [] l k b hb)
      have hbl : b.recs.length ≤ 1000000 := Nat.le_trans (total_mem (List.mem_of_getElem? hb)) HTL.out
      have HKB := Lib.hid (HKL.out b (List.mem_of_getElem? hb))
      obtain ⟨g, off, cap', rv, he, hg, p0, p1, p2, p3, p4, p5, hrec⟩ := HB.out.get HBL.out hb
      injection he with he1 he2 he3
      subst he1 he3
      have HRV := Lib.hid hrec
      obtain ⟨ar, capr, rfl⟩ := hrec.form
      generalize (l.take k).foldl (foldB upto) [] = m0 at *
      have CB : Hid (Cl (wr.alloc (.cells #[.int .i64 b.base, .int .i64 b.count, .int .i64 b.prod, .int .i64 b.seq, .int .i64 b.time, .slice ar b.recs.length capr] 42)) wr.heap.size [.int .i64 b.base, .int .i64 b.count, .int .i64 b.prod, .int .i64 b.seq, .int .i64 b.time, .slice ar b.recs.length capr] 42) := Cl.new wr _ _
      have M1 := Lib.hid (HM.out.below ((Below.refl wr.heap.size wr).alloc (Nat.le_refl _) (.cells #[.int .i64 b.base, .int .i64 b.count, .int .i64 b.prod, .int .i64 b.seq, .int .i64 b.time, .slice ar b.recs.length capr] 42)))
      have B1 := Lib.hid (bt HBL.out ((Below.refl wr.heap.size wr).alloc (Nat.le_refl _) (.cells #[.int .i64 b.base, .int .i64 b.count, .int .i64 b.prod, .int .i64 b.seq, .int .i64 b.time, .slice ar b.recs.length capr] 42)))
      clear he2 hb hrec
      go_upto_region 5 with (fail)
      generalize wr.alloc (.cells #[.int .i64 b.base, .int .i64 b.count, .int .i64 b.prod, .int .i64 b.seq, .int .i64 b.time, .slice ar b.recs.length capr] 42) = w1 at *
      have c5 := CB.out.cell 5
      clear p0 p1 p2 p3 p4 p5
      go_wp2
      have M10 : Hid (Mp w1 m (rmap ((b.recs.take 0).foldl (foldStep upto) m0))) := M1.out
      clear M1 HM c5
      go_loopw [22] (fun i wz => ∃ j : Nat, i = .int .i64 j ∧ j ≤ b.recs.length ∧ Mp wz m (rmap ((b.recs.take j).foldl (foldStep upto) m0)) ∧ Below w.heap.size w wz) (fun i _ => b.recs.length - (intOf i).toNat)
      case atStart => exact ⟨0, rfl, by omega, M10.out, B1.out⟩
      case round =>
        obtain ⟨j, rfl, hj, hM, hbel⟩ := hrel
        have HM := Lib.hid hM
        have HBZ := Lib.hid hbel
        clear hM hbel M10 B1 CB
        by_cases hjt : j < b.recs.length
        · obtain ⟨x, hx⟩ : ∃ x, b.recs[j]? = some x := ⟨b.recs[j], by simp [hjt]⟩
          have HNJ := Lib.hid (fold_take (foldStep upto) m0 b.recs j x hx)
          have hkx := HKB.out x (List.mem_of_getElem? hx)
          unfold maxLen at hkx
          obtain ⟨g2, off2, cap2, he, hg2, q0, q1, q2, q3⟩ := HRV.out.get HBZ.out hx
          injection he with he1 he2 he3
          subst he1 he3
          clear he2 hx
          generalize (b.recs.take j).foldl (foldStep upto) m0 = m1 at *
          obtain ⟨xo, xk, xv, xg⟩ := x
          dsimp only at *
          have C9 : Hid (Cl (wr.alloc (.cells #[.int .i64 xo, .string ⟨xk.toArray⟩, .string ⟨xv.toArray⟩, .bool xg] 44)) wr.heap.size [.int .i64 xo, .string ⟨xk.toArray⟩, .string ⟨xv.toArray⟩, .bool xg] 44) := Cl.new wr _ _
          have M2 := Lib.hid (HM.out.below ((Below.refl wr.heap.size wr).alloc (Nat.le_refl _) (.cells #[.int .i64 xo, .string ⟨xk.toArray⟩, .string ⟨xv.toArray⟩, .bool xg] 44)))
          have B2 := Lib.hid (bt HBZ.out ((Below.refl wr.heap.size wr).alloc (Nat.le_refl _) (.cells #[.int .i64 xo, .string ⟨xk.toArray⟩, .string ⟨xv.toArray⟩, .bool xg] 44)))
          go_upto_region 8 with (fail)
          generalize wr.alloc (.cells #[.int .i64 xo, .string ⟨xk.toArray⟩, .string ⟨xv.toArray⟩, .bool xg] 44) = w2 at *
          generalize wr.heap.size = p9 at *
          clear q0 q1 q2 q3 HM HBZ
          obtain ⟨y, is, hlk, hfl⟩ : ∃ (y : Cr.Rec) (is : Bool), (Instr.lookup 58 (.map (some m)) (.string ⟨xk.toArray⟩) true).run Try.prog w2 = .ok (.tuple #[recV y, .bool is]) w2 ∧ foldNew upto m1 ⟨xo, xk, xv, xg⟩ = (decide (xk ≠ []) && (decide (xo < upto) && (!is || decide (y.off ≤ xo)))) := by
            have hlk := M2.out.lookup_ok (P := Try.prog) (T := 58) Try.underlying58 Try.underlying9 xk (z := .agg #[.int .i64 0, .string ⟨#[]⟩, .string ⟨#[]⟩, .bool false]) zeroRec
            rw [look_rmap] at hlk
            cases hlo : lookR m1 xk with
            | none =>
              rw [hlo] at hlk
              exact ⟨⟨0, [], [], false⟩, false, hlk, by simp [foldNew, hlo]⟩
            | some z =>
              rw [hlo] at hlk
              exact ⟨z, true, hlk, by simp [foldNew, hlo]⟩
          have HFN := Lib.hid hfl
          clear hfl
          obtain ⟨yo, yk, yv, yg⟩ := y
          unfold recV at hlk
          dsimp only at hlk HFN
          have x0 := C9.out.cell 0
          have x1 := C9.out.cell 1
          have x2 := C9.out.cell 2
          have x3 := C9.out.cell 3
          simp only [List.getElem?_cons_zero, List.getElem?_cons_succ] at x0 x1 x2 x3
          have D9 : Hid (Cl (w2.alloc (.cells #[.int .i64 yo, .string ⟨yk.toArray⟩, .string ⟨yv.toArray⟩, .bool yg] 44)) w2.heap.size [.int .i64 yo, .string ⟨yk.toArray⟩, .string ⟨yv.toArray⟩, .bool yg] 44) := Cl.new w2 _ _
          have C3 := Lib.hid (C9.out.alloc (.cells #[.int .i64 yo, .string ⟨yk.toArray⟩, .string ⟨yv.toArray⟩, .bool yg] 44))
          have M3 := Lib.hid (M2.out.below ((Below.refl w2.heap.size w2).alloc (Nat.le_refl _) (.cells #[.int .i64 yo, .string ⟨yk.toArray⟩, .string ⟨yv.toArray⟩, .bool yg] 44)))
          have B3 := Lib.hid (bt B2.out ((Below.refl w2.heap.size w2).alloc (Nat.le_refl _) (.cells #[.int .i64 yo, .string ⟨yk.toArray⟩, .string ⟨yv.toArray⟩, .bool yg] 44)))
          go_upto_region 9 with (fail)
          generalize w2.alloc (.cells #[.int .i64 yo, .string ⟨yk.toArray⟩, .string ⟨yv.toArray⟩, .bool yg] 44) = w3 at *
          clear x0 x1 x2 x3 hlk M2 B2 C9
          generalize w2.heap.size = q9 at D9 ⊢
          have x0 := C3.out.cell 0
          have x1 := C3.out.cell 1
          have x2 := C3.out.cell 2
          have x3 := C3.out.cell 3
          have y0 := D9.out.cell 0
          simp only [List.getElem?_cons_zero, List.getElem?_cons_succ] at x0 x1 x2 x3 y0
          cases xk with
          | nil =>
            have HX : Hid (foldStep upto m1 ⟨xo, [], xv, xg⟩ = m1) := by rw [Hid, foldStep, if_neg (by rw [HFN.out]; simp)]
            go_wp2
            go_roundw
            case rel => exact ⟨j + 1, by go_num, by omega, by rw [HNJ.out, HX.out]; exact M3.out, B3.out⟩
            case measure => simp [intOf]; omega
          | cons c cs =>
            simp only [List.length_cons] at hkx
            by_cases hh : xo < upto
            · cases is with
              | false =>
                obtain ⟨w4, hup, hM4, hk4, hs4⟩ := M3.out.update (P := Try.prog) (T := 58) Try.underlying58 Try.underlying9 (c :: cs) (recV ⟨xo, c :: cs, xv, xg⟩)
                have M4 : Hid (Mp w4 m (rmap (updR m1 (c :: cs) ⟨xo, c :: cs, xv, xg⟩))) := by rw [← upd_rmap]; exact hM4
                have B4 := Lib.hid (B3.out.trans (hk4.toBelow B3.out.size (fun q hq e => by have := LE.out; omega)))
                have HX : Hid (foldStep upto m1 ⟨xo, c :: cs, xv, xg⟩ = updR m1 (c :: cs) ⟨xo, c :: cs, xv, xg⟩) := by rw [Hid, foldStep, if_pos (by rw [HFN.out]; simp [hh, hh])]
                unfold recV at hup
                dsimp only at hup
                clear hM4 hk4 hs4
                go_wp2
                go_roundw
                case rel => exact ⟨j + 1, by go_num, by omega, by rw [HNJ.out, HX.out]; exact M4.out, B4.out⟩
                case measure => simp [intOf]; omega
              | true =>
                by_cases hy : yo ≤ xo
                · obtain ⟨w4, hup, hM4, hk4, hs4⟩ := M3.out.update (P := Try.prog) (T := 58) Try.underlying58 Try.underlying9 (c :: cs) (recV ⟨xo, c :: cs, xv, xg⟩)
                  have M4 : Hid (Mp w4 m (rmap (updR m1 (c :: cs) ⟨xo, c :: cs, xv, xg⟩))) := by rw [← upd_rmap]; exact hM4
                  have B4 := Lib.hid (B3.out.trans (hk4.toBelow B3.out.size (fun q hq e => by have := LE.out; omega)))
                  have HX : Hid (foldStep upto m1 ⟨xo, c :: cs, xv, xg⟩ = updR m1 (c :: cs) ⟨xo, c :: cs, xv, xg⟩) := by rw [Hid, foldStep, if_pos (by rw [HFN.out]; simp [hh, hy])]
                  unfold recV at hup
                  dsimp only at hup
                  clear hM4 hk4 hs4
                  go_wp2
                  go_roundw
                  case rel => exact ⟨j + 1, by go_num, by omega, by rw [HNJ.out, HX.out]; exact M4.out, B4.out⟩
                  case measure => simp [intOf]; omega
                · have HX : Hid (foldStep upto m1 ⟨xo, c :: cs, xv, xg⟩ = m1) := by rw [Hid, foldStep, if_neg (by rw [HFN.out]; simp [hy])]
                  go_wp2
                  go_roundw
                  case rel => exact ⟨j + 1, by go_num, by omega, by rw [HNJ.out, HX.out]; exact M3.out, B3.out⟩
                  case measure => simp [intOf]; omega
            · have HX : Hid (foldStep upto m1 ⟨xo, c :: cs, xv, xg⟩ = m1) := by rw [Hid, foldStep, if_neg (by rw [HFN.out]; simp [hh])]
              go_wp2
              go_roundw
              case rel => exact ⟨j + 1, by go_num, by omega, by rw [HNJ.out, HX.out]; exact M3.out, B3.out⟩
              case measure => simp [intOf]; omega
        · obtain rfl : j = b.recs.length := by omega
          have HX : Hid ((b.recs.take b.recs.length).foldl (foldStep upto) m0 = foldB upto m0 b) := by rw [Hid, List.take_length]; rfl
          go_wp2
          go_roundw
          case rel => exact ⟨k + 1, by go_num, by omega, by rw [HNX.out, ← HX.out]; exact HM.out, HBZ.out⟩
          case measure => simp [intOf]; omega
    · obtain rfl : k = l.length := by omega
      have M5 : Hid (Mp wr m (rmap (foldL upto l))) := by
        have := HM.out
        rw [List.take_length, ← HFL.out] at this
        exact this
      have HD := Lib.hid (delgone_any m (foldL upto l) wr M5.out)
      generalize foldL upto l = mf at *
      clear HM HFL M5
      go_wp2_with fail
      refine HD.out.mono ?_
      rintro e w5 ⟨rfl, hM5, hk5⟩
      have M5 := Lib.hid hM5
      have B5 := Lib.hid (HBL.out.trans (hk5.toBelow HBL.out.size (fun q hq e => by have := LE.out; omega)))
      clear hM5 hk5 HD
      go_wp2_with fail
      refine (values_rec m w5).mono ?_
      rintro e w6 ⟨rfl, rfl⟩
      have C6 : Cl (w5.alloc (.cells #[.map (some m)] 58)) w5.heap.size [.map (some m)] 58 := Cl.new w5 _ _
      have M6 := M5.out.below ((Below.refl w5.heap.size w5).alloc (Nat.le_refl _) (.cells #[.map (some m)] 58))
      have B6 := Lib.hid (bt B5.out ((Below.refl w5.heap.size w5).alloc (Nat.le_refl _) (.cells #[.map (some m)] 58)))
      have hll : (liveR mf).length ≤ 1000000 := Nat.le_trans (List.length_filter_le _ _) HLN.out
      have HS := Lib.hid (sorted_rec w5.heap.size m (liveR mf) hll _ C6 M6)
      clear C6 M6
      generalize w5.alloc (.cells #[.map (some m)] 58) = w6 at *
      go_wp2_with fail
      refine HS.out.mono ?_
      rintro e w7 ⟨v7, f, rfl, hp, hs, hr, hb7⟩
      have H7 : Hid (f.Perm ((liveR mf).map (·.2)) ∧ SortedR f ∧ Recs w7 v7 f ∧ Below w.heap.size w w7) := ⟨hp, hs, hr, bt B6.out hb7⟩
      clear hp hs hr hb7 HS
      go_wp2
      go_ret
      exact ⟨v7, f, rfl, H7.out⟩

end Go.Proofs.Ytccndbifnbmddaa
