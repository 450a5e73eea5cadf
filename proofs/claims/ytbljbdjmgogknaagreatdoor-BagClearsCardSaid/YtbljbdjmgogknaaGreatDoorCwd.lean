/-
  Crate: Same, walked, with the library's Equal under it; the document's Same.
  Conditions: none.
-/
import Derived.Test.YtbljbdjmgogknaaGreatDoorCwc
import Derived.Laws.StructEq
import Derived.BigQuiet
set_option linter.unusedVariables false
set_option linter.unusedSimpArgs false
namespace Go.Proofs.YtbljbdjmgogknaaGreatDoor
open Go.RowKit

set_option maxHeartbeats 800000 in
theorem rec_neq (x0 y0 : Int) (xk yk xv yv : List UInt8) (xg yg : Bool) (w : World) :
    (binOp .neq 67 (.agg #[.int .i64 x0, .string ⟨xk.toArray⟩, .string ⟨xv.toArray⟩, .bool xg]) (.agg #[.int .i64 y0, .string ⟨yk.toArray⟩, .string ⟨yv.toArray⟩, .bool yg])).run Tryz.prog w = .ok (.bool (!Cr.recEq ⟨x0, xk, xv, xg⟩ ⟨y0, yk, yv, yg⟩)) w := by
  have hS : Tryz.prog.underlying 67 = some (.struct (Tryz.prog.fieldsOf 67)) := by kernel_rfl
  have hp : Tryz.prog.stoodInHeld 67 = false := by kernel_rfl
  rw [run_neq_struct, show (10000 : Nat) = 9999 + 1 from rfl, run_equalIn_agg w 9999 67 _ _ hS hp]
  simp only [Program.fieldsOf, Tryz.underlying67]
  have u1 := Tryz.underlying3
  have u2 := Tryz.underlying9
  have u3 := Tryz.underlying4
  have a1 := Tryz.isAgg3
  have a2 := Tryz.isAgg9
  have a3 := Tryz.isAgg4
  have z1 := Tryz.sizeOf3
  have z2 := Tryz.sizeOf9
  have z3 := Tryz.sizeOf4
  go_simp

  unfold Cr.recEq
  by_cases h1 : x0 = y0 <;> by_cases h2 : xk = yk <;> by_cases h3 : xv = yv <;> by_cases h4 : xg = yg <;> simp [h1, h2, h3, h4]
theorem recsEq_len {l r : List Cr.Rec} (h : l.length ≠ r.length) : Cr.recsEq l r = false := by
  cases hc : Cr.recsEq l r with
  | false => rfl
  | true => exact absurd (congrArg List.length (Cr.recsEq_iff.1 hc)) h
theorem recsEq_step {l r : List Cr.Rec} {k : Nat} {x y : Cr.Rec} (hx : l[k]? = some x) (hy : r[k]? = some y) : Cr.recsEq (l.drop k) (r.drop k) = (Cr.recEq x y && Cr.recsEq (l.drop (k + 1)) (r.drop (k + 1))) := by
  obtain ⟨hk, rfl⟩ := List.getElem?_eq_some_iff.1 hx
  obtain ⟨hk2, rfl⟩ := List.getElem?_eq_some_iff.1 hy
  rw [List.drop_eq_getElem_cons hk, List.drop_eq_getElem_cons hk2]
  rfl
set_option maxHeartbeats 800000 in
theorem equal_any (l r : List Cr.Rec) (hl : l.length ≤ maxLen) (hr : r.length ≤ maxLen) (lv rv : Value) (w : World) (h1 : Recs w lv l) (h2 : Recs w rv r) :
    Calls Tryz.prog 64 #[lv, rv] w fun e w' => e = .returned (.bool (Cr.recsEq l r)) ∧ Below w.heap.size w w' := by
  have H1 := Lib.hid h1
  have H2 := Lib.hid h2
  obtain ⟨a1, cap1, rfl⟩ := h1.form
  obtain ⟨a2, cap2, rfl⟩ := h2.form
  unfold maxLen at hl hr
  clear h1 h2
  by_cases hlen : l.length = r.length
  · go_enter Tryz.func64, Tryz.ntmps64
    go_wp2
    go_loopw [13] (fun i wr => ∃ k : Nat, i = .int .i64 k ∧ k ≤ l.length ∧ Cr.recsEq l r = Cr.recsEq (l.drop k) (r.drop k) ∧ Below w.heap.size w wr) (fun i _ => l.length - (intOf i).toNat)
    case atStart => exact ⟨0, rfl, by omega, rfl, Below.refl _ _⟩
    case round =>
      obtain ⟨k, rfl, hk, hq, hb⟩ := hrel
      have HQ := Lib.hid hq
      have HB := Lib.hid hb
      clear hq hb
      by_cases hlt : k < l.length
      · obtain ⟨x, hx⟩ : ∃ x, l[k]? = some x := ⟨l[k], by simp [hlt]⟩
        obtain ⟨y, hy⟩ : ∃ y, r[k]? = some y := ⟨r[k]'(by omega), by simp [← hlen, hlt]⟩
        have HS := Lib.hid (recsEq_step hx hy)
        obtain ⟨g, off, cap', he, hg, p0, p1, p2, p3⟩ := H1.out.get HB.out hx
        injection he with he1 he2 he3
        subst he1 he3
        obtain ⟨g2, off2, cap2', he', hg2, s0, s1, s2, s3⟩ := H2.out.get HB.out hy
        injection he' with he1' he2' he3'
        subst he1' he3'
        obtain ⟨x0, xk, xv, xg⟩ := x
        obtain ⟨y0, yk, yv, yg⟩ := y
        dsimp only at *
        clear he2 he2'
        have hn := fun w => rec_neq x0 y0 xk yk xv yv xg yg w
        have hk2 : k < r.length := by omega
        cases hb : Cr.recEq ⟨x0, xk, xv, xg⟩ ⟨y0, yk, yv, yg⟩ with
        | true =>
          have HX : Hid (Cr.recsEq l r = Cr.recsEq (l.drop (k + 1)) (r.drop (k + 1))) := by rw [Hid, HQ.out, HS.out, hb]; rfl
          simp only [hb, Bool.not_true] at hn
          clear HS hb
          go_wp2
          go_quiet (fail)
          have BQ : Hid (Below w.heap.size w (wr.drewN nq)) := below_drewN HB.out nq
          go_wp2
          go_roundw
          case rel => exact ⟨k + 1, by go_num, by omega, HX.out, BQ.out⟩
          case measure => simp [intOf]; omega
        | false =>
          have HX : Hid (Cr.recsEq l r = false) := by rw [Hid, HQ.out, HS.out, hb]; rfl
          simp only [hb, Bool.not_false] at hn
          clear HS hb
          go_wp2
          go_quiet (fail)
          have BQ : Hid (Below w.heap.size w (wr.drewN nq)) := below_drewN HB.out nq
          go_wp2
          go_ret
          exact ⟨by rw [HX.out]; rfl, BQ.out⟩
      · obtain rfl : k = l.length := by omega
        have HX : Hid (Cr.recsEq l r = true) := by rw [Hid, HQ.out, List.drop_length, hlen, List.drop_length]; rfl
        go_wp2
        go_ret
        exact ⟨by rw [HX.out]; rfl, HB.out⟩
  · have HX := Lib.hid (recsEq_len hlen)
    go_enter Tryz.func64, Tryz.ntmps64
    go_wp2
    go_ret
    exact ⟨by rw [HX.out]; rfl, Below.refl _ _⟩

set_option maxRecDepth 20000 in
set_option maxHeartbeats 3200000 in
theorem same_any (a b : Cr.Batch) (ha : BatOk a) (hb : BatOk b) (av bv : Value) (w : World) (h1 : Recs w av a.recs) (h2 : Recs w bv b.recs) :
    Calls Tryz.prog 40 #[batV a av, batV b bv] w fun e w' => e = .returned (.bool (Cr.same a b)) ∧ Below w.heap.size w w' := by
  have H1 := Lib.hid h1
  have H2 := Lib.hid h2
  obtain ⟨aa, acap, rfl⟩ := h1.form
  obtain ⟨ba, bcap, rfl⟩ := h2.form
  have hla := ha.2.2.2.2.2.1
  have hlb := hb.2.2.2.2.2.1
  have hra := ha.2.2.2.2.2.2
  have hrb := hb.2.2.2.2.2.2
  obtain ⟨a0, a1, a2, a3, a4, al⟩ := a
  obtain ⟨b0, b1, b2, b3, b4, bl⟩ := b
  dsimp only at *
  have B1 : Hid (Below w.heap.size w (w.alloc (.cells #[.int .i64 a0, .int .i64 a1, .int .i64 a2, .int .i64 a3, .int .i64 a4, .slice aa al.length acap] 36))) := (Below.refl _ _).alloc (Nat.le_refl _) _
  have hsz : (w.alloc (.cells #[.int .i64 a0, .int .i64 a1, .int .i64 a2, .int .i64 a3, .int .i64 a4, .slice aa al.length acap] 36)).heap.size = w.heap.size + 1 := World.size_alloc _ _
  have C1 := Lib.hid (bat_cells w ⟨a0, a1, a2, a3, a4, al⟩ (.slice aa al.length acap))
  have hw1 : w.alloc (.cells #[.int .i64 a0, .int .i64 a1, .int .i64 a2, .int .i64 a3, .int .i64 a4, .slice aa al.length acap] 36) = w.alloc (.cells (batCells ⟨a0, a1, a2, a3, a4, al⟩ (.slice aa al.length acap)) 36) := rfl
  have HW1 := Lib.hid hw1
  have B2 : Hid (Below (w.alloc (.cells #[.int .i64 a0, .int .i64 a1, .int .i64 a2, .int .i64 a3, .int .i64 a4, .slice aa al.length acap] 36)).heap.size (w.alloc (.cells #[.int .i64 a0, .int .i64 a1, .int .i64 a2, .int .i64 a3, .int .i64 a4, .slice aa al.length acap] 36)) ((w.alloc (.cells #[.int .i64 a0, .int .i64 a1, .int .i64 a2, .int .i64 a3, .int .i64 a4, .slice aa al.length acap] 36)).alloc (.cells #[.int .i64 b0, .int .i64 b1, .int .i64 b2, .int .i64 b3, .int .i64 b4, .slice ba bl.length bcap] 36))) := (Below.refl _ _).alloc (Nat.le_refl _) _
  have C2 := Lib.hid (bat_cells (w.alloc (.cells #[.int .i64 a0, .int .i64 a1, .int .i64 a2, .int .i64 a3, .int .i64 a4, .slice aa al.length acap] 36)) ⟨b0, b1, b2, b3, b4, bl⟩ (.slice ba bl.length bcap))
  have HE : Hid (Cr.same ⟨a0, a1, a2, a3, a4, al⟩ ⟨b0, b1, b2, b3, b4, bl⟩ = (a0 == b0 && a1 == b1 && a2 == b2 && a3 == b3 && a4 == b4 && Cr.recsEq al bl)) := rfl
  unfold maxLen at hla hlb
  rw [← hw1] at C1
  clear hw1 HW1 ha hb h1 h2
  unfold batV
  dsimp only
  unfold batCells at C2
  dsimp only at C1 C2
  have hsz2 : ((w.alloc (.cells #[.int .i64 a0, .int .i64 a1, .int .i64 a2, .int .i64 a3, .int .i64 a4, .slice aa al.length acap] 36)).alloc (.cells #[.int .i64 b0, .int .i64 b1, .int .i64 b2, .int .i64 b3, .int .i64 b4, .slice ba bl.length bcap] 36)).heap.size = w.heap.size + 2 := by rw [World.size_alloc, hsz]
  obtain ⟨d0, d1, d2, d3, d4, d5⟩ := C2.out _ (Below.refl _ _)
  obtain ⟨c0, c1, c2, c3, c4, c5⟩ := C1.out _ B2.out
  rw [hsz] at d0 d1 d2 d3 d4 d5
  by_cases e0 : a0 = b0
  rotate_left
  · have HX : Hid (Cr.same ⟨a0, a1, a2, a3, a4, al⟩ ⟨b0, b1, b2, b3, b4, bl⟩ = false) := by
      rw [Hid, HE.out, show (a0 == b0) = false by simpa using e0]
      simp
    clear HE
    go_enter Tryz.func40, Tryz.ntmps40
    go_wp2
    go_ret
    exact ⟨by rw [HX.out]; rfl, bt B1.out B2.out⟩
  subst e0
  by_cases e1 : a1 = b1
  rotate_left
  · have HX : Hid (Cr.same ⟨a0, a1, a2, a3, a4, al⟩ ⟨a0, b1, b2, b3, b4, bl⟩ = false) := by
      rw [Hid, HE.out, show (a1 == b1) = false by simpa using e1]
      simp
    clear HE
    go_enter Tryz.func40, Tryz.ntmps40
    go_wp2
    go_ret
    exact ⟨by rw [HX.out]; rfl, bt B1.out B2.out⟩
  subst e1
  by_cases e2 : a2 = b2
  rotate_left
  · have HX : Hid (Cr.same ⟨a0, a1, a2, a3, a4, al⟩ ⟨a0, a1, b2, b3, b4, bl⟩ = false) := by
      rw [Hid, HE.out, show (a2 == b2) = false by simpa using e2]
      simp
    clear HE
    go_enter Tryz.func40, Tryz.ntmps40
    go_wp2
    go_ret
    exact ⟨by rw [HX.out]; rfl, bt B1.out B2.out⟩
  subst e2
  by_cases e3 : a3 = b3
  rotate_left
  · have HX : Hid (Cr.same ⟨a0, a1, a2, a3, a4, al⟩ ⟨a0, a1, a2, b3, b4, bl⟩ = false) := by
      rw [Hid, HE.out, show (a3 == b3) = false by simpa using e3]
      simp
    clear HE
    go_enter Tryz.func40, Tryz.ntmps40
    go_wp2
    go_ret
    exact ⟨by rw [HX.out]; rfl, bt B1.out B2.out⟩
  subst e3
  by_cases e4 : a4 = b4
  rotate_left
  · have HX : Hid (Cr.same ⟨a0, a1, a2, a3, a4, al⟩ ⟨a0, a1, a2, a3, b4, bl⟩ = false) := by
      rw [Hid, HE.out, show (a4 == b4) = false by simpa using e4]
      simp
    clear HE
    go_enter Tryz.func40, Tryz.ntmps40
    go_wp2
    go_ret
    exact ⟨by rw [HX.out]; rfl, bt B1.out B2.out⟩
  subst e4
  have HX : Hid (Cr.same ⟨a0, a1, a2, a3, a4, al⟩ ⟨a0, a1, a2, a3, a4, bl⟩ = Cr.recsEq al bl) := by
    rw [Hid, HE.out]
    simp
  have BB : Hid (Below w.heap.size w ((w.alloc (.cells #[.int .i64 a0, .int .i64 a1, .int .i64 a2, .int .i64 a3, .int .i64 a4, .slice aa al.length acap] 36)).alloc (.cells #[.int .i64 a0, .int .i64 a1, .int .i64 a2, .int .i64 a3, .int .i64 a4, .slice ba bl.length bcap] 36))) := bt B1.out B2.out
  have HQ := Lib.hid (equal_any al bl hla hlb _ _ _ (H1.out.kept BB.out) (H2.out.kept BB.out))
  clear HE
  go_enter Tryz.func40, Tryz.ntmps40
  go_wp2_with fail
  refine HQ.out.mono ?_
  rintro e w5 ⟨rfl, hb5⟩
  have B5 := Lib.hid (bt BB.out hb5)
  clear hb5
  go_wp2
  go_ret
  exact ⟨by rw [HX.out]; rfl, B5.out⟩

end Go.Proofs.YtbljbdjmgogknaaGreatDoor
