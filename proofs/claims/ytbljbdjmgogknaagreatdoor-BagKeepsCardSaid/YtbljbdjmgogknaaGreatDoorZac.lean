/-
  Cwc / Cwd / Cl / We: texts of one proof, one behind the other.
  Conditions: none of its own.
-/
import Derived.Test.YtbljbdjmgogknaaGreatDoorZaa
import Derived.Test.YtbljbdjmgogknaaGreatDoorZab
import Derived.Laws.StructEq
import Derived.BigQuiet
import Derived.Laws.ResultCell
import Derived.Laws.Rows
set_option linter.unusedVariables false
set_option linter.unusedSimpArgs false
namespace Go.Proofs.YtbljbdjmgogknaaGreatDoor
open Go.RowKit
theorem Recs.get {w w' : World} {v : Value} {l : List Cr.Rec} (h : Recs w v l) (hb : Below w.heap.size w w') {k : Nat} {x : Cr.Rec} (hk : l[k]? = some x) : ∃ g off cap, v = .slice (some ⟨g, off, none⟩) l.length cap ∧ g < w.heap.size ∧
  w'.cell? ⟨g, off + k * 4, none⟩ = some (.int .i64 x.off) ∧ w'.cell? ⟨g, off + k * 4 + 1, none⟩ = some (.string ⟨x.key.toArray⟩) ∧ w'.cell? ⟨g, off + k * 4 + 2, none⟩ = some (.string ⟨x.val.toArray⟩) ∧ w'.cell? ⟨g, off + k * 4 + 3, none⟩ = some (.bool x.gone) := by
 obtain ⟨a, cap, rfl, hc⟩ := h
 obtain ⟨g, off, rfl, hg, h1, h2, h3, h4⟩ := hc k x hk
 exact ⟨g, off, cap, rfl, hg, (hb.cell (p := ⟨g, off + k * 4, none⟩) hg).trans h1, (hb.cell (p := ⟨g, off + k * 4 + 1, none⟩) hg).trans h2, (hb.cell (p := ⟨g, off + k * 4 + 2, none⟩) hg).trans h3, (hb.cell (p := ⟨g, off + k * 4 + 3, none⟩) hg).trans h4⟩
theorem Recs.form {w : World} {v : Value} {l : List Cr.Rec} (h : Recs w v l) : ∃ a cap, v = .slice a l.length cap := by
 obtain ⟨a, cap, rfl, _⟩ := h
 exact ⟨a, cap, rfl⟩
def idxBad : Nat → List Cr.Rec → Int
 | _, [] => -1
 | k, x :: r => if Cr.isRec x then idxBad (k + 1) r else k
theorem idxBad_step (l : List Cr.Rec) (k : Nat) (x : Cr.Rec) (h : l[k]? = some x) : idxBad k (l.drop k) = if Cr.isRec x then idxBad (k + 1) (l.drop (k + 1)) else k := by
 obtain ⟨hk, rfl⟩ := List.getElem?_eq_some_iff.1 h
 rw [List.drop_eq_getElem_cons hk]
 rfl
theorem idxBad_all (l : List Cr.Rec) : ∀ k, decide (0 ≤ idxBad k l) = !l.all Cr.isRec ∧ -1 ≤ idxBad k l ∧ idxBad k l ≤ k + l.length := by
 induction l with
 | nil => intro k; simp [idxBad]
 | cons x r ih =>
  intro k
  cases h : Cr.isRec x with
  | true =>
   obtain ⟨h1, h2, h3⟩ := ih (k + 1)
   simp only [idxBad, h, if_true, List.all_cons, Bool.true_and, List.length_cons]
   exact ⟨h1, h2, by omega⟩
  | false =>
   simp [idxBad, h]
   omega
theorem fits1_any (x : Cr.Rec) (hx : RecOk x) (w : World) : Calls Tryz.prog 126 #[recV x] w fun e w' => e = .returned (.bool (!Cr.isRec x)) ∧ Below w.heap.size w w' := by
 have HN := Lib.hid (fun w => isRec_any x hx w)
 obtain ⟨t0, t1, t2, t3⟩ := rec_cells w x _ (Below.refl _ _)
 obtain ⟨x0, xk, xv, xg⟩ := x
 have HB0 : Hid (Below w.heap.size w (w.alloc (.cells #[.int .i64 x0, .string ⟨xk.toArray⟩, .string ⟨xv.toArray⟩, .bool xg] 67))) := (Below.refl _ _).alloc (Nat.le_refl _) _
 generalize Cr.isRec ⟨x0, xk, xv, xg⟩ = r at HN
 clear hx
 unfold recV at *
 dsimp only at *
 go_enter Tryz.func126, Tryz.ntmps126
 go_wp2_with fail
 refine (HN.out _).mono ?_
 rintro e w1 ⟨rfl, hb⟩
 have HB := Lib.hid (bt HB0.out hb)
 clear hb
 go_wp2
 go_ret
 exact ⟨rfl, HB.out⟩
set_option maxHeartbeats 800000 in
theorem idx_any (l : List Cr.Rec) (hok : ∀ x ∈ l, RecOk x) (hl : l.length ≤ maxLen) (rv : Value) (w : World) (h : Recs w rv l) :
  Calls Tryz.prog 125 #[rv, .func (.func 126) #[] #[]] w fun e w' => e = .returned (.int .i64 (idxBad 0 l)) ∧ Below w.heap.size w w' := by
 have HZ := Lib.hid h
 have HR := Lib.hid hok
 obtain ⟨a, cap, rfl⟩ := h.form
 unfold maxLen at hl
 clear h hok
 go_enter Tryz.func125, Tryz.ntmps125
 go_wp2
 go_loopw [8] (fun i wr => ∃ k : Nat, i = .int .i64 k ∧ k ≤ l.length ∧ idxBad 0 l = idxBad k (l.drop k) ∧ Below w.heap.size w wr) (fun i _ => l.length - (intOf i).toNat)
 case atStart => exact ⟨0, rfl, by omega, rfl, Below.refl _ _⟩
 case round =>
  obtain ⟨k, rfl, hk, hr, hb⟩ := hrel
  have HR2 := Lib.hid hr
  have HB := Lib.hid hb
  clear hr hb
  by_cases hlt : k < l.length
  ·obtain ⟨x, hx⟩ : ∃ x, l[k]? = some x := ⟨l[k], by simp [hlt]⟩
   have HN := Lib.hid (fun w => fits1_any x (HR.out x (List.mem_of_getElem? hx)) w)
   have HS := Lib.hid (idxBad_step l k x hx)
   obtain ⟨g, off, cap', he, hg, p0, p1, p2, p3⟩ := HZ.out.get HB.out hx
   injection he with he1 he2 he3
   subst he1 he3
   obtain ⟨x0, xk, xv, xg⟩ := x
   unfold recV at HN
   dsimp only at *
   clear he2
   cases hb : Cr.isRec ⟨x0, xk, xv, xg⟩ with
   | true =>
    have HX : Hid (idxBad 0 l = idxBad (k + 1) (l.drop (k + 1))) := by rw [Hid, HR2.out, HS.out, hb]; rfl
    rw [hb] at HN
    clear HS hb
    go_wp2_with fail
    refine (HN.out _).mono ?_
    rintro e w5 ⟨rfl, hb5⟩
    have B5 := Lib.hid (bt HB.out hb5)
    clear hb5
    go_wp2
    go_roundw
    case rel => exact ⟨k + 1, by go_num, by omega, HX.out, B5.out⟩
    case measure => simp [intOf]; omega
   | false =>
    have HX : Hid (idxBad 0 l = k) := by rw [Hid, HR2.out, HS.out, hb]; rfl
    rw [hb] at HN
    clear HS hb
    go_wp2_with fail
    refine (HN.out _).mono ?_
    rintro e w5 ⟨rfl, hb5⟩
    have B5 := Lib.hid (bt HB.out hb5)
    clear hb5
    go_wp2
    go_ret
    exact ⟨by rw [HX.out]; rfl, B5.out⟩
  ·obtain rfl : k = l.length := by omega
   have HX : Hid (idxBad 0 l = -1) := by rw [Hid, HR2.out, List.drop_length]; rfl
   go_wp2
   go_ret
   exact ⟨by rw [HX.out]; rfl, HB.out⟩
theorem contains_any (l : List Cr.Rec) (hok : ∀ x ∈ l, RecOk x) (hl : l.length ≤ maxLen) (rv : Value) (w : World) (h : Recs w rv l) :
  Calls Tryz.prog 101 #[rv, .func (.func 126) #[] #[]] w fun e w' => e = .returned (.bool (!l.all Cr.isRec)) ∧ Below w.heap.size w w' := by
 have HI := Lib.hid (idx_any l hok hl rv w h)
 obtain ⟨h1, h2, h3⟩ := idxBad_all l 0
 have H1 := Lib.hid h1
 unfold maxLen at hl
 clear h hok h1
 generalize idxBad 0 l = n at *
 go_enter Tryz.func101, Tryz.ntmps101
 go_wp2_with fail
 refine HI.out.mono ?_
 rintro e w1 ⟨rfl, hb⟩
 have HB := Lib.hid hb
 clear hb
 go_wp2
 go_ret
 refine ⟨?_, HB.out⟩
 rw [← H1.out]
 rfl
theorem fits_any (l : List Cr.Rec) (hok : ∀ x ∈ l, RecOk x) (hl : l.length ≤ maxLen) (rv : Value) (w : World) (h : Recs w rv l) :
  Calls Tryz.prog 103 #[rv] w fun e w' => e = .returned (.bool (Cr.fits l)) ∧ Below w.heap.size w w' := by
 have HI := Lib.hid (contains_any l hok hl rv w h)
 have HE : Hid (Cr.fits l = (decide (1 ≤ l.length) && (decide (l.length ≤ 8) && l.all Cr.isRec))) := rfl
 obtain ⟨a, cap, rfl⟩ := h.form
 unfold maxLen at hl
 clear h hok
 by_cases h1 : 1 ≤ l.length
 ·by_cases h2 : l.length ≤ 8
  ·have HX : Hid (Cr.fits l = l.all Cr.isRec) := by rw [Hid, HE.out, decide_eq_true h1, decide_eq_true h2]; rfl
   generalize l.all Cr.isRec = r at HI HX
   generalize l.length = n at *
   go_enter Tryz.func103, Tryz.ntmps103
   go_wp2_with fail
   refine HI.out.mono ?_
   rintro e w1 ⟨rfl, hb⟩
   have HB := Lib.hid hb
   clear hb
   go_wp2
   go_ret
   exact ⟨by rw [HX.out]; simp, HB.out⟩
  ·have HX : Hid (Cr.fits l = false) := by rw [Hid, HE.out, decide_eq_false h2]; simp
   generalize l.length = n at *
   go_enter Tryz.func103, Tryz.ntmps103
   go_wp2
   go_ret
   exact ⟨by rw [HX.out]; simp, Below.refl _ _⟩
 ·have HX : Hid (Cr.fits l = false) := by rw [Hid, HE.out, decide_eq_false h1]; simp
  obtain rfl : l = [] := List.eq_nil_of_length_eq_zero (by omega)
  go_enter Tryz.func103, Tryz.ntmps103
  go_wp2
  go_ret
  exact ⟨by rw [HX.out]; simp, Below.refl _ _⟩
end Go.Proofs.YtbljbdjmgogknaaGreatDoor
namespace Go.Proofs.YtbljbdjmgogknaaGreatDoor
open Go.RowKit
set_option maxHeartbeats 800000 in
theorem rec_neq (x0 y0 : Int) (xk yk xv yv : List UInt8) (xg yg : Bool) (w : World) :
  (binOp .neq 67 (.agg #[.int .i64 x0, .string ⟨xk.toArray⟩, .string ⟨xv.toArray⟩, .bool xg]) (.agg #[.int .i64 y0, .string ⟨yk.toArray⟩, .string ⟨yv.toArray⟩, .bool yg])).run Tryz.prog w = .ok (.bool (!Cr.recEq ⟨x0, xk, xv, xg⟩ ⟨y0, yk, yv, yg⟩)) w := by
 have hS : Tryz.prog.underlying 67 = some (.struct (Tryz.prog.fieldsOf 67)) := by kernel_rfl
 have hp : Tryz.prog.stoodInHeld 67 = false := by kernel_rfl
 rw [run_neq_struct, show (10000 : Nat) = 9999 + 1 from rfl, run_equalIn_agg w 9999 67 _ _ hS hp]
 simp only [Program.fieldsOf, Tryz.underlying67]
 have u1 := Tryz.underlying3
 have u2 := Tryz.underlying9
 have u3 := Tryz.underlying4
 have a1 := Tryz.isAgg3
 have a2 := Tryz.isAgg9
 have a3 := Tryz.isAgg4
 have z1 := Tryz.sizeOf3
 have z2 := Tryz.sizeOf9
 have z3 := Tryz.sizeOf4
 go_simp
 unfold Cr.recEq
 by_cases h1 : x0 = y0 <;> by_cases h2 : xk = yk <;> by_cases h3 : xv = yv <;> by_cases h4 : xg = yg <;> simp [h1, h2, h3, h4]
theorem recsEq_len {l r : List Cr.Rec} (h : l.length ≠ r.length) : Cr.recsEq l r = false := by
 cases hc : Cr.recsEq l r with
 | false => rfl
 | true => exact absurd (congrArg List.length (Cr.recsEq_iff.1 hc)) h
theorem recsEq_step {l r : List Cr.Rec} {k : Nat} {x y : Cr.Rec} (hx : l[k]? = some x) (hy : r[k]? = some y) : Cr.recsEq (l.drop k) (r.drop k) = (Cr.recEq x y && Cr.recsEq (l.drop (k + 1)) (r.drop (k + 1))) := by
 obtain ⟨hk, rfl⟩ := List.getElem?_eq_some_iff.1 hx
 obtain ⟨hk2, rfl⟩ := List.getElem?_eq_some_iff.1 hy
 rw [List.drop_eq_getElem_cons hk, List.drop_eq_getElem_cons hk2]
 rfl
set_option maxHeartbeats 800000 in
theorem equal_any (l r : List Cr.Rec) (hl : l.length ≤ maxLen) (hr : r.length ≤ maxLen) (lv rv : Value) (w : World) (h1 : Recs w lv l) (h2 : Recs w rv r) :
  Calls Tryz.prog 64 #[lv, rv] w fun e w' => e = .returned (.bool (Cr.recsEq l r)) ∧ Below w.heap.size w w' := by
 have H1 := Lib.hid h1
 have H2 := Lib.hid h2
 obtain ⟨a1, cap1, rfl⟩ := h1.form
 obtain ⟨a2, cap2, rfl⟩ := h2.form
 unfold maxLen at hl hr
 clear h1 h2
 by_cases hlen : l.length = r.length
 ·go_enter Tryz.func64, Tryz.ntmps64
  go_wp2
  go_loopw [13] (fun i wr => ∃ k : Nat, i = .int .i64 k ∧ k ≤ l.length ∧ Cr.recsEq l r = Cr.recsEq (l.drop k) (r.drop k) ∧ Below w.heap.size w wr) (fun i _ => l.length - (intOf i).toNat)
  case atStart => exact ⟨0, rfl, by omega, rfl, Below.refl _ _⟩
  case round =>
   obtain ⟨k, rfl, hk, hq, hb⟩ := hrel
   have HQ := Lib.hid hq
   have HB := Lib.hid hb
   clear hq hb
   by_cases hlt : k < l.length
   ·obtain ⟨x, hx⟩ : ∃ x, l[k]? = some x := ⟨l[k], by simp [hlt]⟩
    obtain ⟨y, hy⟩ : ∃ y, r[k]? = some y := ⟨r[k]'(by omega), by simp [← hlen, hlt]⟩
    have HS := Lib.hid (recsEq_step hx hy)
    obtain ⟨g, off, cap', he, hg, p0, p1, p2, p3⟩ := H1.out.get HB.out hx
    injection he with he1 he2 he3
    subst he1 he3
    obtain ⟨g2, off2, cap2', he', hg2, s0, s1, s2, s3⟩ := H2.out.get HB.out hy
    injection he' with he1' he2' he3'
    subst he1' he3'
    obtain ⟨x0, xk, xv, xg⟩ := x
    obtain ⟨y0, yk, yv, yg⟩ := y
    dsimp only at *
    clear he2 he2'
    have hn := fun w => rec_neq x0 y0 xk yk xv yv xg yg w
    have hk2 : k < r.length := by omega
    cases hb : Cr.recEq ⟨x0, xk, xv, xg⟩ ⟨y0, yk, yv, yg⟩ with
    | true =>
     have HX : Hid (Cr.recsEq l r = Cr.recsEq (l.drop (k + 1)) (r.drop (k + 1))) := by rw [Hid, HQ.out, HS.out, hb]; rfl
     simp only [hb, Bool.not_true] at hn
     clear HS hb
     go_wp2
     go_quiet (fail)
     have BQ : Hid (Below w.heap.size w (wr.drewN nq)) := below_drewN HB.out nq
     go_wp2
     go_roundw
     case rel => exact ⟨k + 1, by go_num, by omega, HX.out, BQ.out⟩
     case measure => simp [intOf]; omega
    | false =>
     have HX : Hid (Cr.recsEq l r = false) := by rw [Hid, HQ.out, HS.out, hb]; rfl
     simp only [hb, Bool.not_false] at hn
     clear HS hb
     go_wp2
     go_quiet (fail)
     have BQ : Hid (Below w.heap.size w (wr.drewN nq)) := below_drewN HB.out nq
     go_wp2
     go_ret
     exact ⟨by rw [HX.out]; rfl, BQ.out⟩
   ·obtain rfl : k = l.length := by omega
    have HX : Hid (Cr.recsEq l r = true) := by rw [Hid, HQ.out, List.drop_length, hlen, List.drop_length]; rfl
    go_wp2
    go_ret
    exact ⟨by rw [HX.out]; rfl, HB.out⟩
 ·have HX := Lib.hid (recsEq_len hlen)
  go_enter Tryz.func64, Tryz.ntmps64
  go_wp2
  go_ret
  exact ⟨by rw [HX.out]; rfl, Below.refl _ _⟩
set_option maxRecDepth 20000 in
set_option maxHeartbeats 3200000 in
theorem same_any (a b : Cr.Batch) (ha : BatOk a) (hb : BatOk b) (av bv : Value) (w : World) (h1 : Recs w av a.recs) (h2 : Recs w bv b.recs) :
  Calls Tryz.prog 40 #[batV a av, batV b bv] w fun e w' => e = .returned (.bool (Cr.same a b)) ∧ Below w.heap.size w w' := by
 have H1 := Lib.hid h1
 have H2 := Lib.hid h2
 obtain ⟨aa, acap, rfl⟩ := h1.form
 obtain ⟨ba, bcap, rfl⟩ := h2.form
 have hla := ha.2.2.2.2.2.1
 have hlb := hb.2.2.2.2.2.1
 have hra := ha.2.2.2.2.2.2
 have hrb := hb.2.2.2.2.2.2
 obtain ⟨a0, a1, a2, a3, a4, al⟩ := a
 obtain ⟨b0, b1, b2, b3, b4, bl⟩ := b
 dsimp only at *
 have B1 : Hid (Below w.heap.size w (w.alloc (.cells #[.int .i64 a0, .int .i64 a1, .int .i64 a2, .int .i64 a3, .int .i64 a4, .slice aa al.length acap] 36))) := (Below.refl _ _).alloc (Nat.le_refl _) _
 have hsz : (w.alloc (.cells #[.int .i64 a0, .int .i64 a1, .int .i64 a2, .int .i64 a3, .int .i64 a4, .slice aa al.length acap] 36)).heap.size = w.heap.size + 1 := World.size_alloc _ _
 have C1 := Lib.hid (bat_cells w ⟨a0, a1, a2, a3, a4, al⟩ (.slice aa al.length acap))
 have hw1 : w.alloc (.cells #[.int .i64 a0, .int .i64 a1, .int .i64 a2, .int .i64 a3, .int .i64 a4, .slice aa al.length acap] 36) = w.alloc (.cells (batCells ⟨a0, a1, a2, a3, a4, al⟩ (.slice aa al.length acap)) 36) := rfl
 have HW1 := Lib.hid hw1
 have B2 : Hid (Below (w.alloc (.cells #[.int .i64 a0, .int .i64 a1, .int .i64 a2, .int .i64 a3, .int .i64 a4, .slice aa al.length acap] 36)).heap.size (w.alloc (.cells #[.int .i64 a0, .int .i64 a1, .int .i64 a2, .int .i64 a3, .int .i64 a4, .slice aa al.length acap] 36)) ((w.alloc (.cells #[.int .i64 a0, .int .i64 a1, .int .i64 a2, .int .i64 a3, .int .i64 a4, .slice aa al.length acap] 36)).alloc (.cells #[.int .i64 b0, .int .i64 b1, .int .i64 b2, .int .i64 b3, .int .i64 b4, .slice ba bl.length bcap] 36))) := (Below.refl _ _).alloc (Nat.le_refl _) _
 have C2 := Lib.hid (bat_cells (w.alloc (.cells #[.int .i64 a0, .int .i64 a1, .int .i64 a2, .int .i64 a3, .int .i64 a4, .slice aa al.length acap] 36)) ⟨b0, b1, b2, b3, b4, bl⟩ (.slice ba bl.length bcap))
 have HE : Hid (Cr.same ⟨a0, a1, a2, a3, a4, al⟩ ⟨b0, b1, b2, b3, b4, bl⟩ = (a0 == b0 && a1 == b1 && a2 == b2 && a3 == b3 && a4 == b4 && Cr.recsEq al bl)) := rfl
 unfold maxLen at hla hlb
 rw [← hw1] at C1
 clear hw1 HW1 ha hb h1 h2
 unfold batV
 dsimp only
 unfold batCells at C2
 dsimp only at C1 C2
 have hsz2 : ((w.alloc (.cells #[.int .i64 a0, .int .i64 a1, .int .i64 a2, .int .i64 a3, .int .i64 a4, .slice aa al.length acap] 36)).alloc (.cells #[.int .i64 b0, .int .i64 b1, .int .i64 b2, .int .i64 b3, .int .i64 b4, .slice ba bl.length bcap] 36)).heap.size = w.heap.size + 2 := by rw [World.size_alloc, hsz]
 obtain ⟨d0, d1, d2, d3, d4, d5⟩ := C2.out _ (Below.refl _ _)
 obtain ⟨c0, c1, c2, c3, c4, c5⟩ := C1.out _ B2.out
 rw [hsz] at d0 d1 d2 d3 d4 d5
 by_cases e0 : a0 = b0
 rotate_left
 ·have HX : Hid (Cr.same ⟨a0, a1, a2, a3, a4, al⟩ ⟨b0, b1, b2, b3, b4, bl⟩ = false) := by
   rw [Hid, HE.out, show (a0 == b0) = false by simpa using e0]
   simp
  clear HE
  go_enter Tryz.func40, Tryz.ntmps40
  go_wp2
  go_ret
  exact ⟨by rw [HX.out]; rfl, bt B1.out B2.out⟩
 subst e0
 by_cases e1 : a1 = b1
 rotate_left
 ·have HX : Hid (Cr.same ⟨a0, a1, a2, a3, a4, al⟩ ⟨a0, b1, b2, b3, b4, bl⟩ = false) := by
   rw [Hid, HE.out, show (a1 == b1) = false by simpa using e1]
   simp
  clear HE
  go_enter Tryz.func40, Tryz.ntmps40
  go_wp2
  go_ret
  exact ⟨by rw [HX.out]; rfl, bt B1.out B2.out⟩
 subst e1
 by_cases e2 : a2 = b2
 rotate_left
 ·have HX : Hid (Cr.same ⟨a0, a1, a2, a3, a4, al⟩ ⟨a0, a1, b2, b3, b4, bl⟩ = false) := by
   rw [Hid, HE.out, show (a2 == b2) = false by simpa using e2]
   simp
  clear HE
  go_enter Tryz.func40, Tryz.ntmps40
  go_wp2
  go_ret
  exact ⟨by rw [HX.out]; rfl, bt B1.out B2.out⟩
 subst e2
 by_cases e3 : a3 = b3
 rotate_left
 ·have HX : Hid (Cr.same ⟨a0, a1, a2, a3, a4, al⟩ ⟨a0, a1, a2, b3, b4, bl⟩ = false) := by
   rw [Hid, HE.out, show (a3 == b3) = false by simpa using e3]
   simp
  clear HE
  go_enter Tryz.func40, Tryz.ntmps40
  go_wp2
  go_ret
  exact ⟨by rw [HX.out]; rfl, bt B1.out B2.out⟩
 subst e3
 by_cases e4 : a4 = b4
 rotate_left
 ·have HX : Hid (Cr.same ⟨a0, a1, a2, a3, a4, al⟩ ⟨a0, a1, a2, a3, b4, bl⟩ = false) := by
   rw [Hid, HE.out, show (a4 == b4) = false by simpa using e4]
   simp
  clear HE
  go_enter Tryz.func40, Tryz.ntmps40
  go_wp2
  go_ret
  exact ⟨by rw [HX.out]; rfl, bt B1.out B2.out⟩
 subst e4
 have HX : Hid (Cr.same ⟨a0, a1, a2, a3, a4, al⟩ ⟨a0, a1, a2, a3, a4, bl⟩ = Cr.recsEq al bl) := by
  rw [Hid, HE.out]
  simp
 have BB : Hid (Below w.heap.size w ((w.alloc (.cells #[.int .i64 a0, .int .i64 a1, .int .i64 a2, .int .i64 a3, .int .i64 a4, .slice aa al.length acap] 36)).alloc (.cells #[.int .i64 a0, .int .i64 a1, .int .i64 a2, .int .i64 a3, .int .i64 a4, .slice ba bl.length bcap] 36))) := bt B1.out B2.out
 have HQ := Lib.hid (equal_any al bl hla hlb _ _ _ (H1.out.kept BB.out) (H2.out.kept BB.out))
 clear HE
 go_enter Tryz.func40, Tryz.ntmps40
 go_wp2_with fail
 refine HQ.out.mono ?_
 rintro e w5 ⟨rfl, hb5⟩
 have B5 := Lib.hid (bt BB.out hb5)
 clear hb5
 go_wp2
 go_ret
 exact ⟨by rw [HX.out]; rfl, B5.out⟩
end Go.Proofs.YtbljbdjmgogknaaGreatDoor
namespace Go.Proofs.YtbljbdjmgogknaaGreatDoor
open Go.RowKit
def Cl (w : World) (g : Nat) (cs : List Value) (t : TypeId) : Prop := w.heap[g]? = some (.cells cs.toArray t (0, 0))
theorem Cl.cell {w : World} {g : Nat} {cs : List Value} {t : TypeId} (h : Cl w g cs t) (k : Nat) : w.cell? ⟨g, k, none⟩ = cs[k]? := by
 unfold Cl at h
 simp [World.cell?, h]
theorem Cl.free {w : World} {g : Nat} {cs : List Value} {t : TypeId} (h : Cl w g cs t) (k : Nat) : w.frozen? ⟨g, k, none⟩ = false := by
 unfold Cl at h
 simp [World.frozen?, h]
theorem Cl.lt {w : World} {g : Nat} {cs : List Value} {t : TypeId} (h : Cl w g cs t) : g < w.heap.size := (Array.getElem?_eq_some_iff.1 h).1
theorem Cl.new (w : World) (cs : List Value) (t : TypeId) : Cl (w.alloc (.cells cs.toArray t)) w.heap.size cs t := heap_alloc_new w _
theorem Cl.set {w : World} {g : Nat} {cs : List Value} {t : TypeId} (h : Cl w g cs t) (k : Nat) (u : Value) : Cl (w.setCell ⟨g, k, none⟩ u) g (cs.set k u) t := by
 unfold Cl at h ⊢
 simp [World.setCell, Array.getElem?_modify, h]
theorem Cl.other {w : World} {g : Nat} {cs : List Value} {t : TypeId} (h : Cl w g cs t) (p : Addr) (u : Value) (hp : p.block ≠ g) : Cl (w.setCell p u) g cs t := (Below.heap_setCell _ _ _ _ (fun e => hp e.symm)).trans h
theorem Cl.keep {S : Nat → Prop} {w w' : World} {g : Nat} {cs : List Value} {t : TypeId} (h : Cl w g cs t) (k : Keeps S w w') (hs : ¬ S g) : Cl w' g cs t := (k.block g h.lt hs).trans h
theorem Cl.below {w w' : World} {g : Nat} {cs : List Value} {t : TypeId} (h : Cl w g cs t) (hb : Below w.heap.size w w') : Cl w' g cs t := (hb.block g h.lt).trans h
theorem Cl.alloc {w : World} {g : Nat} {cs : List Value} {t : TypeId} (h : Cl w g cs t) (o : Obj) : Cl (w.alloc o) g cs t := (Below.heap_alloc w o g h.lt).trans h
theorem Cl.grown {w w' : World} {g : Nat} {cs : List Value} {t : TypeId} {row : Option Nat} (h : Cl w g cs t) (hg : w.grownBy w' row) (hne : some g ≠ row) : Cl w' g cs t := (hg.block g h.lt hne).trans h
theorem Cl.drewN {w : World} {g : Nat} {cs : List Value} {t : TypeId} (h : Cl w g cs t) (n : Nat) : Cl (w.drewN n) g cs t := h
theorem Cl.cell6 {w : World} {g : Nat} {a b c d e f : Value} {t : TypeId} (h : Cl w g [a, b, c, d, e, f] t) : w.cell? ⟨g, 0, none⟩ = some a ∧ w.cell? ⟨g, 1, none⟩ = some b ∧ w.cell? ⟨g, 2, none⟩ = some c ∧ w.cell? ⟨g, 3, none⟩ = some d ∧ w.cell? ⟨g, 4, none⟩ = some e ∧ w.cell? ⟨g, 5, none⟩ = some f :=
 ⟨h.cell 0, h.cell 1, h.cell 2, h.cell 3, h.cell 4, h.cell 5⟩
theorem Cl.free6 {w : World} {g : Nat} {cs : List Value} {t : TypeId} (h : Cl w g cs t) : w.frozen? ⟨g, 0, none⟩ = false ∧ w.frozen? ⟨g, 1, none⟩ = false ∧ w.frozen? ⟨g, 2, none⟩ = false ∧ w.frozen? ⟨g, 3, none⟩ = false ∧ w.frozen? ⟨g, 4, none⟩ = false ∧ w.frozen? ⟨g, 5, none⟩ = false :=
 ⟨h.free 0, h.free 1, h.free 2, h.free 3, h.free 4, h.free 5⟩
theorem Cl.cell4 {w : World} {g : Nat} {a b c d : Value} {t : TypeId} (h : Cl w g [a, b, c, d] t) : w.cell? ⟨g, 0, none⟩ = some a ∧ w.cell? ⟨g, 1, none⟩ = some b ∧ w.cell? ⟨g, 2, none⟩ = some c ∧ w.cell? ⟨g, 3, none⟩ = some d :=
 ⟨h.cell 0, h.cell 1, h.cell 2, h.cell 3⟩
theorem results_cl_tmp {P : Program} {fn : Func} {p u : Tmp} {ty : TypeId} (h : fn.results = #[.cell p ty, .tmp u]) (tmps : Array Value) (w : World) (g : Nat) (t : TypeId) (cs : List Value) (d : TypeDesc) (hp : tmps.getD p undef = .pointer (some ⟨g, 0, none⟩)) (hg : Cl w g cs t)
  (hu : P.underlying ty = some d) (hd : (match d with | .struct _ | .array _ _ => true | _ => false) = true) (hi : (P.info? ty).map (·.size) = some cs.length) : (results fn tmps).run P w = .ok (.tuple #[.agg cs.toArray, tmps.getD u undef]) w := by
 rw [results_cell_tmp h, hp]
 simp [asAddr, run_loadVar_row w g t ty cs.toArray (0, 0) d hg hu hd (by simpa using hi)]
theorem Cl.src {w : World} {g : Nat} {cs : List Value} {t : TypeId} (h : Cl w g cs t) (size m c : Nat) (hl : cs.length = m * size) : SrcIs w size (.slice (some ⟨g, 0, none⟩) m c) m cs :=
 .inr ⟨_, c, rfl, hl, fun j u hu => by
  have e : (Addr.add ⟨g, 0, none⟩ j) = ⟨g, j, none⟩ := by
   unfold Addr.add
   split
   ·subst_vars; rfl
   ·simp
  rw [e, h.cell j]; exact hu⟩
theorem results_cl {P : Program} {fn : Func} {p : Tmp} {ty : TypeId} (h : fn.results = #[.cell p ty]) (tmps : Array Value) (w : World) (g : Nat) (t : TypeId) (cs : List Value) (d : TypeDesc) (hp : tmps.getD p undef = .pointer (some ⟨g, 0, none⟩)) (hg : Cl w g cs t)
  (hu : P.underlying ty = some d) (hd : (match d with | .struct _ | .array _ _ => true | _ => false) = true) (hi : (P.info? ty).map (·.size) = some cs.length) : (results fn tmps).run P w = .ok (.agg cs.toArray) w :=
 results_cell_row h tmps w g t cs.toArray (0, 0) d hp hg hu hd (by simpa using hi)
end Go.Proofs.YtbljbdjmgogknaaGreatDoor
namespace Go.Proofs.YtbljbdjmgogknaaGreatDoor
open Go.RowKit
def Rw {α : Type} (sz : Nat) (f : α → List Value) (w : World) (v : Value) (l : List α) : Prop :=
 ∃ a cap, v = .slice a l.length cap ∧ ∀ i x, l[i]? = some x → ∃ g off, a = some ⟨g, off, none⟩ ∧ g < w.heap.size ∧ ∀ j u, (f x)[j]? = some u → w.cell? ⟨g, off + i * sz + j, none⟩ = some u
theorem Rw.form {α : Type} {sz : Nat} {f : α → List Value} {w : World} {v : Value} {l : List α} (h : Rw sz f w v l) : ∃ a cap, v = .slice a l.length cap := by
 obtain ⟨a, cap, rfl, _⟩ := h
 exact ⟨a, cap, rfl⟩
theorem Rw.keep {α : Type} {sz : Nat} {f : α → List Value} {S : Nat → Prop} {w w' : World} {v : Value} {l : List α} (h : Rw sz f w v l) (k : Keeps S w w') (hs : ∀ j, v.ownBlock = some j → ¬ S j) : Rw sz f w' v l := by
 obtain ⟨a, cap, rfl, hc⟩ := h
 refine ⟨a, cap, rfl, fun i x hx => ?_⟩
 obtain ⟨g, off, rfl, hg, h0⟩ := hc i x hx
 exact ⟨g, off, rfl, Nat.lt_of_lt_of_le hg k.size, fun j u hu => (k.cell (a := ⟨g, off + i * sz + j, none⟩) hg (hs g rfl)).trans (h0 j u hu)⟩
theorem Rw.kept {α : Type} {sz : Nat} {f : α → List Value} {w w' : World} {v : Value} {l : List α} (h : Rw sz f w v l) (hb : Below w.heap.size w w') : Rw sz f w' v l := h.keep (Keeps.below (fun _ => False) hb) (fun _ _ => id)
theorem Rw.get {α : Type} {sz : Nat} {f : α → List Value} {w w' : World} {v : Value} {l : List α} (h : Rw sz f w v l) (hb : Below w.heap.size w w') {k : Nat} {x : α} (hk : l[k]? = some x) :
  ∃ g off cap, v = .slice (some ⟨g, off, none⟩) l.length cap ∧ g < w.heap.size ∧ ∀ j u, (f x)[j]? = some u → w'.cell? ⟨g, off + k * sz + j, none⟩ = some u := by
 obtain ⟨a, cap, rfl, hc⟩ := h
 obtain ⟨g, off, rfl, hg, h0⟩ := hc k x hk
 exact ⟨g, off, cap, rfl, hg, fun j u hu => (hb.cell (p := ⟨g, off + k * sz + j, none⟩) hg).trans (h0 j u hu)⟩
theorem Rw.nil {α : Type} (sz : Nat) (f : α → List Value) (w : World) : Rw sz f w (.slice none 0 0) [] := ⟨none, 0, rfl, fun i x hx => by simp at hx⟩
theorem Ints.form {w : World} {v : Value} {l : List Int} (h : Ints w v l) : ∃ a cap, v = .slice a l.length cap := by
 obtain ⟨a, cap, rfl, _⟩ := h
 exact ⟨a, cap, rfl⟩
theorem Ints.nil (w : World) : Ints w (.slice none 0 0) [] := ⟨none, 0, rfl, fun i hi => by simp at hi⟩
theorem Ints.get {w w' : World} {v : Value} {l : List Int} (h : Ints w v l) (hb : Below w.heap.size w w') {k : Nat} {x : Int} (hk : l[k]? = some x) :
  ∃ g off cap, v = .slice (some ⟨g, off, none⟩) l.length cap ∧ g < w.heap.size ∧ w'.cell? ⟨g, off + k, none⟩ = some (.int .i64 x) := by
 obtain ⟨a, cap, rfl, hc⟩ := h
 obtain ⟨hlt, rfl⟩ := List.getElem?_eq_some_iff.1 hk
 obtain ⟨g, off, rfl, hg, h0⟩ := hc k hlt
 exact ⟨g, off, cap, rfl, hg, (hb.cell (p := ⟨g, off + k, none⟩) hg).trans (by rw [h0]; simp [List.getD, hlt])⟩
theorem Ints.keep {S : Nat → Prop} {w w' : World} {v : Value} {l : List Int} (h : Ints w v l) (k : Keeps S w w') (hs : ∀ j, v.ownBlock = some j → ¬ S j) : Ints w' v l := by
 obtain ⟨a, cap, rfl, hc⟩ := h
 refine ⟨a, cap, rfl, fun i hi => ?_⟩
 obtain ⟨g, off, rfl, hg, h0⟩ := hc i hi
 exact ⟨g, off, rfl, Nat.lt_of_lt_of_le hg k.size, (k.cell (a := ⟨g, off + i, none⟩) hg (hs g rfl)).trans h0⟩
def lifeC (x : Int × Int) : List Value := [.int .i64 x.1, .int .i64 x.2]
def slotC (x : Wi.Slot) : List Value := [.int .i64 x.1, .int .i64 x.2.1, .int .i64 x.2.2]
set_option maxHeartbeats 800000 in
theorem life_neq (x0 x1 y0 y1 : Int) (w : World) :
  (binOp .neq 90 (.agg #[.int .i64 x0, .int .i64 x1]) (.agg #[.int .i64 y0, .int .i64 y1])).run Tryz.prog w = .ok (.bool (!decide ((x0, x1) = (y0, y1)))) w := by
 have hS : Tryz.prog.underlying 90 = some (.struct (Tryz.prog.fieldsOf 90)) := by kernel_rfl
 have hp : Tryz.prog.stoodInHeld 90 = false := by kernel_rfl
 rw [run_neq_struct, show (10000 : Nat) = 9999 + 1 from rfl, run_equalIn_agg w 9999 90 _ _ hS hp]
 simp only [Program.fieldsOf, Tryz.underlying90]
 have u1 := Tryz.underlying3
 have a1 := Tryz.isAgg3
 have z1 := Tryz.sizeOf3
 go_simp
 by_cases h0 : x0 = y0 <;> by_cases h1 : x1 = y1 <;> simp [h0, h1]
set_option maxHeartbeats 800000 in
theorem slot_neq (x0 x1 x2 y0 y1 y2 : Int) (w : World) :
  (binOp .neq 109 (.agg #[.int .i64 x0, .int .i64 x1, .int .i64 x2]) (.agg #[.int .i64 y0, .int .i64 y1, .int .i64 y2])).run Tryz.prog w = .ok (.bool (!decide ((x0, x1, x2) = (y0, y1, y2)))) w := by
 have hS : Tryz.prog.underlying 109 = some (.struct (Tryz.prog.fieldsOf 109)) := by kernel_rfl
 have hp : Tryz.prog.stoodInHeld 109 = false := by kernel_rfl
 rw [run_neq_struct, show (10000 : Nat) = 9999 + 1 from rfl, run_equalIn_agg w 9999 109 _ _ hS hp]
 simp only [Program.fieldsOf, Tryz.underlying109]
 have u1 := Tryz.underlying3
 have a1 := Tryz.isAgg3
 have z1 := Tryz.sizeOf3
 go_simp
 by_cases h0 : x0 = y0 <;> by_cases h1 : x1 = y1 <;> by_cases h2 : x2 = y2 <;> simp [h0, h1, h2]
set_option maxHeartbeats 1600000 in
theorem eqInts_any (l r : List Int) (hl : l.length ≤ maxLen) (hr : r.length ≤ maxLen) (lv rv : Value) (w : World) (h1 : Ints w lv l) (h2 : Ints w rv r) :
  Calls Tryz.prog 38 #[lv, rv] w fun e w' => e = .returned (.bool (decide (l = r))) ∧ Below w.heap.size w w' := by
 have H1 := Lib.hid h1
 have H2 := Lib.hid h2
 obtain ⟨a1, cap1, rfl⟩ := h1.form
 obtain ⟨a2, cap2, rfl⟩ := h2.form
 unfold maxLen at hl hr
 clear h1 h2
 by_cases hlen : l.length = r.length
 ·go_enter Tryz.func38, Tryz.ntmps38
  go_wp2
  go_loopw [13] (fun i wr => ∃ k : Nat, i = .int .i64 k ∧ k ≤ l.length ∧ decide (l = r) = decide (l.drop k = r.drop k) ∧ Below w.heap.size w wr) (fun i _ => l.length - (intOf i).toNat)
  case atStart => exact ⟨0, rfl, by omega, rfl, Below.refl _ _⟩
  case round =>
   obtain ⟨k, rfl, hk, hq, hb⟩ := hrel
   have HQ := Lib.hid hq
   have HB := Lib.hid hb
   clear hq hb
   by_cases hlt : k < l.length
   ·obtain ⟨x, hx⟩ : ∃ x, l[k]? = some x := ⟨l[k], by simp [hlt]⟩
    obtain ⟨y, hy⟩ : ∃ y, r[k]? = some y := ⟨r[k]'(by omega), by simp [← hlen, hlt]⟩
    have HS := Lib.hid (Wi.eq_step hx hy)
    obtain ⟨g, off, cap', he, hg, p0⟩ := H1.out.get HB.out hx
    injection he with he1 he2 he3
    subst he1 he3
    obtain ⟨g2, off2, cap2', he', hg2, s0⟩ := H2.out.get HB.out hy
    injection he' with he1' he2' he3'
    subst he1' he3'
    skip
    skip
    try dsimp only at *
    clear he2 he2'
    skip
    have hn : (x != y) = !decide (x = y) := by by_cases e : x = y <;> simp [e]
    have hk2 : k < r.length := by omega
    cases hb : decide (x = y) with
    | true =>
     have HX : Hid (decide (l = r) = decide (l.drop (k + 1) = r.drop (k + 1))) := by rw [Hid, HQ.out, HS.out, hb]; rfl
     simp only [hb, Bool.not_true] at hn
     clear HS hb
     go_wp2
     go_quiet (fail)
     have BQ : Hid (Below w.heap.size w (wr.drewN nq)) := below_drewN HB.out nq
     go_wp2
     go_roundw
     case rel => exact ⟨k + 1, by go_num, by omega, HX.out, BQ.out⟩
     case measure => simp [intOf]; omega
    | false =>
     have HX : Hid (decide (l = r) = false) := by rw [Hid, HQ.out, HS.out, hb]; rfl
     simp only [hb, Bool.not_false] at hn
     clear HS hb
     go_wp2
     go_quiet (fail)
     have BQ : Hid (Below w.heap.size w (wr.drewN nq)) := below_drewN HB.out nq
     go_wp2
     go_ret
     exact ⟨by rw [HX.out]; rfl, BQ.out⟩
   ·obtain rfl : k = l.length := by omega
    have HX : Hid (decide (l = r) = true) := by rw [Hid, HQ.out]; exact Wi.eq_end hlen
    go_wp2
    go_ret
    exact ⟨by rw [HX.out]; rfl, HB.out⟩
 ·have HX := Lib.hid (Wi.eq_len hlen)
  go_enter Tryz.func38, Tryz.ntmps38
  go_wp2
  go_ret
  exact ⟨by rw [HX.out]; rfl, Below.refl _ _⟩
set_option maxHeartbeats 1600000 in
theorem eqLifes_any (l r : List (Int × Int)) (hl : l.length ≤ maxLen) (hr : r.length ≤ maxLen) (lv rv : Value) (w : World) (h1 : Rw 2 lifeC w lv l) (h2 : Rw 2 lifeC w rv r) :
  Calls Tryz.prog 39 #[lv, rv] w fun e w' => e = .returned (.bool (decide (l = r))) ∧ Below w.heap.size w w' := by
 have H1 := Lib.hid h1
 have H2 := Lib.hid h2
 obtain ⟨a1, cap1, rfl⟩ := h1.form
 obtain ⟨a2, cap2, rfl⟩ := h2.form
 unfold maxLen at hl hr
 clear h1 h2
 by_cases hlen : l.length = r.length
 ·go_enter Tryz.func39, Tryz.ntmps39
  go_wp2
  go_loopw [13] (fun i wr => ∃ k : Nat, i = .int .i64 k ∧ k ≤ l.length ∧ decide (l = r) = decide (l.drop k = r.drop k) ∧ Below w.heap.size w wr) (fun i _ => l.length - (intOf i).toNat)
  case atStart => exact ⟨0, rfl, by omega, rfl, Below.refl _ _⟩
  case round =>
   obtain ⟨k, rfl, hk, hq, hb⟩ := hrel
   have HQ := Lib.hid hq
   have HB := Lib.hid hb
   clear hq hb
   by_cases hlt : k < l.length
   ·obtain ⟨x, hx⟩ : ∃ x, l[k]? = some x := ⟨l[k], by simp [hlt]⟩
    obtain ⟨y, hy⟩ : ∃ y, r[k]? = some y := ⟨r[k]'(by omega), by simp [← hlen, hlt]⟩
    have HS := Lib.hid (Wi.eq_step (α := (Int × Int)) hx hy)
    obtain ⟨g, off, cap', he, hg, pc⟩ := H1.out.get HB.out hx
    injection he with he1 he2 he3
    subst he1 he3
    obtain ⟨g2, off2, cap2', he', hg2, sc⟩ := H2.out.get HB.out hy
    injection he' with he1' he2' he3'
    subst he1' he3'
    obtain ⟨x0, x1⟩ := x
    obtain ⟨y0, y1⟩ := y
    try dsimp only at *
    clear he2 he2'
    have p0 : wr.cell? ⟨g, off + k * 2, none⟩ = some (.int .i64 x0) := pc 0 _ rfl
    have s0 : wr.cell? ⟨g2, off2 + k * 2, none⟩ = some (.int .i64 y0) := sc 0 _ rfl
    have p1 : wr.cell? ⟨g, off + k * 2 + 1, none⟩ = some (.int .i64 x1) := pc 1 _ rfl
    have s1 : wr.cell? ⟨g2, off2 + k * 2 + 1, none⟩ = some (.int .i64 y1) := sc 1 _ rfl
    clear pc sc
    have hn := fun w => life_neq x0 x1 y0 y1 w
    have hk2 : k < r.length := by omega
    cases hb : decide ((x0, x1) = (y0, y1)) with
    | true =>
     have HX : Hid (decide (l = r) = decide (l.drop (k + 1) = r.drop (k + 1))) := by rw [Hid, HQ.out, HS.out, hb]; rfl
     simp only [hb, Bool.not_true] at hn
     clear HS hb
     go_wp2
     go_quiet (fail)
     have BQ : Hid (Below w.heap.size w (wr.drewN nq)) := below_drewN HB.out nq
     go_wp2
     go_roundw
     case rel => exact ⟨k + 1, by go_num, by omega, HX.out, BQ.out⟩
     case measure => simp [intOf]; omega
    | false =>
     have HX : Hid (decide (l = r) = false) := by rw [Hid, HQ.out, HS.out, hb]; rfl
     simp only [hb, Bool.not_false] at hn
     clear HS hb
     go_wp2
     go_quiet (fail)
     have BQ : Hid (Below w.heap.size w (wr.drewN nq)) := below_drewN HB.out nq
     go_wp2
     go_ret
     exact ⟨by rw [HX.out]; rfl, BQ.out⟩
   ·obtain rfl : k = l.length := by omega
    have HX : Hid (decide (l = r) = true) := by rw [Hid, HQ.out]; exact Wi.eq_end hlen
    go_wp2
    go_ret
    exact ⟨by rw [HX.out]; rfl, HB.out⟩
 ·have HX := Lib.hid (Wi.eq_len hlen)
  go_enter Tryz.func39, Tryz.ntmps39
  go_wp2
  go_ret
  exact ⟨by rw [HX.out]; rfl, Below.refl _ _⟩
set_option maxHeartbeats 1600000 in
theorem eqSlots_any (l r : List Wi.Slot) (hl : l.length ≤ maxLen) (hr : r.length ≤ maxLen) (lv rv : Value) (w : World) (h1 : Rw 3 slotC w lv l) (h2 : Rw 3 slotC w rv r) :
  Calls Tryz.prog 67 #[lv, rv] w fun e w' => e = .returned (.bool (decide (l = r))) ∧ Below w.heap.size w w' := by
 have H1 := Lib.hid h1
 have H2 := Lib.hid h2
 obtain ⟨a1, cap1, rfl⟩ := h1.form
 obtain ⟨a2, cap2, rfl⟩ := h2.form
 unfold maxLen at hl hr
 clear h1 h2
 by_cases hlen : l.length = r.length
 ·go_enter Tryz.func67, Tryz.ntmps67
  go_wp2
  go_loopw [13] (fun i wr => ∃ k : Nat, i = .int .i64 k ∧ k ≤ l.length ∧ decide (l = r) = decide (l.drop k = r.drop k) ∧ Below w.heap.size w wr) (fun i _ => l.length - (intOf i).toNat)
  case atStart => exact ⟨0, rfl, by omega, rfl, Below.refl _ _⟩
  case round =>
   obtain ⟨k, rfl, hk, hq, hb⟩ := hrel
   have HQ := Lib.hid hq
   have HB := Lib.hid hb
   clear hq hb
   by_cases hlt : k < l.length
   ·obtain ⟨x, hx⟩ : ∃ x, l[k]? = some x := ⟨l[k], by simp [hlt]⟩
    obtain ⟨y, hy⟩ : ∃ y, r[k]? = some y := ⟨r[k]'(by omega), by simp [← hlen, hlt]⟩
    have HS := Lib.hid (Wi.eq_step (α := Wi.Slot) hx hy)
    obtain ⟨g, off, cap', he, hg, pc⟩ := H1.out.get HB.out hx
    injection he with he1 he2 he3
    subst he1 he3
    obtain ⟨g2, off2, cap2', he', hg2, sc⟩ := H2.out.get HB.out hy
    injection he' with he1' he2' he3'
    subst he1' he3'
    obtain ⟨x0, x1, x2⟩ := x
    obtain ⟨y0, y1, y2⟩ := y
    try dsimp only at *
    clear he2 he2'
    have p0 : wr.cell? ⟨g, off + k * 3, none⟩ = some (.int .i64 x0) := pc 0 _ rfl
    have s0 : wr.cell? ⟨g2, off2 + k * 3, none⟩ = some (.int .i64 y0) := sc 0 _ rfl
    have p1 : wr.cell? ⟨g, off + k * 3 + 1, none⟩ = some (.int .i64 x1) := pc 1 _ rfl
    have s1 : wr.cell? ⟨g2, off2 + k * 3 + 1, none⟩ = some (.int .i64 y1) := sc 1 _ rfl
    have p2 : wr.cell? ⟨g, off + k * 3 + 2, none⟩ = some (.int .i64 x2) := pc 2 _ rfl
    have s2 : wr.cell? ⟨g2, off2 + k * 3 + 2, none⟩ = some (.int .i64 y2) := sc 2 _ rfl
    clear pc sc
    have hn := fun w => slot_neq x0 x1 x2 y0 y1 y2 w
    have hk2 : k < r.length := by omega
    cases hb : decide ((x0, x1, x2) = (y0, y1, y2)) with
    | true =>
     have HX : Hid (decide (l = r) = decide (l.drop (k + 1) = r.drop (k + 1))) := by rw [Hid, HQ.out, HS.out, hb]; rfl
     simp only [hb, Bool.not_true] at hn
     clear HS hb
     go_wp2
     go_quiet (fail)
     have BQ : Hid (Below w.heap.size w (wr.drewN nq)) := below_drewN HB.out nq
     go_wp2
     go_roundw
     case rel => exact ⟨k + 1, by go_num, by omega, HX.out, BQ.out⟩
     case measure => simp [intOf]; omega
    | false =>
     have HX : Hid (decide (l = r) = false) := by rw [Hid, HQ.out, HS.out, hb]; rfl
     simp only [hb, Bool.not_false] at hn
     clear HS hb
     go_wp2
     go_quiet (fail)
     have BQ : Hid (Below w.heap.size w (wr.drewN nq)) := below_drewN HB.out nq
     go_wp2
     go_ret
     exact ⟨by rw [HX.out]; rfl, BQ.out⟩
   ·obtain rfl : k = l.length := by omega
    have HX : Hid (decide (l = r) = true) := by rw [Hid, HQ.out]; exact Wi.eq_end hlen
    go_wp2
    go_ret
    exact ⟨by rw [HX.out]; rfl, HB.out⟩
 ·have HX := Lib.hid (Wi.eq_len hlen)
  go_enter Tryz.func67, Tryz.ntmps67
  go_wp2
  go_ret
  exact ⟨by rw [HX.out]; rfl, Below.refl _ _⟩
end Go.Proofs.YtbljbdjmgogknaaGreatDoor
