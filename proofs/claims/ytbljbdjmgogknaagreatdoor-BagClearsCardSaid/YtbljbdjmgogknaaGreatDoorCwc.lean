/-
  Crate: Fits, walked, with the library's functions under it; the document's num, rec, Fits.
  Conditions: none.
-/
import Derived.Test.YtbljbdjmgogknaaGreatDoorCwb
set_option linter.unusedVariables false
set_option linter.unusedSimpArgs false
namespace Go.Proofs.YtbljbdjmgogknaaGreatDoor
open Go.RowKit

/-- A record's cells, in a later world. -/
theorem Recs.get {w w' : World} {v : Value} {l : List Cr.Rec} (h : Recs w v l) (hb : Below w.heap.size w w') {k : Nat} {x : Cr.Rec} (hk : l[k]? = some x) : ∃ g off cap, v = .slice (some ⟨g, off, none⟩) l.length cap ∧ g < w.heap.size ∧
    w'.cell? ⟨g, off + k * 4, none⟩ = some (.int .i64 x.off) ∧ w'.cell? ⟨g, off + k * 4 + 1, none⟩ = some (.string ⟨x.key.toArray⟩) ∧ w'.cell? ⟨g, off + k * 4 + 2, none⟩ = some (.string ⟨x.val.toArray⟩) ∧ w'.cell? ⟨g, off + k * 4 + 3, none⟩ = some (.bool x.gone) := by
  obtain ⟨a, cap, rfl, hc⟩ := h
  obtain ⟨g, off, rfl, hg, h1, h2, h3, h4⟩ := hc k x hk
  exact ⟨g, off, cap, rfl, hg, (hb.cell (p := ⟨g, off + k * 4, none⟩) hg).trans h1, (hb.cell (p := ⟨g, off + k * 4 + 1, none⟩) hg).trans h2, (hb.cell (p := ⟨g, off + k * 4 + 2, none⟩) hg).trans h3, (hb.cell (p := ⟨g, off + k * 4 + 3, none⟩) hg).trans h4⟩
theorem Recs.form {w : World} {v : Value} {l : List Cr.Rec} (h : Recs w v l) : ∃ a cap, v = .slice a l.length cap := by
  obtain ⟨a, cap, rfl, _⟩ := h
  exact ⟨a, cap, rfl⟩
/-- The first record that cannot be. -/
def idxBad : Nat → List Cr.Rec → Int
  | _, [] => -1
  | k, x :: r => if Cr.isRec x then idxBad (k + 1) r else k
theorem idxBad_step (l : List Cr.Rec) (k : Nat) (x : Cr.Rec) (h : l[k]? = some x) : idxBad k (l.drop k) = if Cr.isRec x then idxBad (k + 1) (l.drop (k + 1)) else k := by
  obtain ⟨hk, rfl⟩ := List.getElem?_eq_some_iff.1 h
  rw [List.drop_eq_getElem_cons hk]
  rfl
theorem idxBad_all (l : List Cr.Rec) : ∀ k, decide (0 ≤ idxBad k l) = !l.all Cr.isRec ∧ -1 ≤ idxBad k l ∧ idxBad k l ≤ k + l.length := by
  induction l with
  | nil => intro k; simp [idxBad]
  | cons x r ih =>
    intro k
    cases h : Cr.isRec x with
    | true =>
      obtain ⟨h1, h2, h3⟩ := ih (k + 1)
      simp only [idxBad, h, if_true, List.all_cons, Bool.true_and, List.length_cons]
      exact ⟨h1, h2, by omega⟩
    | false =>
      simp [idxBad, h]
      omega
theorem all_step (l : List Cr.Rec) (k : Nat) (x : Cr.Rec) (h : l[k]? = some x) : (l.drop k).all Cr.isRec = (Cr.isRec x && (l.drop (k + 1)).all Cr.isRec) := by
  obtain ⟨hk, rfl⟩ := List.getElem?_eq_some_iff.1 h
  rw [List.drop_eq_getElem_cons hk]
  rfl
theorem fits1_any (x : Cr.Rec) (hx : RecOk x) (w : World) : Calls Tryz.prog 126 #[recV x] w fun e w' => e = .returned (.bool (!Cr.isRec x)) ∧ Below w.heap.size w w' := by
  have HN := Lib.hid (fun w => isRec_any x hx w)
  obtain ⟨t0, t1, t2, t3⟩ := rec_cells w x _ (Below.refl _ _)
  obtain ⟨x0, xk, xv, xg⟩ := x
  have HB0 : Hid (Below w.heap.size w (w.alloc (.cells #[.int .i64 x0, .string ⟨xk.toArray⟩, .string ⟨xv.toArray⟩, .bool xg] 67))) := (Below.refl _ _).alloc (Nat.le_refl _) _
  generalize Cr.isRec ⟨x0, xk, xv, xg⟩ = r at HN
  clear hx
  unfold recV at *
  dsimp only at *
  go_enter Tryz.func126, Tryz.ntmps126
  go_wp2_with fail
  refine (HN.out _).mono ?_
  rintro e w1 ⟨rfl, hb⟩
  have HB := Lib.hid (bt HB0.out hb)
  clear hb
  go_wp2
  go_ret
  exact ⟨rfl, HB.out⟩
set_option maxHeartbeats 800000 in
theorem idx_any (l : List Cr.Rec) (hok : ∀ x ∈ l, RecOk x) (hl : l.length ≤ maxLen) (rv : Value) (w : World) (h : Recs w rv l) :
    Calls Tryz.prog 125 #[rv, .func (.func 126) #[] #[]] w fun e w' => e = .returned (.int .i64 (idxBad 0 l)) ∧ Below w.heap.size w w' := by
  have HZ := Lib.hid h
  have HR := Lib.hid hok
  obtain ⟨a, cap, rfl⟩ := h.form
  unfold maxLen at hl
  clear h hok
  go_enter Tryz.func125, Tryz.ntmps125
  go_wp2
  go_loopw [8] (fun i wr => ∃ k : Nat, i = .int .i64 k ∧ k ≤ l.length ∧ idxBad 0 l = idxBad k (l.drop k) ∧ Below w.heap.size w wr) (fun i _ => l.length - (intOf i).toNat)
  case atStart => exact ⟨0, rfl, by omega, rfl, Below.refl _ _⟩
  case round =>
    obtain ⟨k, rfl, hk, hr, hb⟩ := hrel
    have HR2 := Lib.hid hr
    have HB := Lib.hid hb
    clear hr hb
    by_cases hlt : k < l.length
    · obtain ⟨x, hx⟩ : ∃ x, l[k]? = some x := ⟨l[k], by simp [hlt]⟩
      have HN := Lib.hid (fun w => fits1_any x (HR.out x (List.mem_of_getElem? hx)) w)
      have HS := Lib.hid (idxBad_step l k x hx)
      obtain ⟨g, off, cap', he, hg, p0, p1, p2, p3⟩ := HZ.out.get HB.out hx
      injection he with he1 he2 he3
      subst he1 he3
      obtain ⟨x0, xk, xv, xg⟩ := x
      unfold recV at HN
      dsimp only at *
      clear he2
      cases hb : Cr.isRec ⟨x0, xk, xv, xg⟩ with
      | true =>
        have HX : Hid (idxBad 0 l = idxBad (k + 1) (l.drop (k + 1))) := by rw [Hid, HR2.out, HS.out, hb]; rfl
        rw [hb] at HN
        clear HS hb
        go_wp2_with fail
        refine (HN.out _).mono ?_
        rintro e w5 ⟨rfl, hb5⟩
        have B5 := Lib.hid (bt HB.out hb5)
        clear hb5
        go_wp2
        go_roundw
        case rel => exact ⟨k + 1, by go_num, by omega, HX.out, B5.out⟩
        case measure => simp [intOf]; omega
      | false =>
        have HX : Hid (idxBad 0 l = k) := by rw [Hid, HR2.out, HS.out, hb]; rfl
        rw [hb] at HN
        clear HS hb
        go_wp2_with fail
        refine (HN.out _).mono ?_
        rintro e w5 ⟨rfl, hb5⟩
        have B5 := Lib.hid (bt HB.out hb5)
        clear hb5
        go_wp2
        go_ret
        exact ⟨by rw [HX.out]; rfl, B5.out⟩
    · obtain rfl : k = l.length := by omega
      have HX : Hid (idxBad 0 l = -1) := by rw [Hid, HR2.out, List.drop_length]; rfl
      go_wp2
      go_ret
      exact ⟨by rw [HX.out]; rfl, HB.out⟩
theorem contains_any (l : List Cr.Rec) (hok : ∀ x ∈ l, RecOk x) (hl : l.length ≤ maxLen) (rv : Value) (w : World) (h : Recs w rv l) :
    Calls Tryz.prog 101 #[rv, .func (.func 126) #[] #[]] w fun e w' => e = .returned (.bool (!l.all Cr.isRec)) ∧ Below w.heap.size w w' := by
  have HI := Lib.hid (idx_any l hok hl rv w h)
  obtain ⟨h1, h2, h3⟩ := idxBad_all l 0
  have H1 := Lib.hid h1
  unfold maxLen at hl
  clear h hok h1
  generalize idxBad 0 l = n at *
  go_enter Tryz.func101, Tryz.ntmps101
  go_wp2_with fail
  refine HI.out.mono ?_
  rintro e w1 ⟨rfl, hb⟩
  have HB := Lib.hid hb
  clear hb
  go_wp2
  go_ret
  refine ⟨?_, HB.out⟩
  rw [← H1.out]
  rfl
theorem fits_any (l : List Cr.Rec) (hok : ∀ x ∈ l, RecOk x) (hl : l.length ≤ maxLen) (rv : Value) (w : World) (h : Recs w rv l) :
    Calls Tryz.prog 103 #[rv] w fun e w' => e = .returned (.bool (Cr.fits l)) ∧ Below w.heap.size w w' := by
  have HI := Lib.hid (contains_any l hok hl rv w h)
  have HE : Hid (Cr.fits l = (decide (1 ≤ l.length) && (decide (l.length ≤ 8) && l.all Cr.isRec))) := rfl
  obtain ⟨a, cap, rfl⟩ := h.form
  unfold maxLen at hl
  clear h hok
  by_cases h1 : 1 ≤ l.length
  · by_cases h2 : l.length ≤ 8
    · have HX : Hid (Cr.fits l = l.all Cr.isRec) := by rw [Hid, HE.out, decide_eq_true h1, decide_eq_true h2]; rfl
      generalize l.all Cr.isRec = r at HI HX
      generalize l.length = n at *
      go_enter Tryz.func103, Tryz.ntmps103
      go_wp2_with fail
      refine HI.out.mono ?_
      rintro e w1 ⟨rfl, hb⟩
      have HB := Lib.hid hb
      clear hb
      go_wp2
      go_ret
      exact ⟨by rw [HX.out]; simp, HB.out⟩
    · have HX : Hid (Cr.fits l = false) := by rw [Hid, HE.out, decide_eq_false h2]; simp
      generalize l.length = n at *
      go_enter Tryz.func103, Tryz.ntmps103
      go_wp2
      go_ret
      exact ⟨by rw [HX.out]; simp, Below.refl _ _⟩
  · have HX : Hid (Cr.fits l = false) := by rw [Hid, HE.out, decide_eq_false h1]; simp
    obtain rfl : l = [] := List.eq_nil_of_length_eq_zero (by omega)
    go_enter Tryz.func103, Tryz.ntmps103
    go_wp2
    go_ret
    exact ⟨by rw [HX.out]; simp, Below.refl _ _⟩

end Go.Proofs.YtbljbdjmgogknaaGreatDoor
