/-
  The tape's Left, walked: a loop over the map, whatever the order.
  Conditions: none but the tape's form.
-/
import Derived.Test.YtohimlahncbpjaaTb
set_option linter.unusedVariables false
set_option linter.unusedSimpArgs false
namespace Go.Proofs.Ytohimlahncbpjaa
open Go.RowKit

theorem fmap_cons_perm {lf : List TF} {k : List UInt8} {v : Value} {left' : MapL} (h : (fmap lf).Perm ((k, v) :: left')) : ∃ f lf', lf.Perm (f :: lf') ∧ k = f.name ∧ v = f.ptr ∧ left'.Perm (fmap lf') := by
  have hm : (k, v) ∈ fmap lf := h.symm.subset List.mem_cons_self
  obtain ⟨f, hf, he⟩ := List.mem_map.1 hm
  obtain ⟨s, t, rfl⟩ := List.append_of_mem hf
  simp only [Prod.mk.injEq] at he
  refine ⟨f, s ++ t, List.perm_middle, he.1.symm, he.2.symm, ?_⟩
  have h2 : (fmap (s ++ f :: t)).Perm ((k, v) :: fmap (s ++ t)) := by
    have := (List.perm_middle (a := f) (l₁ := s) (l₂ := t)).map (fun f : TF => (f.name, f.ptr))
    simp only [List.map_cons, he.1, he.2] at this
    exact this
  exact (List.Perm.cons_inv (h.symm.trans h2))
theorem left_nil (w : World) : Calls Try.prog 13 #[.pointer none] w fun e w' => e = .returned (.int .i64 0) ∧ w = w' := by
  go_enter Try.func13, Try.ntmps13
  go_wp2
  go_ret
  exact ⟨rfl, rfl⟩
set_option maxRecDepth 20000 in
set_option maxHeartbeats 800000 in
theorem left_any (O : Nat → Prop) (p m : Nat) (t : Tp) (w : World) (h : TapeW w O p m t) (hok : TapeOk t) :
    Calls Try.prog 13 #[.pointer (some ⟨p, 0, none⟩)] w fun e w' => e = .returned (.int .i64 (t.room - total t.files)) ∧ Below w.heap.size w w' := by
  have H := Lib.hid h
  obtain ⟨c0, c1, c2, c3, c4, c5⟩ := tape_cells h
  have r0 := hok.r0
  have r1 := hok.r1
  have tt := hok.tot
  obtain ⟨w1, hrun, hrg, hb1, hs1⟩ := h.M.range (P := Try.prog) (T := 48) Try.underlying48
  have R1 := Lib.hid hrg
  have B1 := Lib.hid hb1
  have T1 := Lib.hid (h.below hb1)
  clear h hok hrg hb1 hs1
  go_enter Try.func13, Try.ntmps13
  go_wp2
  go_loopw [3] (fun n wr => ∃ lf : List TF, n = .int .i64 (t.room - total t.files + total lf) ∧ total lf ≤ total t.files ∧ Rg wr m w.heap.size (fmap t.files) (fmap lf) ∧ (∀ f ∈ lf, f ∈ t.files) ∧ TapeW wr O p m t ∧ Below w.heap.size w wr) (fun _ wr => wr.rangeLeft m w.heap.size)
  case atStart => exact ⟨t.files, by simp, Nat.le_refl _, R1.out, fun f hf => hf, T1.out, B1.out⟩
  case round =>
    obtain ⟨lf, rfl, hle, hR, hsub, hT, hB⟩ := hrel
    have BR := Lib.hid hB
    have TR := Lib.hid hT
    have RR := Lib.hid hR
    have HS := Lib.hid hsub
    clear hB hT hsub
    rcases hR.next (P := Try.prog) 0 with ⟨h0, hnx⟩ | ⟨k, v, left', w2, hperm, hnx, hR2, hk2, hs2, hmem, hent⟩
    · have hl0 : lf = [] := by simpa [fmap] using h0
      subst hl0
      clear hR h0
      have hz : Hid (total ([] : List TF) = 0) := rfl
      rw [hz.out]
      generalize htf : total t.files = tf at *
      have HTF := Lib.hid htf
      clear htf
      go_wp2
      go_ret
      exact ⟨by rw [HTF.out]; simp, BR.out⟩
    · obtain ⟨f, lf', hp, rfl, rfl, hp2⟩ := fmap_cons_perm hperm
      have hfm : f ∈ t.files := HS.out f (hp.symm.subset List.mem_cons_self)
      have hr : ∀ k, O k → ¬ (k = w.heap.size) := fun k hk e => by have := H.out.lt k hk; omega
      have T2 := Lib.hid (TR.out.kept hk2 hr)
      have B2 := Lib.hid (BR.out.trans (hk2.toBelow (B := w.heap.size) BR.out.size (fun k hk e => by omega)))
      have R2 := Lib.hid (hR2.perm hp2)
      have f0 : w2.cell? ⟨f.blk, 0, none⟩ = some (.string ⟨f.data.toArray⟩) := (T2.out.F f hfm).cell 0
      have ht := total_perm hp
      have ht2 : total (f :: lf') = f.data.length + total lf' := by simp [total]
      rw [ht2] at ht
      have HT := Lib.hid ht
      rw [ht] at hle ⊢
      have HL : Hid (w2.rangeLeft m w.heap.size < wr.rangeLeft m w.heap.size) := by
        rw [Hid, R2.out.left_eq, RR.out.left_eq]
        have := hp.length_eq
        simp only [fmap, List.length_map, List.length_cons] at this ⊢
        omega
      have HS2 := Lib.hid (fun g (hg : g ∈ lf') => HS.out g (hp.symm.subset (List.mem_cons_of_mem _ hg)))
      clear hR hR2 hperm hk2 hs2 hmem hp hp2 ht ht2 RR TR
      generalize htf : total t.files = tf at *
      generalize hx : total lf' = x at *
      have HTF := Lib.hid htf
      have HXX := Lib.hid hx
      clear htf hx
      go_wp2
      go_roundw
      case rel => exact ⟨lf', by rw [HXX.out]; congr 1; omega, by rw [HXX.out]; omega, R2.out, HS2.out, T2.out, B2.out⟩
      case measure => exact HL.out

end Go.Proofs.Ytohimlahncbpjaa
