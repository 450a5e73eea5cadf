/-
  maps.DeleteFunc at records: what is Gone goes; walked.
  Conditions: none.
-/
import Derived.Test.YtccndbifnbmddaaWh
set_option linter.unusedVariables false
set_option linter.unusedSimpArgs false
namespace Go.Proofs.Ytccndbifnbmddaa
open Go.RowKit

/-- What the map holds while lm is still to come. -/
def curR (l lm : RM) : RM := l.filter (fun q => !q.2.gone || decide (q.1 ∈ lm.map (·.1)))
def liveR (l : RM) : RM := l.filter (fun q => !q.2.gone)
theorem curR_start (l : RM) : curR l l = l := by
  rw [curR, List.filter_eq_self]
  intro q hq
  have : q.1 ∈ l.map (·.1) := List.mem_map_of_mem hq
  simp only [this, decide_true, Bool.or_true]
theorem curR_end (l : RM) : curR l [] = liveR l := by simp [curR, liveR]
theorem nodup_key {l : RM} (hn : (l.map (·.1)).Nodup) {p q : List UInt8 × Cr.Rec} (hp : p ∈ l) (hq : q ∈ l) (h : p.1 = q.1) : p = q := by
  induction l with
  | nil => cases hp
  | cons a l ih =>
    simp only [List.map_cons, List.nodup_cons] at hn
    rcases List.mem_cons.1 hp with h1 | h1
    · rcases List.mem_cons.1 hq with h2 | h2
      · rw [h1, h2]
      · exact absurd (by rw [← h1, h]; exact List.mem_map_of_mem (f := (·.1)) h2) hn.1
    · rcases List.mem_cons.1 hq with h2 | h2
      · exact absurd (by rw [← h2, ← h]; exact List.mem_map_of_mem (f := (·.1)) h1) hn.1
      · exact ih hn.2 h1 h2
theorem mem_perm {lm lm' : RM} {k : List UInt8} {x : Cr.Rec} (hp : lm.Perm ((k, x) :: lm')) (j : List UInt8) : j ∈ lm.map (·.1) ↔ j = k ∨ j ∈ lm'.map (·.1) := by
  rw [(hp.map (·.1)).mem_iff]
  simp
theorem curR_stay {l lm lm' : RM} (hn : (l.map (·.1)).Nodup) {k : List UInt8} {x : Cr.Rec} (hp : lm.Perm ((k, x) :: lm')) (hm : (k, x) ∈ l) (hg : x.gone = false) : curR l lm = curR l lm' := by
  refine List.filter_congr (fun q hq => ?_)
  by_cases e : q.1 = k
  · have := nodup_key hn hq hm e
    subst this
    simp [hg]
  · have := mem_perm hp q.1
    simp only [e, false_or] at this
    simp only [this]
theorem curR_gone {l lm lm' : RM} (hn : (l.map (·.1)).Nodup) (hn2 : (lm.map (·.1)).Nodup) {k : List UInt8} {x : Cr.Rec} (hp : lm.Perm ((k, x) :: lm')) (hm : (k, x) ∈ l) (hg : x.gone = true) : delR (curR l lm) k = curR l lm' := by
  have hnc : ((curR l lm).map (·.1)).Nodup := hn.sublist (List.filter_sublist.map _)
  rw [filter_del hnc, curR, List.filter_filter]
  refine List.filter_congr (fun q hq => ?_)
  by_cases e : q.1 = k
  · have := nodup_key hn hq hm e
    subst this
    have h3 := (hp.map (·.1)).nodup_iff.1 hn2
    simp only [List.map_cons, List.nodup_cons] at h3
    simp [hg]
    exact fun y hy => h3.1 (List.mem_map.2 ⟨_, hy, rfl⟩)
  · have := mem_perm hp q.1
    simp only [e, false_or] at this
    simp only [this, bne_iff_ne, ne_eq, e, not_false_eq_true]
    cases q.2.gone <;> simp [e]
set_option maxRecDepth 20000 in
set_option maxHeartbeats 1600000 in
theorem delgone_any (m : Nat) (l : RM) (w : World) (h : Mp w m (rmap l)) :
    Calls Try.prog 30 #[.map (some m), .func (.func 31) #[] #[]] w fun e w' => e = .returned (.tuple #[]) ∧ Mp w' m (rmap (liveR l)) ∧ Keeps (fun j => j = m) w w' := by
  have hmlt := h.lt
  have hnd := h.nodup
  rw [keys_rmap] at hnd
  have ND := Lib.hid hnd
  obtain ⟨w1, hrun, hrg, hb1, hs1⟩ := h.range (P := Try.prog) (T := 58) Try.underlying58
  have R1 : Hid (Rg w1 m w.heap.size (rmap (curR l l)) (rmap l)) := by rw [curR_start]; exact hrg
  have B1 : Hid (Keeps (fun j => j = m) w w1) := Keeps.below _ hb1
  clear h hrg hb1 hs1 hnd
  go_enter Try.func30, Try.ntmps30
  go_wp2
  go_loopw [8] (fun _ wr => ∃ lm : RM, Rg wr m w.heap.size (rmap (curR l lm)) (rmap lm) ∧ (∀ q ∈ lm, q ∈ l) ∧ (lm.map (·.1)).Nodup ∧ Keeps (fun j => j = m) w wr) (fun _ wr => wr.rangeLeft m w.heap.size)
  case atStart => exact ⟨l, R1.out, fun q hq => hq, ND.out, B1.out⟩
  case round =>
    obtain ⟨lm, hR, hsub, hnl, hK⟩ := hrel
    have RGR := Lib.hid hR
    have HS := Lib.hid hsub
    have HN := Lib.hid hnl
    have KR := Lib.hid hK
    clear hsub hnl hK R1 B1 hrun
    rcases hR.next (P := Try.prog) 0 with ⟨h0, hnx⟩ | ⟨k, v, left', w2, hperm, hnx, hR2, hk2, hs2, hmem, hent⟩
    · have hl0 : lm = [] := by simpa [rmap] using h0
      subst hl0
      clear hR h0
      go_wp2
      go_end0
      exact ⟨rfl, by rw [← curR_end]; exact RGR.out.mp, KR.out⟩
    · obtain ⟨lm2, he2, hp2⟩ := rmap_perm (hperm.symm)
      cases lm2 with
      | nil => cases he2
      | cons q lm' =>
      simp only [rmap, List.map_cons, List.cons.injEq, Prod.mk.injEq] at he2
      obtain ⟨⟨rfl, rfl⟩, rfl⟩ := he2
      obtain ⟨k, x⟩ := q
      have hp3 : Hid (lm.Perm ((k, x) :: lm')) := hp2.symm
      have hml : Hid ((k, x) ∈ l) := HS.out _ (hp2.subset List.mem_cons_self)
      have HS2 : Hid (∀ q ∈ lm', q ∈ l) := fun q hq => HS.out q (hp2.subset (List.mem_cons_of_mem _ hq))
      have HN2 : Hid ((lm'.map (·.1)).Nodup) := by
        have := (hp3.out.map (·.1)).nodup_iff.1 HN.out
        simp only [List.map_cons, List.nodup_cons] at this
        exact this.2
      have HNK : Hid (k ∉ keysL (rmap lm')) := by
        have := (hp3.out.map (·.1)).nodup_iff.1 HN.out
        simp only [List.map_cons, List.nodup_cons] at this
        rw [Hid, keys_rmap]
        exact this.1
      have hR2' : Rg w2 m w.heap.size (rmap (curR l lm)) (rmap lm') := hR2
      obtain ⟨xo, xk, xv, xg⟩ := x
      have BA : Below w2.heap.size w2 (w2.alloc (.cells #[.int .i64 xo, .string ⟨xk.toArray⟩, .string ⟨xv.toArray⟩, .bool xg] 44)) := (Below.refl _ _).alloc (Nat.le_refl _) _
      have C3 : Hid (Cl (w2.alloc (.cells #[.int .i64 xo, .string ⟨xk.toArray⟩, .string ⟨xv.toArray⟩, .bool xg] 44)) w2.heap.size [.int .i64 xo, .string ⟨xk.toArray⟩, .string ⟨xv.toArray⟩, .bool xg] 44) := Cl.new w2 _ _
      have R3 : Hid (Rg (w2.alloc (.cells #[.int .i64 xo, .string ⟨xk.toArray⟩, .string ⟨xv.toArray⟩, .bool xg] 44)) m w.heap.size (rmap (curR l lm)) (rmap lm')) := hR2'.kept (Keeps.below (fun _ => False) BA) id id
      have hrr : ∀ j, j < w.heap.size → j = w.heap.size → False := fun j hj e => by omega
      have K3 : Hid (Keeps (fun j => j = m) w (w2.alloc (.cells #[.int .i64 xo, .string ⟨xk.toArray⟩, .string ⟨xv.toArray⟩, .bool xg] 44))) := by
        have h2 : Keeps (fun j => j = m) w w2 := by
          have := KR.out
          refine ⟨hk2.os.trans this.os, hk2.tape.trans this.tape, hk2.output.trans this.output, Nat.le_trans this.size hk2.size, fun j hj hs => (hk2.block j (Nat.lt_of_lt_of_le hj this.size) (fun e => by omega)).trans (this.block j hj hs)⟩
        exact h2.trans (Keeps.below _ BA)
      have HLT : Hid (lm.length = lm'.length + 1) := by have := hp3.out.length_eq; rw [Hid]; simpa using this
      unfold recV at hnx hent
      dsimp only at hnx hent
      clear hR hR2 hR2' hperm hk2 hs2 hmem hp2 BA hrr
      go_upto_region 3 with (fail)
      generalize w2.alloc (.cells #[.int .i64 xo, .string ⟨xk.toArray⟩, .string ⟨xv.toArray⟩, .bool xg] 44) = w3 at *
      generalize w2.heap.size = q3 at C3 ⊢
      have d0 := C3.out.cell 0
      have d1 := C3.out.cell 1
      have d2 := C3.out.cell 2
      have d3 := C3.out.cell 3
      simp only [List.getElem?_cons_zero, List.getElem?_cons_succ] at d0 d1 d2 d3
      have HG := Lib.hid (gone_any k ⟨xo, xk, xv, xg⟩ w3)
      unfold recV at HG
      dsimp only at HG
      cases xg with
      | false =>
        have HC : Hid (curR l lm = curR l lm') := curR_stay ND.out hp3.out hml.out rfl
        go_wp2_with fail
        refine HG.out.mono ?_
        rintro e w4 ⟨rfl, hb4⟩
        have R4 : Hid (Rg w4 m w.heap.size (rmap (curR l lm')) (rmap lm')) := by
          rw [← HC.out]
          exact R3.out.kept (Keeps.below (fun _ => False) hb4) id id
        have K4 : Hid (Keeps (fun j => j = m) w w4) := K3.out.trans (Keeps.below _ hb4)
        have HL : Hid (w4.rangeLeft m w.heap.size < wr.rangeLeft m w.heap.size) := by
          rw [Hid, R4.out.left_eq, RGR.out.left_eq]
          simp only [rmap, List.length_map]
          have := HLT.out
          omega
        clear hb4
        go_wp2
        go_roundw
        case rel => exact ⟨lm', R4.out, HS2.out, HN2.out, K4.out⟩
        case measure => exact HL.out
      | true =>
        have HC : Hid (delR (curR l lm) k = curR l lm') := curR_gone ND.out HN.out hp3.out hml.out rfl
        go_wp2_with fail
        refine HG.out.mono ?_
        rintro e w4 ⟨rfl, hb4⟩
        have R4 : Rg w4 m w.heap.size (rmap (curR l lm)) (rmap lm') := R3.out.kept (Keeps.below (fun _ => False) hb4) id id
        obtain ⟨w5, hdel, hR5, hk5, hs5⟩ := R4.drop (P := Try.prog) (T := 58) Try.underlying58 Try.underlying9 k HNK.out 9 0
        rw [del_rmap, HC.out] at hR5
        have R5 := Lib.hid hR5
        have K5 : Hid (Keeps (fun j => j = m) w w5) := (K3.out.trans (Keeps.below _ hb4)).trans hk5
        have HL : Hid (w5.rangeLeft m w.heap.size < wr.rangeLeft m w.heap.size) := by
          rw [Hid, R5.out.left_eq, RGR.out.left_eq]
          simp only [rmap, List.length_map]
          have := HLT.out
          omega
        clear hb4 R4 hR5 hk5 hs5
        go_wp2
        go_roundw
        case rel => exact ⟨lm', R5.out, HS2.out, HN2.out, K5.out⟩
        case measure => exact HL.out

end Go.Proofs.Ytccndbifnbmddaa
