/-
  rising, walked.
  Conditions: none but the model's longest length.
-/
import Derived.Test.YtccndbifnbmddaaXc
set_option linter.unusedVariables false
set_option linter.unusedSimpArgs false
namespace Go.Proofs.Ytccndbifnbmddaa
open Go.RowKit

/-- The time of the i-th batch. -/
def timeOf (ts : List Int) (i : Nat) : Int := if ts.length = 0 then 0 else um (ts.getD (i % ts.length) 0) 1000
def risB (ts : List Int) (i : Nat) (x : Cr.Rec) : Cr.Batch := ⟨i, 1, 0, 0, timeOf ts i, [{ x with off := i }]⟩
def risL (recs : List Cr.Rec) (ts : List Int) (k : Nat) : List Cr.Batch := (recs.take k).mapIdx (risB ts)
theorem risL_len (recs : List Cr.Rec) (ts : List Int) (k : Nat) (h : k ≤ recs.length) : (risL recs ts k).length = k := by simp [risL]; omega
theorem risL_succ {recs : List Cr.Rec} (ts : List Int) {k : Nat} {x : Cr.Rec} (h : recs[k]? = some x) : risL recs ts (k + 1) = risL recs ts k ++ [risB ts k x] := by
  obtain ⟨hk, rfl⟩ := List.getElem?_eq_some_iff.1 h
  rw [risL, List.take_succ_eq_append_getElem hk, List.mapIdx_append]
  simp [risL, Nat.min_eq_left (Nat.le_of_lt hk)]
def rising (recs : List Cr.Rec) (ts : List Int) : List Cr.Batch := risL recs ts (min recs.length 40)
/-- A row of batches under way. -/
structure RiW (w0 w : World) (v : Value) (L : List BV) (l : List Cr.Batch) : Prop where
  sl : Sl w w0.heap.size 6 v l.length (bvCells L)
  map : L.map (·.1) = l
  recs : ∀ q ∈ L, Recs w q.2 q.1.recs
  ap : ∀ q ∈ L, ∀ j, q.2.ownBlock = some j → j < w.heap.size ∧ v.ownBlock ≠ some j
  bel : Below w0.heap.size w0 w
theorem Recs.keepS {w w' : World} {S : Nat → Prop} {v : Value} {l : List Cr.Rec} (h : Recs w v l) (k : Keeps S w w') (hs : ∀ j, v.ownBlock = some j → ¬ S j) : Recs w' v l := by
  obtain ⟨a, cap, rfl, hc⟩ := h
  refine ⟨a, cap, rfl, fun i x hx => ?_⟩
  obtain ⟨g', off, rfl, hg, h0, h1, h2, h3⟩ := hc i x hx
  have hn : ¬ S g' := hs g' rfl
  exact ⟨g', off, rfl, Nat.lt_of_lt_of_le hg k.size, (k.cell (a := ⟨g', off + i * 4, none⟩) hg hn).trans h0, (k.cell (a := ⟨g', off + i * 4 + 1, none⟩) hg hn).trans h1, (k.cell (a := ⟨g', off + i * 4 + 2, none⟩) hg hn).trans h2, (k.cell (a := ⟨g', off + i * 4 + 3, none⟩) hg hn).trans h3⟩
theorem RiW.below {w0 w w' : World} {v : Value} {L : List BV} {l : List Cr.Batch} (h : RiW w0 w v L l) (hb : Below w.heap.size w w') : RiW w0 w' v L l :=
  ⟨h.sl.kept (Keeps.below (fun _ => False) hb) (fun _ _ => id), h.map, fun q hq => (h.recs q hq).kept hb, fun q hq j hj => ⟨Nat.lt_of_lt_of_le (h.ap q hq j hj).1 hb.size, (h.ap q hq j hj).2⟩, h.bel.trans (hb.mono h.bel.size)⟩
/-- A store into a block that is none of the row's and lay not before the call. -/
theorem RiW.other {w0 w : World} {v : Value} {L : List BV} {l : List Cr.Batch} (h : RiW w0 w v L l) (p : Addr) (u : Value) (h1 : v.ownBlock ≠ some p.block) (h2 : ∀ q ∈ L, q.2.ownBlock ≠ some p.block) (h3 : w0.heap.size ≤ p.block) : RiW w0 (w.setCell p u) v L l :=
  ⟨h.sl.otherCell p u h1, h.map, fun q hq => (h.recs q hq).keepS (S := fun j => j = p.block) (Keeps.setCell _ _ _ _ rfl) (fun j hj e => h2 q hq (e ▸ hj)), fun q hq j hj => ⟨by have := (h.ap q hq j hj).1; simpa [World.setCell] using this, (h.ap q hq j hj).2⟩, h.bel.setCell h3 u⟩
theorem RiW.push {w0 w w4 : World} {v v' : Value} {L : List BV} {l : List Cr.Batch} (h : RiW w0 w v L l) (b : Cr.Batch) (rv : Value) (o : Obj) (hr : Recs w rv b.recs) (ha : ∀ j, rv.ownBlock = some j → j < w.heap.size ∧ v.ownBlock ≠ some j)
    (hown : Sl w4 w0.heap.size 6 v' (l.length + 1) (bvCells L ++ batC (b, rv))) (hg : (w.alloc o).grownBy w4 v.ownBlock) (hnew : v'.ownBlock = v.ownBlock ∨ ∀ k, v'.ownBlock = some k → (w.alloc o).heap.size ≤ k) :
    RiW w0 w4 v' (L ++ [(b, rv)]) (l ++ [b]) := by
  have K : Keeps (fun j => v.ownBlock = some j) w w4 := (Keeps.alloc _ _ _).trans (Keeps.grown hg (fun j hj => hj))
  have hlo := h.sl.lt
  have hnv : ∀ j, j < w.heap.size → v.ownBlock ≠ some j → v'.ownBlock ≠ some j := fun j hj hn e => by
    rcases hnew with h1 | h1
    · exact hn (h1 ▸ e)
    · have := h1 j e
      simp at this
      omega
  have hall : ∀ q ∈ L ++ [(b, rv)], Recs w q.2 q.1.recs ∧ ∀ j, q.2.ownBlock = some j → j < w.heap.size ∧ v.ownBlock ≠ some j := fun q hq => by
    rcases List.mem_append.1 hq with h1 | h1
    · exact ⟨h.recs q h1, h.ap q h1⟩
    · rw [List.mem_singleton.1 h1]; exact ⟨hr, ha⟩
  refine ⟨?_, by rw [List.map_append, h.map]; rfl, fun q hq => (hall q hq).1.keepS K (fun j hj e => ((hall q hq).2 j hj).2 e), fun q hq j hj => ⟨Nat.lt_of_lt_of_le ((hall q hq).2 j hj).1 K.size, hnv j ((hall q hq).2 j hj).1 ((hall q hq).2 j hj).2⟩, h.bel.trans (K.toBelow h.bel.size (fun j hj e => by have := (hlo j e).1; omega))⟩
  have e : bvCells (L ++ [(b, rv)]) = bvCells L ++ batC (b, rv) := by simp [bvCells]
  rw [e, List.length_append]
  exact hown
theorem RiW.bats {w0 w : World} {v : Value} {L : List BV} {l : List Cr.Batch} (h : RiW w0 w v L l) : Bats w v l := by
  rcases h.sl.2 with ⟨hv, h0⟩ | ⟨g, off, cap, hv, _⟩
  · have hl : l = [] := List.eq_nil_of_length_eq_zero h0
    have h1 := h.sl
    rw [hv, hl]
    exact ⟨none, 0, rfl, fun i x hx => by simp at hx⟩
  · exact h.sl.bats (g := g) h.map rfl (fun q hq => ⟨h.recs q hq, fun _ e => (h.ap q hq g e).2 (by rw [hv]; rfl)⟩)
def RisPost (w : World) (l : List Cr.Batch) (e : Ending) (w' : World) : Prop := ∃ v, e = .returned v ∧ Bats w' v l ∧ Below w.heap.size w w'
set_option maxRecDepth 20000 in
set_option maxHeartbeats 6400000 in
theorem rising_any (recs : List Cr.Rec) (ts : List Int) (hl : recs.length ≤ maxLen) (hlt : ts.length ≤ maxLen) (v vt : Value) (w : World) (h : Recs w v recs) (ht : Ints w vt ts) :
    Calls Try.prog 21 #[v, vt] w (RisPost w (rising recs ts)) := by
  have HR := Lib.hid h
  have HT := Lib.hid ht
  obtain ⟨a, cap, rfl⟩ := h.form
  obtain ⟨at', capt, rfl, -⟩ := id ht
  clear h ht
  unfold maxLen at hl hlt
  obtain ⟨i0, hi, hz0, hz1, hz2⟩ := info_parts batInfo
  have R0 : Hid (RiW w (w.alloc (.cells #[] 42)) (.slice (some ⟨w.heap.size, 0, none⟩) 0 0) [] (risL recs ts 0)) := by
    have h1 : (w.alloc (.cells #[] 42)).ownsRow w.heap.size 42 6 (.slice (some ⟨w.heap.size, 0, none⟩) 0 0) 0 [] := World.ownsRow_made w #[] 0 (Nat.le_refl _) (by unfold maxLen; omega) rfl
    exact ⟨Sl.ofOwn h1, rfl, fun q hq => (by simp at hq), fun q hq => (by simp at hq), (Below.refl _ _).alloc (Nat.le_refl _) _⟩
  go_enter Try.func21, Try.ntmps21
  go_wp2
  generalize w.alloc (.cells #[] 42) = w1 at *
  go_loopw [5, 6] (fun tv ti wr => ∃ (k : Nat) (L : List BV), ti = .int .i64 k ∧ k ≤ recs.length ∧ k ≤ 40 ∧ RiW w wr tv L (risL recs ts k)) (fun _ ti _ => recs.length - (intOf ti).toNat)
  case atStart => exact ⟨0, [], rfl, by omega, by omega, R0.out⟩
  case round =>
    obtain ⟨k, L, rfl, hk, hk4, hR⟩ := hrel
    have RK := Lib.hid hR
    clear hR R0
    by_cases hgo : k < recs.length ∧ k < 40
    · obtain ⟨hkl, hk40⟩ := hgo
      obtain ⟨x, hx⟩ : ∃ x, recs[k]? = some x := ⟨recs[k], by simp [hkl]⟩
      obtain ⟨g, off, cap2, he, hg, q0, q1, q2, q3⟩ := HR.out.get RK.out.bel hx
      injection he with e1 e2 e3
      subst e1 e3
      have HSC := Lib.hid (risL_succ ts hx)
      have hlen := risL_len recs ts k hk
      clear e2 hx
      obtain ⟨xo, xk, xv, xg⟩ := x
      dsimp only at *
      have hsz := RK.out.bel.size
      have hva : u5.ownBlock ≠ some wr.heap.size := fun e => by have := (RK.out.sl.lt _ e).2; omega
      have hLa : ∀ q ∈ L, q.2.ownBlock ≠ some wr.heap.size := fun q hq e => by have := (RK.out.ap q hq _ e).1; omega
      have HVA := Lib.hid hva
      have HLA := Lib.hid hLa
      have RA := Lib.hid (RK.out.below ((Below.refl wr.heap.size wr).alloc (Nat.le_refl _) (.cells #[.int .i64 xo, .string ⟨xk.toArray⟩, .string ⟨xv.toArray⟩, .bool xg] 44)))
      have CA : Hid (Cl (wr.alloc (.cells #[.int .i64 xo, .string ⟨xk.toArray⟩, .string ⟨xv.toArray⟩, .bool xg] 44)) wr.heap.size [.int .i64 xo, .string ⟨xk.toArray⟩, .string ⟨xv.toArray⟩, .bool xg] 44) := Cl.new wr _ _
      clear hva hLa
      go_upto_region 6 with (fail)
      generalize wr.alloc (.cells #[.int .i64 xo, .string ⟨xk.toArray⟩, .string ⟨xv.toArray⟩, .bool xg] 44) = wa at *
      clear q0 q1 q2 q3 RK
      generalize wr.heap.size = p1 at *
      have a0 := CA.out.cell 0
      have f0 := CA.out.free 0
      simp only [List.getElem?_cons_zero] at a0
      have RB := Lib.hid (RA.out.other ⟨p1, 0, none⟩ (.int .i64 k) HVA.out HLA.out hsz)
      have CB := Lib.hid (CA.out.set 0 (.int .i64 k))
      simp only [List.set_cons_zero] at CB
      go_upto_region 7 with (fail)
      generalize wa.setCell ⟨p1, 0, none⟩ (.int .i64 k) = wb at *
      clear RA CA a0 f0
      have b0 := CB.out.cell 0
      have b1 := CB.out.cell 1
      have b2 := CB.out.cell 2
      have b3 := CB.out.cell 3
      simp only [List.getElem?_cons_zero, List.getElem?_cons_succ] at b0 b1 b2 b3
      have hbel : Below wb.heap.size wb ((wb.alloc (.cells #[.int .i64 k, .string ⟨xk.toArray⟩, .string ⟨xv.toArray⟩, .bool xg] 44)).alloc (.cells #[.int .i64 k, .int .i64 1, .int .i64 0, .int .i64 0, .int .i64 0, .slice (some ⟨wb.heap.size, 0, none⟩) 1 1] 42)) := ((Below.refl _ _).alloc (Nat.le_refl _) _).alloc (by simp) _
      have RC := Lib.hid (RB.out.below hbel)
      have C0 : Cl ((wb.alloc (.cells #[.int .i64 k, .string ⟨xk.toArray⟩, .string ⟨xv.toArray⟩, .bool xg] 44)).alloc (.cells #[.int .i64 k, .int .i64 1, .int .i64 0, .int .i64 0, .int .i64 0, .slice (some ⟨wb.heap.size, 0, none⟩) 1 1] 42)) wb.heap.size (recCells [⟨k, xk, xv, xg⟩]) 44 := (Cl.new wb (recCells [⟨k, xk, xv, xg⟩]) 44).alloc _
      have HRC := Lib.hid (cells_recs C0 1 rfl)
      have CC : Hid (Cl ((wb.alloc (.cells #[.int .i64 k, .string ⟨xk.toArray⟩, .string ⟨xv.toArray⟩, .bool xg] 44)).alloc (.cells #[.int .i64 k, .int .i64 1, .int .i64 0, .int .i64 0, .int .i64 0, .slice (some ⟨wb.heap.size, 0, none⟩) 1 1] 42)) (wb.heap.size + 1) [.int .i64 k, .int .i64 1, .int .i64 0, .int .i64 0, .int .i64 0, .slice (some ⟨wb.heap.size, 0, none⟩) 1 1] 42) := by
        have := Cl.new (wb.alloc (.cells #[.int .i64 k, .string ⟨xk.toArray⟩, .string ⟨xv.toArray⟩, .bool xg] 44)) [.int .i64 k, .int .i64 1, .int .i64 0, .int .i64 0, .int .i64 0, .slice (some ⟨wb.heap.size, 0, none⟩) 1 1] 42
        rwa [show (wb.alloc (.cells #[.int .i64 k, .string ⟨xk.toArray⟩, .string ⟨xv.toArray⟩, .bool xg] 44)).heap.size = wb.heap.size + 1 from by simp] at this
      have hp2 : Hid (∀ j, (Value.slice (some ⟨wb.heap.size, 0, none⟩) 1 1).ownBlock = some j → j < wb.heap.size + 1 ∧ u5.ownBlock ≠ some j) := fun j hj => by
        simp [Value.ownBlock] at hj
        subst hj
        exact ⟨by omega, fun e => by have := (RB.out.sl.lt _ e).2; omega⟩
      have hp3 : Hid (u5.ownBlock ≠ some (wb.heap.size + 1) ∧ (∀ q ∈ L, q.2.ownBlock ≠ some (wb.heap.size + 1)) ∧ w.heap.size ≤ wb.heap.size + 1) := ⟨fun e => by have := (RB.out.sl.lt _ e).2; omega, fun q hq e => by have := (RB.out.ap q hq _ e).1; omega, Nat.le_succ_of_le RB.out.bel.size⟩
      clear hbel C0
      go_upto_region 8 with (fail)
      generalize (wb.alloc (.cells #[.int .i64 k, .string ⟨xk.toArray⟩, .string ⟨xv.toArray⟩, .bool xg] 44)).alloc (.cells #[.int .i64 k, .int .i64 1, .int .i64 0, .int .i64 0, .int .i64 0, .slice (some ⟨wb.heap.size, 0, none⟩) 1 1] 42) = wc at *
      clear b0 b1 b2 b3 CB RB
      have HNR : Hid ((Value.slice (some ⟨wb.heap.size, 0, none⟩) 1 1).ownBlock = some wb.heap.size) := rfl
      generalize hp3e : wb.heap.size + 1 = p3 at *
      have HP3 := Lib.hid hp3e
      clear hp3e
      generalize wb.heap.size = p2 at *
      by_cases htz : 0 < ts.length
      case' neg =>
        have HTM : Hid (timeOf ts k = 0) := by rw [Hid, timeOf, if_pos (by omega)]
        go_upto_region 10 with (fail)
        have CD : Hid (Cl wc p3 [.int .i64 k, .int .i64 1, .int .i64 0, .int .i64 0, .int .i64 (timeOf ts k), .slice (some ⟨p2, 0, none⟩) 1 1] 42) := by rw [HTM.out]; exact CC.out
        have RD := RC
        have HRD := HRC
        clear CC RC HRC HTM
        generalize wc = wd at *
      case' pos =>
        obtain ⟨a9, cap9, he9, hcl⟩ := HT.out
        have htp : 0 < ts.length := htz
        have hml : k % ts.length < ts.length := Nat.mod_lt _ htp
        obtain ⟨g9, off9, ha9, hg9, z0⟩ := hcl (k % ts.length) hml
        injection he9 with e1 e2 e3
        subst e1 e3
        subst ha9
        have hz : wc.cell? ⟨g9, off9 + k % ts.length, none⟩ = some (.int .i64 (ts.getD (k % ts.length) 0)) := (RC.out.bel.cell (p := ⟨g9, off9 + k % ts.length, none⟩) hg9).trans z0
        have htm : (k : Int).tmod (ts.length : Int) = ((k % ts.length : Nat) : Int) := by rw [Int.tmod_eq_emod_of_nonneg (by omega)]; rfl
        have HTM : Hid (timeOf ts k = (um (ts.getD (k % ts.length) 0) 1000 : Nat)) := by rw [Hid, timeOf, if_neg (by omega)]
        generalize ts.getD (k % ts.length) 0 = zt at *
        have hu1 : (IntKind.u64.wrap zt).tmod 1000 = (um zt 1000 : Int) := um_tmod zt (m := 1000) (by omega)
        have hu2 : wrap64 (um zt 1000 : Int) = (um zt 1000 : Int) := wrapN _ (by have := um_lt zt (m := 1000) (by omega); omega)
        generalize k % ts.length = kk at *
        clear hcl e2 z0
        have c4 := CC.out.cell 4
        have f4 := CC.out.free 4
        simp only [List.getElem?_cons_zero, List.getElem?_cons_succ] at c4
        have CE := Lib.hid (CC.out.set 4 (.int .i64 (um zt 1000 : Nat)))
        have RE := Lib.hid (RC.out.other ⟨p3, 4, none⟩ (.int .i64 (um zt 1000 : Nat)) hp3.out.1 hp3.out.2.1 hp3.out.2.2)
        have HRE : Hid (Recs (wc.setCell ⟨p3, 4, none⟩ (.int .i64 (um zt 1000 : Nat))) (.slice (some ⟨p2, 0, none⟩) 1 1) [⟨k, xk, xv, xg⟩]) := HRC.out.keepS (S := fun j => j = p3) (Keeps.setCell _ _ _ _ rfl) (fun j hj e => by
          rw [HNR.out] at hj
          injection hj with hj
          have := HP3.out
          omega)
        simp only [List.set_cons_zero, List.set_cons_succ] at CE
        go_upto_region 10 with (fail)
        generalize wc.setCell ⟨p3, 4, none⟩ (.int .i64 (um zt 1000 : Nat)) = wd at *
        clear CC RC HRC c4 f4 hz
        have CD : Hid (Cl wd p3 [.int .i64 k, .int .i64 1, .int .i64 0, .int .i64 0, .int .i64 (timeOf ts k), .slice (some ⟨p2, 0, none⟩) 1 1] 42) := by rw [HTM.out]; exact CE.out
        have RD := RE
        have HRD := HRE
        clear CE RE HRE HTM hu1 hu2 htm
      all_goals
        have HB : Hid (risB ts k ⟨xo, xk, xv, xg⟩ = ⟨k, 1, 0, 0, timeOf ts k, [⟨k, xk, xv, xg⟩]⟩) := rfl
        generalize timeOf ts k = tm at *
        generalize risB ts k ⟨xo, xk, xv, xg⟩ = bb at *
        have d0 := CD.out.cell 0
        have d1 := CD.out.cell 1
        have d2 := CD.out.cell 2
        have d3 := CD.out.cell 3
        have d4 := CD.out.cell 4
        have d5 := CD.out.cell 5
        simp only [List.getElem?_cons_zero, List.getElem?_cons_succ] at d0 d1 d2 d3 d4 d5
        have hsl : Hid (Sl (wd.alloc (.cells #[.int .i64 k, .int .i64 1, .int .i64 0, .int .i64 0, .int .i64 tm, .slice (some ⟨p2, 0, none⟩) 1 1] 42)) w.heap.size 6 u5 k (bvCells L)) := by
          have := RD.out.sl.kept (Keeps.alloc (fun _ => False) wd (.cells #[.int .i64 k, .int .i64 1, .int .i64 0, .int .i64 0, .int .i64 tm, .slice (some ⟨p2, 0, none⟩) 1 1] 42)) (fun _ _ => id)
          rwa [hlen] at this
        have hsrc : Hid (SrcIs (wd.alloc (.cells #[.int .i64 k, .int .i64 1, .int .i64 0, .int .i64 0, .int .i64 tm, .slice (some ⟨p2, 0, none⟩) 1 1] 42)) 6 (.slice (some ⟨wd.heap.size, 0, none⟩) 1 1) 1 [.int .i64 k, .int .i64 1, .int .i64 0, .int .i64 0, .int .i64 tm, .slice (some ⟨p2, 0, none⟩) 1 1]) := (Cl.new wd [.int .i64 k, .int .i64 1, .int .i64 0, .int .i64 0, .int .i64 tm, .slice (some ⟨p2, 0, none⟩) 1 1] 42).src 6 1 1 rfl
        have hbw : w.heap.size ≤ wd.heap.size := RD.out.bel.size
        go_wp2_with (at_builtin; refine wpList_append_sl rfl (.tmp 44) (.tmp 46) 22 rfl 42 i0 _ 6 64 Try.underlying22 hi hz0 hz1 hz2 rfl (by decide) w.heap.size _ _ _ rfl hsl.out _ _ _ rfl hsrc.out ?_ ?_ ?_ ?_ ?_)
        · simp [Value.oneCell']
        · unfold maxLen; omega
        · omega
        · simp; omega
        intro v' w4 hown hgr hnew
        have RP : Hid (RiW w w4 v' (L ++ [(bb, .slice (some ⟨p2, 0, none⟩) 1 1)]) (risL recs ts (k + 1))) := by
          rw [HSC.out]
          refine RD.out.push bb _ (.cells #[.int .i64 k, .int .i64 1, .int .i64 0, .int .i64 0, .int .i64 tm, .slice (some ⟨p2, 0, none⟩) 1 1] 42) ?_ ?_ ?_ hgr (hnew.imp id (fun hn j hj => by have := hn j hj; simp; omega))
          · rw [HB.out]; exact HRD.out
          · intro j hj
            have := (hp2.out j hj)
            have h3 := CD.out.lt
            exact ⟨by omega, this.2⟩
          · rw [hlen, HB.out]; exact hown
        clear hown hgr hnew hsl hsrc
        go_wp2
        go_roundw
        case rel => exact ⟨k + 1, _, by go_num, by omega, by omega, RP.out⟩
        case measure => simp [intOf]; omega
    · have hgo2 : ¬ k < recs.length ∨ (k < recs.length ∧ ¬ k < 40) := by
        by_cases h : k < recs.length
        · right; exact ⟨h, fun h2 => hgo ⟨h, h2⟩⟩
        · exact .inl h
      have hkm : k = min recs.length 40 := by omega
      have HP : Hid (RisPost w (rising recs ts) (.returned u5) wr) := by
        have := RK.out.bats
        rw [hkm] at this
        exact ⟨u5, rfl, this, RK.out.bel⟩
      clear hgo
      rcases hgo2 with hno | ⟨hlt2, hno⟩
      all_goals
        go_wp2
        go_ret
        exact HP.out

end Go.Proofs.Ytccndbifnbmddaa
