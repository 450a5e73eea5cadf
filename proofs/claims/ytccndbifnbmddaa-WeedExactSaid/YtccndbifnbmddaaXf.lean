/-
  WeedParts: the walk; small rows of batches.
  Conditions: none but the model's longest length.
-/
import Derived.Test.YtccndbifnbmddaaXe
set_option linter.unusedVariables false
set_option linter.unusedSimpArgs false
namespace Go.Proofs.Ytccndbifnbmddaa
open Go.RowKit

/-- A small row of batches that can be read. -/
structure SmL (l : List Cr.Batch) : Prop where
  len : l.length ≤ 40
  each : ∀ b ∈ l, BatOk b ∧ b.recs.length ≤ 12
theorem SmL.thin {l : List Cr.Batch} (h : SmL l) (high now hor : Int) : SmL (thin l high now hor) := by
  refine ⟨by simp only [Proofs.Ytccndbifnbmddaa.thin, List.length_map]; exact h.len, fun b' hb' => ?_⟩
  obtain ⟨b, hb, rfl⟩ := mem_thin.1 hb'
  obtain ⟨⟨o1, o2, o3, o4, o5, o6, o7⟩, hl⟩ := h.each b hb
  have hle : (thinB (isT now && isT hor) high (lastL high l) now hor b).recs.length ≤ b.recs.length := List.length_filter_le _ _
  exact ⟨⟨o1, o2, o3, o4, o5, Nat.le_trans hle o6, fun x hx => o7 x (List.mem_filter.1 hx).1⟩, Nat.le_trans hle hl⟩
theorem SmL.max {l : List Cr.Batch} (h : SmL l) : l.length ≤ 1000000 ∧ l.length ≤ maxLen ∧ (∀ b ∈ l, b.recs.length ≤ 1000000) ∧ (∀ b ∈ l, ∀ x ∈ b.recs, x.key.length ≤ maxLen) ∧ (∀ b ∈ l, BatOk b) :=
  ⟨by have := h.len; omega, by have := h.len; unfold maxLen; omega, fun b hb => by have := (h.each b hb).2; omega, fun b hb x hx => ((h.each b hb).1.2.2.2.2.2.2 x hx).2.1, fun b hb => (h.each b hb).1⟩
theorem total_le {l : List Cr.Batch} (h : ∀ b ∈ l, b.recs.length ≤ 12) : totalR l ≤ l.length * 12 := by
  induction l with
  | nil => simp [totalR]
  | cons b l ih =>
    have h1 := ih (fun c hc => h c (by simp [hc]))
    have h2 := h b (by simp)
    simp only [totalR, List.map_cons, List.sum_cons, List.length_cons] at h1 ⊢
    omega
theorem SmL.total {l : List Cr.Batch} (h : SmL l) : totalR l ≤ 1000000 := by
  have h1 := total_le (fun b hb => (h.each b hb).2)
  have := h.len
  omega
theorem mem_risL {recs : List Cr.Rec} {ts : List Int} {k : Nat} {b : Cr.Batch} (h : b ∈ risL recs ts k) : ∃ i x, i < k ∧ recs[i]? = some x ∧ b = risB ts i x := by
  obtain ⟨i, hi⟩ := List.getElem?_of_mem h
  rw [risL, List.getElem?_mapIdx] at hi
  cases hx : (recs.take k)[i]? with
  | none => rw [hx] at hi; cases hi
  | some x =>
    rw [hx] at hi
    simp only [Option.map_some, Option.some.injEq] at hi
    rw [List.getElem?_take] at hx
    split at hx
    · exact ⟨i, x, by assumption, hx, hi.symm⟩
    · cases hx
theorem timeOf_le (ts : List Int) (i : Nat) : 0 ≤ timeOf ts i ∧ timeOf ts i < 1000 := by
  unfold timeOf
  split
  · omega
  · have := um_lt (ts.getD (i % ts.length) 0) (m := 1000) (by omega)
    omega
theorem sm_rising (recs : List Cr.Rec) (ts : List Int) (hok : ∀ x ∈ recs, RecOk x) : SmL (rising recs ts) := by
  refine ⟨by rw [rising, risL_len _ _ _ (Nat.min_le_left _ _)]; omega, fun b hb => ?_⟩
  obtain ⟨i, x, hi, hx, rfl⟩ := mem_risL hb
  have ht := timeOf_le ts i
  have hox := hok x (List.mem_of_getElem? hx)
  have h0 : Bd.inR (i : Int) := ⟨by omega, by omega⟩
  have hz : Bd.inR 0 := ⟨by omega, by omega⟩
  refine ⟨⟨h0, ⟨by simp only [risB]; omega, by simp only [risB]; omega⟩, hz, hz, ⟨by simp only [risB]; omega, by simp only [risB]; omega⟩, by simp [risB, maxLen], fun y hy => ?_⟩, by simp [risB]⟩
  simp only [risB, List.mem_singleton] at hy
  subst hy
  exact ⟨h0, hox.2.1, hox.2.2⟩
theorem isT_nat (n : Nat) (h : n ≤ 4000) : isT (n : Int) = true := by
  unfold isT
  rw [decide_eq_true (by omega), decide_eq_true (by omega)]
  rfl
/-- thin, at small rows. -/
theorem thinS {l : List Cr.Batch} (h : SmL l) (high now hor : Int) (v : Value) (w : World) (hv : Bats w v l) : Calls Try.prog 13 #[v, .int .i64 high, .int .i64 now, .int .i64 hor] w (BatsR w (thin l high now hor)) :=
  thin_any l high now hor v w hv h.max.1 h.max.2.2.1 h.max.2.2.2.1
set_option maxRecDepth 20000 in
set_option maxHeartbeats 3200000 in
theorem weedParts_walk (v vt : Value) (recs : List Cr.Rec) (ts : List Int) (h0 n0 z0 h1 n1 z1 : Int) (w : World) (hr : Recs w v recs) (ht : Ints w vt ts) (hl : recs.length ≤ maxLen) (hlt : ts.length ≤ maxLen) (hok : ∀ x ∈ recs, RecOk x) :
    Calls Try.prog 8 #[v, vt, .agg #[.int .i64 h0, .int .i64 n0, .int .i64 z0, .int .i64 h1, .int .i64 n1, .int .i64 z1]] w fun e w' => e = .returned (.bool true) ∧ Below w.heap.size w w' := by
  have HSM := Lib.hid (sm_rising recs ts hok)
  have B1 : Hid (Below w.heap.size w (w.alloc (.cells #[.int .i64 h0, .int .i64 n0, .int .i64 z0, .int .i64 h1, .int .i64 n1, .int .i64 z1] 46))) := (Below.refl _ _).alloc (Nat.le_refl _) _
  have C1 : Hid (Cl (w.alloc (.cells #[.int .i64 h0, .int .i64 n0, .int .i64 z0, .int .i64 h1, .int .i64 n1, .int .i64 z1] 46)) w.heap.size [.int .i64 h0, .int .i64 n0, .int .i64 z0, .int .i64 h1, .int .i64 n1, .int .i64 z1] 46) := Cl.new w _ _
  have HSA := Lib.hid (fun W (hW : Below w.heap.size w W) => small_any recs hl hok v W (hr.kept hW))
  have HRI := Lib.hid (fun W (hW : Below w.heap.size w W) => rising_any recs ts hl hlt v vt W (hr.kept hW) (ht.kept hW))
  obtain ⟨a, cap, rfl⟩ := hr.form
  obtain ⟨at', capt, rfl, -⟩ := id ht
  clear hr ht hok
  unfold maxLen at hl hlt
  generalize rising recs ts = l at *
  go_enter Try.func8, Try.ntmps8
  go_upto_region 1 with (fail)
  generalize w.alloc (.cells #[.int .i64 h0, .int .i64 n0, .int .i64 z0, .int .i64 h1, .int .i64 n1, .int .i64 z1] 46) = w1 at *
  generalize w.heap.size = p at C1 ⊢
  go_wp2_with fail
  refine (awake_any w1).mono ?_
  rintro e w2 ⟨rfl, hb2⟩
  have B2 := Lib.hid (bt B1.out hb2)
  have C2 := Lib.hid (C1.out.below hb2)
  clear hb2 C1 B1
  go_wp2_with fail
  refine (HSA.out w2 B2.out).mono ?_
  rintro e w3 ⟨b, rfl, rfl⟩
  cases b with
  | false =>
    go_wp2
    go_ret
    exact ⟨rfl, B2.out⟩
  | true =>
    go_wp2_with fail
    refine (HRI.out w3 B2.out).mono ?_
    rintro e w4 ⟨v4, rfl, hB4, hb4⟩
    have L4 := Lib.hid hB4
    have B4 := Lib.hid (bt B2.out hb4)
    have C4 := Lib.hid (C2.out.below hb4)
    clear hB4 hb4 C2 B2 HSA HRI
    have c0 := C4.out.cell 0
    have c1 := C4.out.cell 1
    have c2 := C4.out.cell 2
    have c3 := C4.out.cell 3
    have c4 := C4.out.cell 4
    simp only [List.getElem?_cons_zero, List.getElem?_cons_succ] at c0 c1 c2 c3 c4
    obtain ⟨qa, hqa, ta, la⟩ : ∃ q : Nat, wrap64 (q : Int) = q ∧ (IntKind.u64.wrap h0).tmod 45 = (q : Int) ∧ q < 45 := ⟨_, wrapN _ (by have := um_lt h0 (m := 45) (by omega); omega), um_tmod h0 (m := 45) (by omega), um_lt h0 (by omega)⟩
    obtain ⟨qb, hqb, tb, lb⟩ : ∃ q : Nat, wrap64 (q : Int) = q ∧ (IntKind.u64.wrap h1).tmod 20 = (q : Int) ∧ q < 20 := ⟨_, wrapN _ (by have := um_lt h1 (m := 20) (by omega); omega), um_tmod h1 (m := 20) (by omega), um_lt h1 (by omega)⟩
    obtain ⟨qn, hqn, tn, ln⟩ : ∃ q : Nat, wrap64 (q : Int) = q ∧ (IntKind.u64.wrap n0).tmod 2000 = (q : Int) ∧ q < 2000 := ⟨_, wrapN _ (by have := um_lt n0 (m := 2000) (by omega); omega), um_tmod n0 (m := 2000) (by omega), um_lt n0 (by omega)⟩
    obtain ⟨qm, hqm, tm, lm⟩ : ∃ q : Nat, wrap64 (q : Int) = q ∧ (IntKind.u64.wrap n1).tmod 500 = (q : Int) ∧ q < 500 := ⟨_, wrapN _ (by have := um_lt n1 (m := 500) (by omega); omega), um_tmod n1 (m := 500) (by omega), um_lt n1 (by omega)⟩
    obtain ⟨qz, hqz, tz, lz⟩ : ∃ q : Nat, wrap64 (q : Int) = q ∧ (IntKind.u64.wrap z0).tmod 500 = (q : Int) ∧ q < 500 := ⟨_, wrapN _ (by have := um_lt z0 (m := 500) (by omega); omega), um_tmod z0 (m := 500) (by omega), um_lt z0 (by omega)⟩
    have HTT : Hid (thin (thin l qa qn qz) ((qa : Int) + qb) ((qn : Int) + qm) qz = thin l ((qa : Int) + qb) ((qn : Int) + qm) qz) := thin_thin l (by omega) (by omega) (by rw [isT_nat qn (by omega), isT_nat qz (by omega)]; rfl) (by rw [show (qn : Int) + qm = ((qn + qm : Nat) : Int) by omega, isT_nat (qn + qm) (by omega), isT_nat qz (by omega)]; rfl)
    go_wp2_with fail
    refine (thinS HSM.out qa qn qz v4 w4 L4.out).mono ?_
    rintro e w5 ⟨v5, rfl, hB5, hb5⟩
    have L5 := Lib.hid hB5
    have L45 := Lib.hid (L4.out.kept hb5)
    have B5 := Lib.hid (bt B4.out hb5)
    clear hB5 hb5 c0 c1 c2 c3 c4 C4 L4 B4
    go_wp2_with fail
    refine (thinS (HSM.out.thin qa qn qz) _ _ _ v5 w5 L5.out).mono ?_
    rintro e w6 ⟨v6, rfl, hB6, hb6⟩
    rw [HTT.out] at hB6
    have L6 := Lib.hid hB6
    have L46 := Lib.hid (L45.out.kept hb6)
    have B6 := Lib.hid (bt B5.out hb6)
    clear hB6 hb6 L5 L45 B5
    go_wp2_with fail
    refine (thinS HSM.out _ _ _ v4 w6 L46.out).mono ?_
    rintro e w7 ⟨v7, rfl, hB7, hb7⟩
    have L7 := Lib.hid hB7
    have L67 := Lib.hid (L6.out.kept hb7)
    have B7 := Lib.hid (bt B6.out hb7)
    clear hB7 hb7 L6 L46 B6
    have hsm := HSM.out.thin ((qa : Int) + qb) ((qn : Int) + qm) qz
    go_wp2_with fail
    refine (batsEq_any _ hsm.max.2.1 hsm.max.2.2.2.2 v6 v7 w7 L67.out L7.out).mono ?_
    rintro e w8 ⟨rfl, hb8⟩
    have B8 := Lib.hid (bt B7.out hb8)
    clear hb8 hsm
    go_wp2
    go_ret
    exact ⟨rfl, B8.out⟩

end Go.Proofs.Ytccndbifnbmddaa
