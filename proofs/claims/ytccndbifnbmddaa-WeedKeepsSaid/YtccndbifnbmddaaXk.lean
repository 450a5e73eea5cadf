/-
  WeedKeeps: the plain law, the walk.
  Conditions: none but the model's longest length.
-/
import Derived.Test.YtccndbifnbmddaaXj
import Derived.Deep.DeepCutAuto
import Derived.Deep.CutBlock
set_option linter.unusedVariables false
set_option linter.unusedSimpArgs false
namespace Go.Proofs.Ytccndbifnbmddaa
open Go.RowKit

def IsZ (r : Bool) : Prop := r = true
theorem keeps_get {recs : List Cr.Rec} {ts : List Int} {high now hor : Int} {i : Nat} (hi : i < risN recs) :
    (∃ _ : Use (isT now && isT hor) high (recsOf (rising recs ts)) (timeOf ts i) now hor (rxs recs i), (thin (rising recs ts) high now hor)[i]? = some ⟨i, 1, 0, 0, timeOf ts i, []⟩) ∨
    (∃ _ : ¬ Use (isT now && isT hor) high (recsOf (rising recs ts)) (timeOf ts i) now hor (rxs recs i), (thin (rising recs ts) high now hor)[i]? = some ⟨i, 1, 0, 0, timeOf ts i, [rxs recs i]⟩) := by
  have hx : rxs recs i ∈ recsOf (rising recs ts) := mem_ris.2 ⟨i, hi, rfl⟩
  have hiff := useless_iff (ok := isT now && isT hor) (high := high) (time := timeOf ts i) (now := now) (hor := hor) hx
  have hg : (thin (rising recs ts) high now hor)[i]? = some (thinB (isT now && isT hor) high (lastL high (rising recs ts)) now hor ⟨i, 1, 0, 0, timeOf ts i, [rxs recs i]⟩) := by
    rw [thin, List.getElem?_map, ris_get ts hi]
    rfl
  cases hu : useless ⟨isT now && isT hor, high, lastL high (rising recs ts), timeOf ts i, now, hor⟩ (rxs recs i) with
  | true => exact .inl ⟨hiff.1 hu, by rw [hg]; simp [thinB, hu]⟩
  | false => exact .inr ⟨fun h => (by rw [hiff.2 h] at hu; cases hu), by rw [hg]; simp [thinB, hu]⟩
theorem keeps_uni {recs : List Cr.Rec} {ts : List Int} {high now hor : Int} {i : Nat} (hi : i < risN recs) (hok : (isT now && isT hor) = true) :
    ∃ (rs : List Cr.Rec) (r : Bool), ((rs = [] ∧ r = true) ∨ (rs = [rxs recs i] ∧ r = false)) ∧ (Use true high (recsOf (rising recs ts)) (timeOf ts i) now hor (rxs recs i) ↔ IsZ r) ∧ (thin (rising recs ts) high now hor)[i]? = some ⟨i, 1, 0, 0, timeOf ts i, rs⟩ := by
  rcases keeps_get (recs := recs) (ts := ts) (high := high) (now := now) (hor := hor) hi with ⟨hu, ht⟩ | ⟨hu, ht⟩
  · rw [hok] at hu
    exact ⟨[], true, .inl ⟨rfl, rfl⟩, ⟨fun _ => rfl, fun _ => hu⟩, ht⟩
  · rw [hok] at hu
    exact ⟨_, false, .inr ⟨rfl, rfl⟩, ⟨fun h => absurd h hu, fun h => (by unfold IsZ at h; cases h)⟩, ht⟩
/-- Some behind it, up to j, bears its key. -/
def LaterTo (recs : List Cr.Rec) (i j : Nat) : Prop := ∃ m, i < m ∧ m < j ∧ (rxs recs m).key = (rxs recs i).key
theorem laterTo_succ {recs : List Cr.Rec} {i j : Nat} (h : i < j) : LaterTo recs i (j + 1) ↔ LaterTo recs i j ∨ (rxs recs j).key = (rxs recs i).key := by
  constructor
  · rintro ⟨m, h1, h2, h3⟩
    by_cases e : m = j
    · subst e; exact .inr h3
    · exact .inl ⟨m, h1, by omega, h3⟩
  · rintro (⟨m, h1, h2, h3⟩ | h3)
    · exact ⟨m, h1, by omega, h3⟩
    · exact ⟨j, h, by omega, h3⟩
theorem later_use {recs : List Cr.Rec} {ts : List Int} {a : Nat} {i j : Nat} (hi : i < risN recs) (hj : j ≤ risN recs) (hja : j ≤ a ∨ j = i + 1) (hend : ¬ (j < risN recs ∧ j < a)) (hia : i < a) :
    (∃ y ∈ recsOf (rising recs ts), y.key = (rxs recs i).key ∧ y.off < (a : Int) ∧ (rxs recs i).off < y.off) ↔ LaterTo recs i j := by
  constructor
  · rintro ⟨y, hy, hk, h1, h2⟩
    obtain ⟨m, hm, rfl⟩ := mem_ris.1 hy
    have e1 : (rxs recs m).off = m := rfl
    have e2 : (rxs recs i).off = i := rfl
    rw [e1] at h1 h2
    rw [e2] at h2
    exact ⟨m, by omega, by omega, hk⟩
  · rintro ⟨m, h1, h2, h3⟩
    have e1 : (rxs recs m).off = m := rfl
    have e2 : (rxs recs i).off = i := rfl
    exact ⟨rxs recs m, mem_ris.2 ⟨m, by omega, rfl⟩, h3, by rw [e1]; omega, by rw [e1, e2]; omega⟩
/-- What the law calls must. -/
def mustB (xk : List UInt8) (k qa : Nat) (b xg : Bool) (tm : Int) (qz qn : Nat) : Bool := decide (xk ≠ []) && (decide (k < qa) && (b || (xg && decide (tm + qz ≤ qn))))
theorem keeps_must {recs : List Cr.Rec} {R : List Cr.Rec} {k j qa qz qn : Nat} {r : Bool} {tm xo : Int} {xk xv : List UInt8} {xg b : Bool} (ho : xo = (k : Int))
    (hu : Use true qa R tm qn qz ⟨xo, xk, xv, xg⟩ ↔ IsZ r) (hl : k < qa → ((∃ y ∈ R, y.key = xk ∧ y.off < (qa : Int) ∧ xo < y.off) ↔ LaterTo recs k j)) (hb : b = true ↔ LaterTo recs k j) :
    mustB xk k qa b xg tm qz qn = r := by
  rw [Bool.eq_iff_iff]
  unfold IsZ at hu
  rw [← hu]
  unfold mustB Use
  simp only [Bool.and_eq_true, Bool.or_eq_true, decide_eq_true_eq]
  constructor
  · rintro ⟨h1, h2, h3⟩
    refine ⟨trivial, h1, by omega, ?_⟩
    rcases h3 with h3 | ⟨h3, h4⟩
    · exact .inl ((hl h2).2 (hb.1 h3))
    · exact .inr ⟨h3, by omega⟩
  · rintro ⟨_, h1, h2, h3⟩
    have h2' : k < qa := by omega
    refine ⟨h1, h2', ?_⟩
    rcases h3 with h3 | ⟨h3, h4⟩
    · exact .inl (hb.2 ((hl h2').1 h3))
    · exact .inr ⟨h3, by omega⟩
set_option maxRecDepth 20000 in
set_option maxHeartbeats 12800000 in
theorem weedKeeps_walk (v vt : Value) (recs : List Cr.Rec) (ts : List Int) (h0 n0 z0 : Int) (w : World) (hr : Recs w v recs) (ht : Ints w vt ts) (hl : recs.length ≤ maxLen) (hlt : ts.length ≤ maxLen) (hok : ∀ x ∈ recs, RecOk x) :
    Calls Try.prog 6 #[v, vt, .agg #[.int .i64 h0, .int .i64 n0, .int .i64 z0]] w fun e w' => e = .returned (.bool true) ∧ Below w.heap.size w w' := by
  have HSM := Lib.hid (sm_rising recs ts hok)
  have HKL : Hid (∀ i, i < risN recs → (rxs recs i).key.length ≤ maxLen) := fun i hi => by
    have h1 : i < recs.length := by unfold risN at hi; omega
    rw [rxs_get (List.getElem?_eq_getElem h1)]
    exact (hok _ (List.getElem_mem h1)).2.1
  have B1 : Hid (Below w.heap.size w (w.alloc (.cells #[.int .i64 h0, .int .i64 n0, .int .i64 z0] 24))) := (Below.refl _ _).alloc (Nat.le_refl _) _
  have C1 : Hid (Cl (w.alloc (.cells #[.int .i64 h0, .int .i64 n0, .int .i64 z0] 24)) w.heap.size [.int .i64 h0, .int .i64 n0, .int .i64 z0] 24) := Cl.new w _ _
  have HSA := Lib.hid (fun W (hW : Below w.heap.size w W) => small_any recs hl hok v W (hr.kept hW))
  have HRI := Lib.hid (fun W (hW : Below w.heap.size w W) => rising_any recs ts hl hlt v vt W (hr.kept hW) (ht.kept hW))
  obtain ⟨a, cap, rfl⟩ := hr.form
  obtain ⟨at', capt, rfl, -⟩ := id ht
  clear hr ht hok
  unfold maxLen at hl hlt
  have hN : risN recs ≤ 40 := by unfold risN; omega
  have HLN := Lib.hid (ris_len recs ts)
  go_enter Try.func6, Try.ntmps6
  go_upto_region 1 with (fail)
  generalize w.alloc (.cells #[.int .i64 h0, .int .i64 n0, .int .i64 z0] 24) = w1 at *
  generalize w.heap.size = p at C1 ⊢
  go_wp2_with fail
  refine (awake_any w1).mono ?_
  rintro e w2 ⟨rfl, hb2⟩
  have B2 := Lib.hid (bt B1.out hb2)
  have C2 := Lib.hid (C1.out.below hb2)
  clear hb2 C1 B1
  go_wp2_with fail
  refine (HSA.out w2 B2.out).mono ?_
  rintro e w3 ⟨b, rfl, rfl⟩
  cases b with
  | false =>
    go_wp2
    go_ret
    exact ⟨rfl, B2.out⟩
  | true =>
    go_wp2_with fail
    refine (HRI.out w3 B2.out).mono ?_
    rintro e w4 ⟨v4, rfl, hB4, hb4⟩
    have L4 := Lib.hid hB4
    have B4 := Lib.hid (bt B2.out hb4)
    have C4 := Lib.hid (C2.out.below hb4)
    clear hB4 hb4 C2 B2 HSA HRI
    obtain ⟨a4, cap4, hv4⟩ := L4.out.form
    rw [HLN.out] at hv4
    subst hv4
    have c0 := C4.out.cell 0
    have c1 := C4.out.cell 1
    have c2 := C4.out.cell 2
    simp only [List.getElem?_cons_zero, List.getElem?_cons_succ] at c0 c1 c2
    obtain ⟨qa, hqa, ta, la⟩ : ∃ q : Nat, wrap64 (q : Int) = q ∧ (IntKind.u64.wrap h0).tmod 45 = (q : Int) ∧ q < 45 := ⟨_, wrapN _ (by have := um_lt h0 (m := 45) (by omega); omega), um_tmod h0 (m := 45) (by omega), um_lt h0 (by omega)⟩
    obtain ⟨qn, hqn, tn, ln⟩ : ∃ q : Nat, wrap64 (q : Int) = q ∧ (IntKind.u64.wrap n0).tmod 2000 = (q : Int) ∧ q < 2000 := ⟨_, wrapN _ (by have := um_lt n0 (m := 2000) (by omega); omega), um_tmod n0 (m := 2000) (by omega), um_lt n0 (by omega)⟩
    obtain ⟨qz, hqz, tz, lz⟩ : ∃ q : Nat, wrap64 (q : Int) = q ∧ (IntKind.u64.wrap z0).tmod 500 = (q : Int) ∧ q < 500 := ⟨_, wrapN _ (by have := um_lt z0 (m := 500) (by omega); omega), um_tmod z0 (m := 500) (by omega), um_lt z0 (by omega)⟩
    have hok2 : (isT (qn : Int) && isT (qz : Int)) = true := by rw [isT_nat qn (by omega), isT_nat qz (by omega)]; rfl
    have HST := Lib.hid (HSM.out.thin qa qn qz)
    have HTT := Lib.hid (thin_thin (rising recs ts) (a := qa) (b := qa) (now := qn) (later := qn) (hor := qz) (Int.le_refl _) (Int.le_refl _) hok2 hok2)
    have HKG := Lib.hid (fun i hi => keeps_uni (recs := recs) (ts := ts) (high := qa) (now := qn) (hor := qz) (i := i) hi hok2)
    have HTL : Hid ((thin (rising recs ts) qa qn qz).length = risN recs) := by rw [Hid, thin, List.length_map]; exact HLN.out
    go_wp2_with fail
    refine (thinS HSM.out qa qn qz _ w4 L4.out).mono ?_
    rintro e w5 ⟨v5, rfl, hB5, hb5⟩
    have L5 := Lib.hid hB5
    have L45 := Lib.hid (L4.out.kept hb5)
    have B5 := Lib.hid (bt B4.out hb5)
    clear hB5 hb5 c0 c1 c2 C4 L4 B4 ta tn tz hqa hqn hqz hok2
    generalize thin (rising recs ts) qa qn qz = t at *
    obtain ⟨a5, cap5, hv5⟩ := L5.out.form
    rw [HTL.out] at hv5
    subst hv5
    go_wp2
    go_loopw [12] (fun i wr => ∃ k : Nat, i = .int .i64 k ∧ k ≤ risN recs ∧ Below w5.heap.size w5 wr) (fun i _ => risN recs - (intOf i).toNat)
    case atStart => exact ⟨0, rfl, by omega, Below.refl _ _⟩
    case round =>
      obtain ⟨k, rfl, hk, hb⟩ := hrel
      have BK := Lib.hid hb
      have BW := Lib.hid (bt B5.out hb)
      clear hb
      by_cases hkn : k < risN recs
      · obtain ⟨g, off, cap6, g2, off2, cap2, he, p0, p1, p4, p5, q0, q1, q2, q3⟩ := ris_cells L45.out BK.out hkn
        injection he with e1 e2 e3
        subst e1 e3
        clear e2
        have HKK := Lib.hid (HKL.out k hkn)
        have htm := timeOf_le ts k
        have hkg := HKG.out k hkn
        have HLU := Lib.hid (fun j (h1 : j ≤ risN recs) (h2 : j ≤ qa ∨ j = k + 1) (h3 : ¬ (j < risN recs ∧ j < qa)) (h4 : k < qa) => later_use (ts := ts) hkn h1 h2 h3 h4)
        generalize htm0 : timeOf ts k = tm at *
        have HTM := Lib.hid htm0
        clear htm0
        have hxo : (rxs recs k).off = (k : Int) := rfl
        have HXO := Lib.hid hxo
        clear hxo
        generalize hx : rxs recs k = x at *
        have HX := Lib.hid hx
        clear hx
        obtain ⟨xo, xk, xv, xg⟩ := x
        dsimp only at q0 q1 q2 q3 HKK HXO
        have hkk := HKK.out
        unfold maxLen at hkk
        obtain ⟨rs, r, hrs, hnu, htg⟩ := hkg
        have HNU := Lib.hid hnu
        obtain ⟨g7, off7, cap7, rv7, he7, _, r0, r1, _, _, r4, r5, hr7⟩ := L5.out.get BK.out htg
        rw [HTL.out] at he7
        injection he7 with e4 e5 e6
        subst e4 e6
        have H7 := Lib.hid hr7
        obtain ⟨a7, cap8, rfl⟩ := hr7.form
        have hz1 : ((rs.length : Int) == 0) = r := by rcases hrs with ⟨rfl, rfl⟩ | ⟨rfl, rfl⟩ <;> rfl
        have hz2 : (rs.length == 0) = r := by rcases hrs with ⟨rfl, rfl⟩ | ⟨rfl, rfl⟩ <;> rfl
        have hz3 : (decide (rs.length = 0)) = r := by rcases hrs with ⟨rfl, rfl⟩ | ⟨rfl, rfl⟩ <;> rfl
        have HZ := Lib.hid (And.intro hz1 (And.intro hz2 hz3))
        have HRS := Lib.hid hrs
        clear hz1 hz2 hz3 hnu htg hr7 e5 hrs
        dsimp only at r0 r1 r4 r5
        go_upto_region 15 with (fail)
        go_cut [119] (fun s9 wz => ∃ q, s9 = .bool false ∧ wz = wr.drewN q)
        case first =>
          rcases HRS.out with ⟨rfl, rfl⟩ | ⟨rfl, rfl⟩
          · clear HRS HZ
            dsimp only [List.length_nil] at r5
            go_wp2
            go_quiet (fail)
            go_wp2
            go_meet
            case rel => exact ⟨_, rfl, rfl⟩
          · obtain ⟨g8, off8, cap8', hrv, _, s0, s1, s2, s3⟩ := H7.out.get BK.out (k := 0) rfl
            injection hrv with e7 e8 e9
            subst e7 e9
            simp only [Nat.zero_mul, Nat.add_zero, List.length_cons, List.length_nil, Nat.zero_add] at r5 s0 s1 s2 s3
            have hn := fun w => rec_neq xo xo xk xk xv xv xg xg w
            have hrr : Cr.recEq ⟨xo, xk, xv, xg⟩ ⟨xo, xk, xv, xg⟩ = true := by simp [Cr.recEq]
            simp only [hrr, Bool.not_true] at hn
            clear hrr HRS HZ e8
            go_wp2
            go_quiet (fail)
            go_wp2
            go_meet
            case rel => exact ⟨_, rfl, rfl⟩
        case rest =>
          obtain ⟨nq, rfl, rfl⟩ := hcut
          have BQ : Hid (Below w5.heap.size w5 (wr.drewN nq)) := below_drewN BK.out nq
          have BQW : Hid (Below w.heap.size w (wr.drewN nq)) := below_drewN BW.out nq
          obtain ⟨w6, hw6⟩ : ∃ W, wr.drewN nq = W := ⟨_, rfl⟩
          rw [hw6] at BQ BQW ⊢
          clear BK BW
          obtain ⟨g9, off9, cap9, g29, off29, cap29, he9, x0, x1, x4, x5, y0, y1, y2, y3⟩ := ris_cells L45.out BQ.out hkn
          injection he9 with e8 e9 e10
          injection e8 with e8
          injection e8 with e11 e12
          subst e11 e12 e10
          clear e9
          rw [HX.out] at y0 y1 y2 y3
          rw [HTM.out] at x4
          dsimp only at y0 y1 y2 y3
          have z5 : w6.cell? ⟨g7, off7 + k * 6 + 5, none⟩ = _ := (congrArg (fun W => World.cell? W ⟨g7, off7 + k * 6 + 5, none⟩) hw6).symm.trans r5
          have hgx := Lib.hid hw6
          clear hw6 r0 r1 r4 r5 p0 p1 p4 p5 q0 q1 q2 q3 x0 x1
          have C6 : Hid (Cl (w6.alloc (.cells #[.int .i64 xo, .string ⟨xk.toArray⟩, .string ⟨xv.toArray⟩, .bool xg] 44)) w6.heap.size [.int .i64 xo, .string ⟨xk.toArray⟩, .string ⟨xv.toArray⟩, .bool xg] 44) := Cl.new w6 _ _
          have hba : Below w6.heap.size w6 (w6.alloc (.cells #[.int .i64 xo, .string ⟨xk.toArray⟩, .string ⟨xv.toArray⟩, .bool xg] 44)) := (Below.refl _ _).alloc (Nat.le_refl _) _
          have B7 := Lib.hid (bt BQ.out hba)
          have B7W := Lib.hid (bt BQW.out hba)
          have hx4 : (w6.alloc (.cells #[.int .i64 xo, .string ⟨xk.toArray⟩, .string ⟨xv.toArray⟩, .bool xg] 44)).cell? ⟨g, off + k * 6 + 4, none⟩ = _ := (hba.cell (p := ⟨g, off + k * 6 + 4, none⟩) (World.block_lt_of_cell? w6 _ x4)).trans x4
          have hz5 : (w6.alloc (.cells #[.int .i64 xo, .string ⟨xk.toArray⟩, .string ⟨xv.toArray⟩, .bool xg] 44)).cell? ⟨g7, off7 + k * 6 + 5, none⟩ = _ := (hba.cell (p := ⟨g7, off7 + k * 6 + 5, none⟩) (World.block_lt_of_cell? w6 _ z5)).trans z5
          clear hba BQ BQW
          go_upto_region 18 with (fail)
          generalize w6.alloc (.cells #[.int .i64 xo, .string ⟨xk.toArray⟩, .string ⟨xv.toArray⟩, .bool xg] 44) = w7 at *
          generalize w6.heap.size = p9 at *
          clear x4 x5 y0 y1 y2 y3 z5
          have x0 := C6.out.cell 0
          have x1 := C6.out.cell 1
          have x2 := C6.out.cell 2
          have x3 := C6.out.cell 3
          simp only [List.getElem?_cons_zero, List.getElem?_cons_succ] at x0 x1 x2 x3
          go_upto_block 2 with (fail)
          go_cut [14] (fun s14 wz => ∃ (b : Bool) (q : Nat), s14 = .bool b ∧ Hid (mustB xk k qa b xg tm qz qn = r) ∧ wz = w7.drewN q)
          case first =>
            go_wp2
            go_loopw [14, 15] (fun tb tj wr2 => ∃ (j : Nat) (b : Bool) (q : Nat), tj = .int .i64 j ∧ tb = .bool b ∧ k + 1 ≤ j ∧ j ≤ risN recs ∧ (j ≤ qa ∨ j = k + 1) ∧ Hid (b = true ↔ LaterTo recs k j) ∧ wr2 = w7.drewN q) (fun _ tj _ => risN recs - (intOf tj).toNat)
            case atStart => exact ⟨k + 1, false, 0, by go_num, rfl, by omega, by omega, .inr rfl, ⟨fun h => (by cases h), fun ⟨m, h1, h2, _⟩ => (by omega)⟩, rfl⟩
            case round =>
              obtain ⟨j, b, q, rfl, rfl, hkj, hjn, hju, HBL, rfl⟩ := hrel
              by_cases hgo2 : j < risN recs ∧ j < qa
              · obtain ⟨hjl, hjq⟩ := hgo2
                obtain ⟨g', off', cap6', g3, off3, cap3, he, _, _, _, r5, _, r1, _, _⟩ := ris_cells L45.out B7.out hjl
                injection he with e1 e2 e3
                injection e1 with e1
                injection e1 with e4 e5
                subst e4 e5 e3
                have hkj2 := HKL.out j hjl
                have HLS := Lib.hid (laterTo_succ (recs := recs) (i := k) (j := j) (by omega))
                rw [HX.out] at HLS
                dsimp only at HLS
                generalize (rxs recs j).key = kj at *
                unfold maxLen at hkj2
                clear e2
                cases b with
                | true =>
                  have HB2 : Hid (LaterTo recs k (j + 1)) := HLS.out.2 (.inl (HBL.out.1 rfl))
                  clear r5 r1
                  go_wp2
                  go_quiet (fail)
                  go_wp2
                  go_roundw
                  case rel => exact ⟨j + 1, true, _, by go_num, rfl, by omega, by omega, .inl (by omega), ⟨fun _ => HB2.out, fun _ => rfl⟩, rfl⟩
                  case measure => simp [intOf]; omega
                | false =>
                  by_cases hkk2 : kj = xk
                  · have hbeq : (kj == xk) = true := by simp [hkk2]
                    have HB2 : Hid (LaterTo recs k (j + 1)) := HLS.out.2 (.inr hkk2)
                    clear hkk2
                    go_wp2
                    go_quiet (fail)
                    go_wp2
                    go_roundw
                    case rel => exact ⟨j + 1, true, _, by go_num, rfl, by omega, by omega, .inl (by omega), ⟨fun _ => HB2.out, fun _ => rfl⟩, rfl⟩
                    case measure => simp [intOf]; omega
                  · have hbeq : (kj == xk) = false := by simp [hkk2]
                    have HB2 : Hid (¬ LaterTo recs k (j + 1)) := fun h => by
                      rcases HLS.out.1 h with h1 | h1
                      · have := HBL.out.2 h1
                        cases this
                      · exact hkk2 h1
                    clear hkk2
                    go_wp2
                    go_quiet (fail)
                    go_wp2
                    go_roundw
                    case rel => exact ⟨j + 1, false, _, by go_num, rfl, by omega, by omega, .inl (by omega), ⟨fun h => (by cases h), fun h => absurd h HB2.out⟩, rfl⟩
                    case measure => simp [intOf]; omega
              · have HMU := Lib.hid (keeps_must (tm := tm) (xg := xg) HXO.out HNU.out (fun h => HLU.out j hjn hju hgo2 h) HBL.out)
                have hgo3 : ¬ j < risN recs ∨ (j < risN recs ∧ ¬ j < qa) := by
                  by_cases h : j < risN recs
                  · right; exact ⟨h, fun h2 => hgo2 ⟨h, h2⟩⟩
                  · exact .inl h
                clear hgo2
                rcases hgo3 with hno | ⟨hyes, hno⟩
                all_goals
                  go_wp2
                  go_meet
                  case rel => exact ⟨b, q, rfl, HMU, rfl⟩
          case rest =>
            obtain ⟨b, q, rfl, HMU, rfl⟩ := hcut
            have B8 : Hid (Below w5.heap.size w5 (w7.drewN q)) := below_drewN B7.out q
            obtain ⟨hz1, hz2, hz3⟩ := HZ.out
            clear HZ HRS H7
            cases xk with
            | nil =>
              obtain rfl : false = r := by rw [← HMU.out]; simp [mustB]
              go_wp2
              go_roundw
              case rel => exact ⟨k + 1, by go_num, by omega, B8.out⟩
              case measure => simp [intOf]; omega
            | cons c cs =>
              simp only [List.length_cons] at hkk
              by_cases hkq : k < qa
              · cases b with
                | true =>
                  obtain rfl : true = r := by rw [← HMU.out]; simp [mustB, hkq]
                  go_wp2
                  go_roundw
                  case rel => exact ⟨k + 1, by go_num, by omega, B8.out⟩
                  case measure => simp [intOf]; omega
                | false =>
                  cases xg with
                  | false =>
                    obtain rfl : false = r := by rw [← HMU.out]; simp [mustB, hkq]
                    go_wp2
                    go_roundw
                    case rel => exact ⟨k + 1, by go_num, by omega, B8.out⟩
                    case measure => simp [intOf]; omega
                  | true =>
                    by_cases htt : tm + qz ≤ qn
                    · obtain rfl : true = r := by rw [← HMU.out]; simp [mustB, hkq, htt]
                      go_wp2
                      go_roundw
                      case rel => exact ⟨k + 1, by go_num, by omega, B8.out⟩
                      case measure => simp [intOf]; omega
                    · obtain rfl : false = r := by rw [← HMU.out]; simp [mustB, hkq, htt]
                      go_wp2
                      go_roundw
                      case rel => exact ⟨k + 1, by go_num, by omega, B8.out⟩
                      case measure => simp [intOf]; omega
              · obtain rfl : false = r := by rw [← HMU.out]; simp [mustB, hkq]
                go_wp2
                go_roundw
                case rel => exact ⟨k + 1, by go_num, by omega, B8.out⟩
                case measure => simp [intOf]; omega
      · go_wp2_with fail
        refine (thinS HST.out qa qn qz _ wr (L5.out.kept BK.out)).mono ?_
        rintro e w6 ⟨v6, rfl, hB6, hb6⟩
        rw [HTT.out] at hB6
        have L6 := Lib.hid hB6
        have L56 := Lib.hid ((L5.out.kept BK.out).kept hb6)
        have B6 := Lib.hid (bt BW.out hb6)
        clear hB6 hb6
        have hsm := HST.out
        go_wp2_with fail
        refine (batsEq_any _ hsm.max.2.1 hsm.max.2.2.2.2 v6 _ w6 L6.out L56.out).mono ?_
        rintro e w8 ⟨rfl, hb8⟩
        have B8 := Lib.hid (bt B6.out hb8)
        clear hb8 hsm
        go_wp2
        go_ret
        exact ⟨rfl, B8.out⟩

end Go.Proofs.Ytccndbifnbmddaa
