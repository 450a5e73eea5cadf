/-
  WeedLater: the walk.
  Conditions: none but the model's longest length.
-/
import Derived.Test.YtccndbifnbmddaaXi
set_option linter.unusedVariables false
set_option linter.unusedSimpArgs false
namespace Go.Proofs.Ytccndbifnbmddaa
open Go.RowKit

theorem ints_nil (w : World) : Ints w (.slice none 0 0) [] := ⟨none, 0, rfl, fun i hi => by simp at hi⟩
/-- The cells of the i-th batch's one record. -/
theorem ris_cells {recs : List Cr.Rec} {ts : List Int} {w w' : World} {v : Value} (h : Bats w v (rising recs ts)) (hb : Below w.heap.size w w') {i : Nat} (hi : i < risN recs) :
    ∃ g off cap g2 off2 cap2, v = .slice (some ⟨g, off, none⟩) (risN recs) cap ∧ w'.cell? ⟨g, off + i * 6, none⟩ = some (.int .i64 i) ∧ w'.cell? ⟨g, off + i * 6 + 1, none⟩ = some (.int .i64 1) ∧ w'.cell? ⟨g, off + i * 6 + 4, none⟩ = some (.int .i64 (timeOf ts i)) ∧ w'.cell? ⟨g, off + i * 6 + 5, none⟩ = some (.slice (some ⟨g2, off2, none⟩) 1 cap2) ∧
      w'.cell? ⟨g2, off2, none⟩ = some (.int .i64 (rxs recs i).off) ∧ w'.cell? ⟨g2, off2 + 1, none⟩ = some (.string ⟨(rxs recs i).key.toArray⟩) ∧ w'.cell? ⟨g2, off2 + 2, none⟩ = some (.string ⟨(rxs recs i).val.toArray⟩) ∧ w'.cell? ⟨g2, off2 + 3, none⟩ = some (.bool (rxs recs i).gone) := by
  obtain ⟨g, off, cap, rv, hv, hg, c0, c1, _, _, c4, c5, hr⟩ := h.get hb (ris_get ts hi)
  obtain ⟨g2, off2, cap2, hrv, hg2, d0, d1, d2, d3⟩ := hr.get hb (k := 0) rfl
  rw [ris_len] at hv
  subst hrv
  simp only [Nat.zero_mul, Nat.add_zero] at d0 d1 d2 d3
  exact ⟨g, off, cap, g2, off2, cap2, hv, c0, c1, c4, c5, d0, d1, d2, d3⟩
set_option maxHeartbeats 800000 in
theorem rec_eql (x0 y0 : Int) (xk yk xv yv : List UInt8) (xg yg : Bool) (w : World) :
    (binOp .eql 44 (.agg #[.int .i64 x0, .string ⟨xk.toArray⟩, .string ⟨xv.toArray⟩, .bool xg]) (.agg #[.int .i64 y0, .string ⟨yk.toArray⟩, .string ⟨yv.toArray⟩, .bool yg])).run Try.prog w = .ok (.bool (Cr.recEq ⟨x0, xk, xv, xg⟩ ⟨y0, yk, yv, yg⟩)) w := by
  have hS : Try.prog.underlying 44 = some (.struct (Try.prog.fieldsOf 44)) := by kernel_rfl
  have hp : Try.prog.stoodInHeld 44 = false := by kernel_rfl
  rw [run_eql_struct, show (10000 : Nat) = 9999 + 1 from rfl, run_equalIn_agg w 9999 44 _ _ hS hp]
  simp only [Program.fieldsOf, Try.underlying44]
  have u1 := Try.underlying3
  have u2 := Try.underlying9
  have u3 := Try.underlying4
  have a1 := Try.isAgg3
  have a2 := Try.isAgg9
  have a3 := Try.isAgg4
  have z1 := Try.sizeOf3
  have z2 := Try.sizeOf9
  have z3 := Try.sizeOf4
  go_simp

  unfold Cr.recEq
  by_cases h1 : x0 = y0 <;> by_cases h2 : xk = yk <;> by_cases h3 : xv = yv <;> by_cases h4 : xg = yg <;> simp [h1, h2, h3, h4]
theorem cntL_le (P : Nat → Prop) (k : Nat) : cntL P k ≤ k := by
  induction k with
  | zero => exact Nat.le_refl _
  | succ k ih =>
    by_cases h : P k
    · rw [cntL_yes h]; omega
    · rw [cntL_no h]; omega
theorem mem_take_succ {l : List Cr.Rec} {j : Nat} {x y : Cr.Rec} (h : l[j]? = some y) : x ∈ l.take (j + 1) ↔ x ∈ l.take j ∨ x = y := by
  obtain ⟨hk, rfl⟩ := List.getElem?_eq_some_iff.1 h
  rw [List.take_succ_eq_append_getElem hk, List.mem_append, List.mem_singleton]
theorem lastTo_succ {recs : List Cr.Rec} {i j : Nat} (h : i < j) : LastTo recs i (j + 1) ↔ LastTo recs i j ∧ (rxs recs j).key ≠ (rxs recs i).key := by
  constructor
  · rintro ⟨h1, h2⟩
    exact ⟨⟨h1, fun m a b => h2 m a (by omega)⟩, h2 j h (by omega)⟩
  · rintro ⟨⟨h1, h2⟩, h3⟩
    refine ⟨h1, fun m a b => ?_⟩
    by_cases e : m = j
    · subst e; exact h3
    · exact h2 m a (by omega)
theorem lastTo_first {recs : List Cr.Rec} {i : Nat} : LastTo recs i (i + 1) ↔ (rxs recs i).key ≠ [] := ⟨fun h => h.1, fun h => ⟨h, fun m a b => by omega⟩⟩
set_option maxRecDepth 20000 in
set_option maxHeartbeats 6400000 in
theorem weedLater_walk (v : Value) (recs : List Cr.Rec) (u : Int) (w : World) (hr : Recs w v recs) (hl : recs.length ≤ maxLen) (hok : ∀ x ∈ recs, RecOk x) :
    Calls Try.prog 9 #[v, .int .i64 u] w fun e w' => e = .returned (.bool true) ∧ Below w.heap.size w w' := by
  have HSM := Lib.hid (sm_rising recs [] hok)
  have HIN := Lib.hid (inj_rising recs [])
  have HSA := Lib.hid (fun W (hW : Below w.heap.size w W) => small_any recs hl hok v W (hr.kept hW))
  have HRI := Lib.hid (fun W (hW : Below w.heap.size w W) => rising_any recs [] hl (by simp) v (.slice none 0 0) W (hr.kept hW) (ints_nil W))
  have HKL : Hid (∀ i, i < risN recs → (rxs recs i).key.length ≤ maxLen) := fun i hi => by
    have h1 : i < recs.length := by unfold risN at hi; omega
    rw [rxs_get (List.getElem?_eq_getElem h1)]
    exact (hok _ (List.getElem_mem h1)).2.1
  obtain ⟨a, cap, rfl⟩ := hr.form
  clear hr hok
  unfold maxLen at hl
  have hN : risN recs ≤ 40 := by unfold risN; omega
  have HLN := Lib.hid (ris_len recs [])
  go_enter Try.func9, Try.ntmps9
  go_wp2_with fail
  refine (awake_any w).mono ?_
  rintro e w2 ⟨rfl, hb2⟩
  have B2 := Lib.hid hb2
  clear hb2
  go_wp2_with fail
  refine (HSA.out w2 B2.out).mono ?_
  rintro e w3 ⟨b, rfl, rfl⟩
  cases b with
  | false =>
    go_wp2
    go_ret
    exact ⟨rfl, B2.out⟩
  | true =>
    go_wp2_with fail
    refine (HRI.out w3 B2.out).mono ?_
    rintro e w4 ⟨v4, rfl, hB4, hb4⟩
    have L4 := Lib.hid hB4
    have B4 := Lib.hid (bt B2.out hb4)
    clear hB4 hb4 B2 HSA HRI
    go_wp2_with fail
    refine (foldS HSM.out HIN.out u v4 w4 L4.out).mono ?_
    rintro e w5 ⟨v5, f, rfl, hf, hfl, hfo, hfr, hb5⟩
    have L5 := Lib.hid (L4.out.kept hb5)
    have B5 := Lib.hid (bt B4.out hb5)
    have F5 := Lib.hid hf
    have R5 := Lib.hid hfr
    obtain ⟨a4, cap4, hv4⟩ := L4.out.form
    rw [HLN.out] at hv4
    subst hv4
    obtain ⟨a5, cap5, hv5⟩ := hfr.form
    subst hv5
    have HFO := Lib.hid hfo
    have hfl2 : f.length ≤ 9223372036854775807 := by unfold maxLen at hfl; omega
    clear hf hfr hb5 L4 B4 hfo hfl
    go_wp2
    go_loopw [7, 8] (fun tn ti wr => ∃ k : Nat, ti = .int .i64 k ∧ k ≤ risN recs ∧ tn = .int .i64 (cntL (fun i => Live u (recsOf (rising recs [])) (rxs recs i)) k : Nat) ∧ Hid (∀ i : Nat, i < k → (i : Int) < u) ∧ Below w5.heap.size w5 wr) (fun _ ti _ => risN recs - (intOf ti).toNat)
    case atStart => exact ⟨0, rfl, by omega, rfl, fun i hi => by omega, Below.refl _ _⟩
    case round =>
      obtain ⟨k, rfl, hk, rfl, HU, hb⟩ := hrel
      have BK := Lib.hid hb
      have BW := Lib.hid (bt B5.out hb)
      clear hb
      by_cases hgo : k < risN recs ∧ (k : Int) < u
      · obtain ⟨hkn, hku⟩ := hgo
        obtain ⟨g, off, cap6, g2, off2, cap2, he, _, _, _, p5, q0, q1, q2, q3⟩ := ris_cells L5.out BK.out hkn
        injection he with e1 e2 e3
        subst e1 e3
        have HKK := Lib.hid (HKL.out k hkn)
        have HCY := Lib.hid (cntL_yes (P := fun i => Live u (recsOf (rising recs [])) (rxs recs i)) (k := k))
        have HCN := Lib.hid (cntL_no (P := fun i => Live u (recsOf (rising recs [])) (rxs recs i)) (k := k))
        have HCL := Lib.hid (cntL_le (fun i => Live u (recsOf (rising recs [])) (rxs recs i)) k)
        have HLL : Hid (∀ j : Nat, j ≤ risN recs → ((j : Int) ≤ u ∨ j = k + 1) → ¬ (j < risN recs ∧ (j : Int) < u) → (Live u (recsOf (rising recs [])) (rxs recs k) ↔ LastTo recs k j ∧ (rxs recs k).gone = false)) := fun j h1 h2 h3 => live_last hkn hku h1 h2 h3
        have HU2 : Hid (∀ i : Nat, i < k + 1 → (i : Int) < u) := fun i hi => by
          by_cases h : i = k
          · subst h; exact hku
          · exact HU.out i (by omega)
        have HF1 : Hid (LastTo recs k (k + 1) ↔ (rxs recs k).key ≠ []) := lastTo_first
        have HMF : Hid (Live u (recsOf (rising recs [])) (rxs recs k) → rxs recs k ∈ f) := fun h => (F5.out.1 _).2 h
        generalize hx : rxs recs k = x at *
        have HX := Lib.hid hx
        clear hx e2
        obtain ⟨xo, xk, xv, xg⟩ := x
        dsimp only at q0 q1 q2 q3 HKK
        have hkk := HKK.out
        unfold maxLen at hkk
        have C6 : Hid (Cl (wr.alloc (.cells #[.int .i64 xo, .string ⟨xk.toArray⟩, .string ⟨xv.toArray⟩, .bool xg] 44)) wr.heap.size [.int .i64 xo, .string ⟨xk.toArray⟩, .string ⟨xv.toArray⟩, .bool xg] 44) := Cl.new wr _ _
        have hba : Below wr.heap.size wr (wr.alloc (.cells #[.int .i64 xo, .string ⟨xk.toArray⟩, .string ⟨xv.toArray⟩, .bool xg] 44)) := (Below.refl _ _).alloc (Nat.le_refl _) _
        have B6 := Lib.hid (bt BK.out hba)
        clear hba
        go_upto_region 12 with (fail)
        generalize wr.alloc (.cells #[.int .i64 xo, .string ⟨xk.toArray⟩, .string ⟨xv.toArray⟩, .bool xg] 44) = w6 at *
        generalize wr.heap.size = p9 at *
        clear p5 q0 q1 q2 q3 BK BW
        have x0 := C6.out.cell 0
        have x1 := C6.out.cell 1
        have x2 := C6.out.cell 2
        have x3 := C6.out.cell 3
        simp only [List.getElem?_cons_zero, List.getElem?_cons_succ] at x0 x1 x2 x3
        obtain ⟨b0, hb0, HB0⟩ : ∃ b0 : Bool, (xk == []) = !b0 ∧ Hid (b0 = true ↔ xk ≠ []) := ⟨!(xk == []), by simp, by simp [Hid]⟩
        go_wp2
        go_loopw [10, 11] (fun tb tj wr2 => ∃ (j : Nat) (b : Bool) (q : Nat), tj = .int .i64 j ∧ tb = .bool b ∧ k + 1 ≤ j ∧ j ≤ risN recs ∧ ((j : Int) ≤ u ∨ j = k + 1) ∧ Hid (b = true ↔ LastTo recs k j) ∧ wr2 = w6.drewN q) (fun _ tj _ => risN recs - (intOf tj).toNat)
        case atStart => exact ⟨k + 1, b0, 0, by go_num, rfl, by omega, by omega, .inr rfl, by rw [Hid, HF1.out]; exact HB0.out, rfl⟩
        case round =>
          obtain ⟨j, b, q, rfl, rfl, hkj, hjn, hju, HBL, rfl⟩ := hrel
          by_cases hgo2 : j < risN recs ∧ (j : Int) < u
          · obtain ⟨hjl, hju2⟩ := hgo2
            obtain ⟨g', off', cap6', g3, off3, cap3, he, _, _, _, r5, _, r1, _, _⟩ := ris_cells L5.out B6.out hjl
            injection he with e1 e2 e3
            injection e1 with e1
            injection e1 with e4 e5
            subst e4 e5 e3
            have hkj2 := HKL.out j hjl
            have HLS := Lib.hid (lastTo_succ (recs := recs) (i := k) (j := j) (by omega))
            rw [HX.out] at HLS
            dsimp only at HLS
            generalize (rxs recs j).key = kj at *
            unfold maxLen at hkj2
            clear e2
            cases b with
            | false =>
              have HB2 : Hid (¬ LastTo recs k (j + 1)) := fun h => by have := HBL.out.2 (HLS.out.1 h).1; cases this
              clear r5 r1
              go_wp2
              go_quiet (fail)
              go_wp2
              go_roundw
              case rel => exact ⟨j + 1, false, _, by go_num, rfl, by omega, by omega, .inl (by omega), ⟨fun h => (by cases h), fun h => absurd h HB2.out⟩, rfl⟩
              case measure => simp [intOf]; omega
            | true =>
              by_cases hkk2 : kj = xk
              · have hbeq : (kj == xk) = true := by simp [hkk2]
                have HB2 : Hid (¬ LastTo recs k (j + 1)) := fun h => absurd hkk2 (HLS.out.1 h).2
                clear hkk2
                go_wp2
                go_quiet (fail)
                go_wp2
                go_roundw
                case rel => exact ⟨j + 1, false, _, by go_num, rfl, by omega, by omega, .inl (by omega), ⟨fun h => (by cases h), fun h => absurd h HB2.out⟩, rfl⟩
                case measure => simp [intOf]; omega
              · have hbeq : (kj == xk) = false := by simp [hkk2]
                have HB2 : Hid (LastTo recs k (j + 1)) := HLS.out.2 ⟨HBL.out.1 rfl, hkk2⟩
                clear hkk2
                go_wp2
                go_quiet (fail)
                go_wp2
                go_roundw
                case rel => exact ⟨j + 1, true, _, by go_num, rfl, by omega, by omega, .inl (by omega), ⟨fun _ => HB2.out, fun _ => rfl⟩, rfl⟩
                case measure => simp [intOf]; omega
          · have hLV := HLL.out j hjn hju hgo2
            have HLV := Lib.hid hLV
            clear hLV
            have hgo3 : ¬ j < risN recs ∨ (j < risN recs ∧ ¬ (j : Int) < u) := by
              by_cases h : j < risN recs
              · right; exact ⟨h, fun h2 => hgo2 ⟨h, h2⟩⟩
              · exact .inl h
            clear hgo2
            have B7 : Hid (Below w5.heap.size w5 (w6.drewN q)) := below_drewN B6.out q
            rcases hgo3 with hno | ⟨hyes, hno⟩
            all_goals
              cases b with
              | false =>
                have HC := Lib.hid (HCN.out (fun h => by have := HBL.out.2 (HLV.out.1 h).1; cases this))
                go_wp2
                go_roundw
                case rel => exact ⟨k + 1, by go_num, by omega, by rw [HC.out], HU2, B7.out⟩
                case measure => simp [intOf]; omega
              | true =>
                cases xg with
                | true =>
                  have HC := Lib.hid (HCN.out (fun h => by have := (HLV.out.1 h).2; cases this))
                  go_wp2
                  go_roundw
                  case rel => exact ⟨k + 1, by go_num, by omega, by rw [HC.out], HU2, B7.out⟩
                  case measure => simp [intOf]; omega
                | false =>
                  have hlive : Live u (recsOf (rising recs [])) ⟨xo, xk, xv, false⟩ := HLV.out.2 ⟨HBL.out.1 rfl, rfl⟩
                  have HMX := Lib.hid (HMF.out hlive)
                  have HC := Lib.hid (HCY.out hlive)
                  clear hlive
                  go_wp2
                  go_loopw [12, 13] (fun tb tj wr3 => ∃ (m : Nat) (b : Bool) (q2 : Nat), tj = .int .i64 m ∧ tb = .bool b ∧ m ≤ f.length ∧ Hid (b = true ↔ (⟨xo, xk, xv, false⟩ : Cr.Rec) ∈ f.take m) ∧ wr3 = w6.drewN q2) (fun _ tj _ => f.length - (intOf tj).toNat)
                  case atStart => exact ⟨0, false, q, rfl, rfl, by omega, by simp [Hid], rfl⟩
                  case round =>
                    obtain ⟨m, b, q2, rfl, rfl, hm, HBM, rfl⟩ := hrel
                    by_cases hml : m < f.length
                    · obtain ⟨y, hy⟩ : ∃ y, f[m]? = some y := ⟨f[m], by simp [hml]⟩
                      have HTS := Lib.hid (mem_take_succ (x := (⟨xo, xk, xv, false⟩ : Cr.Rec)) hy)
                      obtain ⟨g5, off5, cap7, he5, hg5, s0, s1, s2, s3⟩ := R5.out.get B6.out hy
                      injection he5 with e6 e7 e8
                      subst e6 e8
                      clear e7 hy
                      cases b with
                      | true =>
                        have HB3 : Hid ((⟨xo, xk, xv, false⟩ : Cr.Rec) ∈ f.take (m + 1)) := HTS.out.2 (.inl (HBM.out.1 rfl))
                        clear s0 s1 s2 s3
                        go_wp2
                        go_quiet (fail)
                        go_wp2
                        go_roundw
                        case rel => exact ⟨m + 1, true, _, by go_num, rfl, by omega, ⟨fun _ => HB3.out, fun _ => rfl⟩, rfl⟩
                        case measure => simp [intOf]; omega
                      | false =>
                        obtain ⟨yo, yk, yv, yg⟩ := y
                        dsimp only at s0 s1 s2 s3
                        have hn := fun w => rec_eql yo xo yk xk yv xv yg false w
                        cases hre : Cr.recEq ⟨yo, yk, yv, yg⟩ ⟨xo, xk, xv, false⟩ with
                        | true =>
                          have HB3 : Hid ((⟨xo, xk, xv, false⟩ : Cr.Rec) ∈ f.take (m + 1)) := HTS.out.2 (.inr (Cr.recEq_iff.1 hre).symm)
                          simp only [hre] at hn
                          clear hre
                          go_wp2
                          go_quiet (fail)
                          go_wp2
                          go_roundw
                          case rel => exact ⟨m + 1, true, _, by go_num, rfl, by omega, ⟨fun _ => HB3.out, fun _ => rfl⟩, rfl⟩
                          case measure => simp [intOf]; omega
                        | false =>
                          have HB3 : Hid (¬ (⟨xo, xk, xv, false⟩ : Cr.Rec) ∈ f.take (m + 1)) := fun h => by
                            rcases HTS.out.1 h with h1 | h1
                            · have := HBM.out.2 h1
                              cases this
                            · rw [h1] at hre
                              rw [Cr.recEq_iff.2 rfl] at hre
                              cases hre
                          simp only [hre] at hn
                          clear hre
                          go_wp2
                          go_quiet (fail)
                          go_wp2
                          go_roundw
                          case rel => exact ⟨m + 1, false, _, by go_num, rfl, by omega, ⟨fun h => (by cases h), fun h => absurd h HB3.out⟩, rfl⟩
                          case measure => simp [intOf]; omega
                    · obtain rfl : m = f.length := by omega
                      have hbt : b = true := HBM.out.2 (by rw [List.take_length]; exact HMX.out)
                      subst hbt
                      have B8 : Hid (Below w5.heap.size w5 (w6.drewN q2)) := below_drewN B6.out q2
                      have hcle : cntL (fun i => Live u (recsOf (rising recs [])) (rxs recs i)) k ≤ 40 := Nat.le_trans HCL.out (by omega)
                      generalize cntL (fun i => Live u (recsOf (rising recs [])) (rxs recs i)) k = ck at *
                      go_wp2
                      go_roundw
                      case rel => exact ⟨k + 1, by go_num, by omega, by rw [HC.out]; go_num, HU2, B8.out⟩
                      case measure => simp [intOf]; omega
      · have hcf := later_count F5.out hk hgo HU.out
        have FSS := Lib.hid (List.pairwise_iff_getElem.1 F5.out.2)
        rw [hcf]
        have hgo3 : ¬ k < risN recs ∨ (k < risN recs ∧ ¬ (k : Int) < u) := by
          by_cases h : k < risN recs
          · right; exact ⟨h, fun h2 => hgo ⟨h, h2⟩⟩
          · exact .inl h
        clear hgo hcf HU F5
        have hfl3 : f.length < 9223372036854775807 ∨ f.length = 9223372036854775807 := by omega
        rcases hgo3 with hno | ⟨hyes, hno⟩
        all_goals
          go_wp2
          go_loopw [14] (fun ti wr4 => ∃ m q : Nat, ti = .int .i64 ((m + 1 : Nat) : Int) ∧ (m + 1 ≤ f.length ∨ m = 0) ∧ wr4 = wr.drewN q) (fun ti _ => f.length + 1 - (intOf ti).toNat)
          case atStart => exact ⟨0, 0, rfl, .inr rfl, rfl⟩
          case round =>
            obtain ⟨m, q, rfl, hm, rfl⟩ := hrel
            by_cases hml : m + 1 < f.length
            · obtain ⟨y0, hy0⟩ : ∃ y, f[m]? = some y := ⟨f[m], by simp⟩
              obtain ⟨y1, hy1⟩ : ∃ y, f[m + 1]? = some y := ⟨f[m + 1], by simp [hml]⟩
              have hlt : y0.key < y1.key := by
                have := FSS.out m (m + 1) (by omega) hml (by omega)
                rw [List.getElem?_eq_getElem (by omega)] at hy0
                rw [List.getElem?_eq_getElem hml] at hy1
                injection hy0 with hy0
                injection hy1 with hy1
                rw [← hy0, ← hy1]; exact this
              have hbl : Op.bytesLess y0.key y1.key = true := by rw [bytesLess_eq]; exact decide_eq_true hlt
              obtain ⟨g5, off5, cap7, he5, hg5, _, s1, _, _⟩ := R5.out.get BK.out hy0
              injection he5 with e6 e7 e8
              subst e6 e8
              obtain ⟨g6, off6, cap8, he6, hg6, _, r1, _, _⟩ := R5.out.get BK.out hy1
              injection he6 with e6 e9 e8
              injection e6 with e6
              injection e6 with e10 e11
              subst e10 e11 e8
              clear e7 e9 hy0 hy1 hlt
              generalize y0.key = k0 at *
              generalize y1.key = k1 at *
              have hjm : (((m + 1 : Nat)) : Int) - 1 = (m : Int) := by omega
              go_wp2
              go_quiet (fail)
              go_wp2
              go_roundw
              case rel => exact ⟨m + 1, _, by go_num, .inl (by omega), rfl⟩
              case measure => simp [intOf]; omega
            · have BQ : Hid (Below w.heap.size w (wr.drewN q)) := below_drewN BW.out q
              have hml2 : ¬ (((m + 1 : Nat)) : Int) < (f.length : Int) := by omega
              go_wp2
              go_ret
              exact ⟨by simp, BQ.out⟩

end Go.Proofs.Ytccndbifnbmddaa
