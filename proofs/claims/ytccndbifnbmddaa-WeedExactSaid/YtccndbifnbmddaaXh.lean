/-
  WeedFolds: the walk.
  Conditions: none but the model's longest length.
-/
import Derived.Test.YtccndbifnbmddaaXg
set_option linter.unusedVariables false
set_option linter.unusedSimpArgs false
namespace Go.Proofs.Ytccndbifnbmddaa
open Go.RowKit

def FoldS (w : World) (upto : Int) (l : List Cr.Batch) (e : Ending) (w' : World) : Prop := ∃ v f, e = .returned v ∧ FoldRes upto (recsOf l) f ∧ f.length ≤ maxLen ∧ (∀ x ∈ f, RecOk x) ∧ Recs w' v f ∧ Below w.heap.size w w'
/-- Fold, at small rows whose offsets tell records apart. -/
theorem foldS {l : List Cr.Batch} (h : SmL l) (hi : Inj (recsOf l)) (upto : Int) (v : Value) (w : World) (hv : Bats w v l) : Calls Try.prog 16 #[v, .int .i64 upto] w (FoldS w upto l) := by
  refine (fold_any l upto v w hv h.max.2.1 h.total h.max.2.2.2.1).mono ?_
  rintro e w' ⟨v', f, rfl, hp, hs, hr, hb⟩
  have hf := foldRes hi hp hs
  refine ⟨v', f, rfl, hf, ?_, fun x hx => ?_, hr, hb⟩
  · have h1 := hp.length_eq
    have h2 : (liveR (foldL upto l)).length ≤ (foldL upto l).length := List.length_filter_le _ _
    have h3 := foldL_len upto l
    have h4 := h.total
    rw [List.length_map] at h1
    unfold maxLen
    omega
  · obtain ⟨b, hb, hxr⟩ := mem_recsOf.1 ((hf.1 x).1 hx).1
    exact (h.each b hb).1.2.2.2.2.2.2 x hxr
set_option maxRecDepth 20000 in
set_option maxHeartbeats 3200000 in
theorem weedFolds_walk (v vt : Value) (recs : List Cr.Rec) (ts : List Int) (h0 n0 z0 : Int) (w : World) (hr : Recs w v recs) (ht : Ints w vt ts) (hl : recs.length ≤ maxLen) (hlt : ts.length ≤ maxLen) (hok : ∀ x ∈ recs, RecOk x) :
    Calls Try.prog 5 #[v, vt, .agg #[.int .i64 h0, .int .i64 n0, .int .i64 z0]] w fun e w' => e = .returned (.bool true) ∧ Below w.heap.size w w' := by
  have HSM := Lib.hid (sm_rising recs ts hok)
  have HIN := Lib.hid (inj_rising recs ts)
  have B1 : Hid (Below w.heap.size w (w.alloc (.cells #[.int .i64 h0, .int .i64 n0, .int .i64 z0] 24))) := (Below.refl _ _).alloc (Nat.le_refl _) _
  have C1 : Hid (Cl (w.alloc (.cells #[.int .i64 h0, .int .i64 n0, .int .i64 z0] 24)) w.heap.size [.int .i64 h0, .int .i64 n0, .int .i64 z0] 24) := Cl.new w _ _
  have HSA := Lib.hid (fun W (hW : Below w.heap.size w W) => small_any recs hl hok v W (hr.kept hW))
  have HRI := Lib.hid (fun W (hW : Below w.heap.size w W) => rising_any recs ts hl hlt v vt W (hr.kept hW) (ht.kept hW))
  obtain ⟨a, cap, rfl⟩ := hr.form
  obtain ⟨at', capt, rfl, -⟩ := id ht
  clear hr ht hok
  unfold maxLen at hl hlt
  generalize rising recs ts = l at *
  go_enter Try.func5, Try.ntmps5
  go_upto_region 1 with (fail)
  generalize w.alloc (.cells #[.int .i64 h0, .int .i64 n0, .int .i64 z0] 24) = w1 at *
  generalize w.heap.size = p at C1 ⊢
  go_wp2_with fail
  refine (awake_any w1).mono ?_
  rintro e w2 ⟨rfl, hb2⟩
  have B2 := Lib.hid (bt B1.out hb2)
  have C2 := Lib.hid (C1.out.below hb2)
  clear hb2 C1 B1
  go_wp2_with fail
  refine (HSA.out w2 B2.out).mono ?_
  rintro e w3 ⟨b, rfl, rfl⟩
  cases b with
  | false =>
    go_wp2
    go_ret
    exact ⟨rfl, B2.out⟩
  | true =>
    go_wp2_with fail
    refine (HRI.out w3 B2.out).mono ?_
    rintro e w4 ⟨v4, rfl, hB4, hb4⟩
    have L4 := Lib.hid hB4
    have B4 := Lib.hid (bt B2.out hb4)
    have C4 := Lib.hid (C2.out.below hb4)
    clear hB4 hb4 C2 B2 HSA HRI
    have c0 := C4.out.cell 0
    have c1 := C4.out.cell 1
    have c2 := C4.out.cell 2
    simp only [List.getElem?_cons_zero, List.getElem?_cons_succ] at c0 c1 c2
    obtain ⟨qa, hqa, ta, la⟩ : ∃ q : Nat, wrap64 (q : Int) = q ∧ (IntKind.u64.wrap h0).tmod 45 = (q : Int) ∧ q < 45 := ⟨_, wrapN _ (by have := um_lt h0 (m := 45) (by omega); omega), um_tmod h0 (m := 45) (by omega), um_lt h0 (by omega)⟩
    obtain ⟨qn, hqn, tn, ln⟩ : ∃ q : Nat, wrap64 (q : Int) = q ∧ (IntKind.u64.wrap n0).tmod 2000 = (q : Int) ∧ q < 2000 := ⟨_, wrapN _ (by have := um_lt n0 (m := 2000) (by omega); omega), um_tmod n0 (m := 2000) (by omega), um_lt n0 (by omega)⟩
    obtain ⟨qz, hqz, tz, lz⟩ : ∃ q : Nat, wrap64 (q : Int) = q ∧ (IntKind.u64.wrap z0).tmod 500 = (q : Int) ∧ q < 500 := ⟨_, wrapN _ (by have := um_lt z0 (m := 500) (by omega); omega), um_tmod z0 (m := 500) (by omega), um_lt z0 (by omega)⟩
    have HST := Lib.hid (HSM.out.thin qa qn qz)
    have HIT := Lib.hid (HIN.out.thin (l := l) qa qn qz)
    have HLV : Hid (∀ u : Int, (qa : Int) ≤ u → ∀ x, Live u (recsOf (thin l qa qn qz)) x ↔ Live u (recsOf l) x) := fun u hu x => live_thin hu x
    go_wp2_with fail
    refine (thinS HSM.out qa qn qz v4 w4 L4.out).mono ?_
    rintro e w5 ⟨v5, rfl, hB5, hb5⟩
    have L5 := Lib.hid hB5
    have L45 := Lib.hid (L4.out.kept hb5)
    have B5 := Lib.hid (bt B4.out hb5)
    clear hB5 hb5 c0 c1 c2 C4 L4 B4 ta tn tz hqa hqn hqz
    generalize thin l qa qn qz = t at *
    go_wp2
    go_loopw [11] (fun i wr => ∃ k : Nat, i = .int .i64 k ∧ qa ≤ k ∧ k ≤ 46 ∧ Below w5.heap.size w5 wr) (fun i _ => 46 - (intOf i).toNat)
    case atStart => exact ⟨qa, rfl, by omega, by omega, Below.refl _ _⟩
    case round =>
      obtain ⟨k, rfl, hk, hk4, hb⟩ := hrel
      have BK := Lib.hid hb
      have BW := Lib.hid (bt B5.out hb)
      clear hb
      by_cases hkt : k < 46
      · go_wp2_with fail
        refine (foldS HST.out HIT.out k v5 wr (L5.out.kept BK.out)).mono ?_
        rintro e w6 ⟨v6, f6, rfl, hf6, hl6, ho6, hr6, hb6⟩
        have R6 := Lib.hid hr6
        have F6 := Lib.hid hf6
        have B6 := Lib.hid (bt BK.out hb6)
        have BW6 := Lib.hid (bt BW.out hb6)
        clear hr6 hf6 hb6
        go_wp2_with fail
        refine (foldS HSM.out HIN.out k v4 w6 (L45.out.kept B6.out)).mono ?_
        rintro e w7 ⟨v7, f7, rfl, hf7, hl7, ho7, hr7, hb7⟩
        obtain rfl : f6 = f7 := F6.out.eq hf7 (HLV.out k (by omega))
        have R7 := Lib.hid hr7
        have R67 := Lib.hid (R6.out.kept hb7)
        have O7 := Lib.hid ho7
        have B7 := Lib.hid (bt B6.out hb7)
        have BW7 := Lib.hid (bt BW6.out hb7)
        clear hr7 hf7 hb7 ho6 ho7 hl6
        go_wp2_with fail
        refine (recsEq_any f6 hl7 O7.out v6 v7 w7 R67.out R7.out).mono ?_
        rintro e w8 ⟨rfl, hb8⟩
        have B8 := Lib.hid (bt B7.out hb8)
        clear hb8 hl7
        go_wp2
        go_roundw
        case rel => exact ⟨k + 1, by go_num, by omega, by omega, B8.out⟩
        case measure => simp [intOf]; omega
      · go_wp2
        go_ret
        exact ⟨rfl, BW.out⟩

end Go.Proofs.Ytccndbifnbmddaa
