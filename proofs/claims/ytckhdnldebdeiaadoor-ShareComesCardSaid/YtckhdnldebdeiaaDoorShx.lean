/-
  Share: who owns what, walked.
  Conditions: the model's longest length.
-/
import Derived.Test.YtckhdnldebdeiaaDoorShw
import Derived.Deep.MidRow
set_option linter.unusedVariables false
set_option linter.unusedSimpArgs false
namespace Go.Proofs.YtckhdnldebdeiaaDoor
open Go.RowKit

theorem infoOwner : (Tryd.prog.info? 36).map (fun i => (i.zero, i.size, i.bytes)) = some (some (.agg #[.int .i64 0, .string ⟨#[]⟩]), 2, 24) := by kernel_rfl
theorem infoInt : (Tryd.prog.info? 3).map (fun i => (i.zero, i.size, i.bytes)) = some (some (.int .i64 0), 1, 8) := by kernel_rfl
/-- The cells of owners, from the partition k + 1 on. -/
def ocells : Nat → List Sh.Nm → List Value
  | _, [] => []
  | k, x :: r => .int .i64 ((k : Int) + 1) :: .string ⟨x.toArray⟩ :: ocells (k + 1) r
theorem ocells_snoc (l : List Sh.Nm) (x : Sh.Nm) (k : Nat) : ocells k (l ++ [x]) = ocells k l ++ [.int .i64 (((k + l.length : Nat) : Int) + 1), .string ⟨x.toArray⟩] := by
  induction l generalizing k with
  | nil => rfl
  | cons y l ih =>
    simp only [List.cons_append, ocells, ih, List.length_cons]
    rw [show k + 1 + l.length = k + (l.length + 1) by omega]
theorem ocells_at (l : List Sh.Nm) (k i : Nat) (h : i < l.length) : (ocells k l)[i * 2]? = some (.int .i64 (((k + i : Nat) : Int) + 1)) ∧ (ocells k l)[i * 2 + 1]? = some (.string ⟨(l.getD i []).toArray⟩) := by
  induction l generalizing k i with
  | nil => simp at h
  | cons y l ih =>
    cases i with
    | zero => exact ⟨rfl, rfl⟩
    | succ i =>
      obtain ⟨h1, h2⟩ := ih (k + 1) i (by simpa using h)
      rw [show (i + 1) * 2 = i * 2 + 1 + 1 by omega]
      refine ⟨?_, ?_⟩
      · rw [show k + (i + 1) = k + 1 + i by omega]
        exact h1
      · exact h2
/-- A slice of the call's own that holds these owners. -/
def OwnS (w : World) (base : Nat) (v : Value) (ls : List Sh.Nm) : Prop := w.ownsRow base 36 2 v ls.length (ocells 0 ls)
theorem OwnS.read {w : World} {base : Nat} {v : Value} {ls : List Sh.Nm} (h : OwnS w base v ls) : ∃ a cap, v = .slice a ls.length cap ∧ ls.length ≤ cap ∧ cap ≤ maxLen ∧ ∀ i, i < ls.length → ∃ g, a = some ⟨g, 0, none⟩ ∧ g < w.heap.size ∧ base ≤ g ∧
    w.cell? ⟨g, i * 2, none⟩ = some (.int .i64 ((i : Int) + 1)) ∧ w.cell? ⟨g, i * 2 + 1, none⟩ = some (.string ⟨(ls.getD i []).toArray⟩) := by
  have hh := h
  rcases h.2 with ⟨rfl, h0⟩ | ⟨g, cap, cur, rfl, hB, hg, hn, hm, hs, ht⟩
  · exact ⟨none, 0, by rw [h0], by omega, by unfold maxLen; omega, fun i hi => by omega⟩
  · refine ⟨_, cap, rfl, hn, hm, fun i hi => ⟨g, rfl, (Array.getElem?_eq_some_iff.1 hg).1, hB, ?_, ?_⟩⟩
    · have h1 := (ocells_at ls 0 i hi).1
      rw [Nat.zero_add] at h1
      have := hh.cells (g := g) rfl _ _ h1
      rwa [Addr.add_mid, Nat.zero_add] at this
    · have := hh.cells (g := g) rfl _ _ (ocells_at ls 0 i hi).2
      rwa [Addr.add_mid, Nat.zero_add] at this
theorem OwnS.below {w w' : World} {base : Nat} {v : Value} {ls : List Sh.Nm} (h : OwnS w base v ls) (hb : Below w.heap.size w w') : OwnS w' base v ls := ownsRow_below h hb
theorem own_src (w : World) (n : Int) (x : Sh.Nm) : SrcIs (w.alloc (.cells #[.int .i64 n, .string ⟨x.toArray⟩] 36)) 2 (.slice (some ⟨w.heap.size, 0, none⟩) 1 1) 1 [.int .i64 n, .string ⟨x.toArray⟩] := by
  refine .inr ⟨_, 1, rfl, rfl, fun j u hu => ?_⟩
  rw [Addr.add_mid, Nat.zero_add, cell_of_row (w.alloc _) w.heap.size j _ _ (0, 0) (heap_alloc_new w _)]
  simpa using hu
/-- How many, as the code reckons. -/
theorem cnt_int : ∀ (p : Fin 5) (m k : Fin 5), 0 < m.1 → k.1 < m.1 →
    (((if (k.1 : Int) < ((p.1 : Int) - 1).tmod m.1 then ((p.1 : Int) - 1).tdiv m.1 + 1 else ((p.1 : Int) - 1).tdiv m.1)).toNat = Sh.cnt ((p.1 : Int) - 1).toNat m.1 k.1) ∧
    -1 ≤ ((p.1 : Int) - 1).tdiv m.1 ∧ ((p.1 : Int) - 1).tdiv m.1 ≤ 3 ∧ -4 ≤ ((p.1 : Int) - 1).tmod m.1 ∧ ((p.1 : Int) - 1).tmod m.1 ≤ 3 := by decide
def AssPost (w : World) (ls : List Sh.Nm) (e : Ending) (w' : World) : Prop := ∃ o, e = .returned o ∧ OwnS w' w.heap.size o ls ∧ Below w.heap.size w w'
theorem ass_none {parts : Int} {ms : List Sh.Nm} (h : Sh.fits parts ms = false) : Sh.ass parts ms = [] := by rw [Sh.ass, h]; rfl
theorem own_len_le (n m : Nat) (ms : List Sh.Nm) (hn : n < 5) (hm : m < 5) (h0 : 0 < m) (k : Nat) (hk : k ≤ ms.length) (h5 : k < 5) : (Sh.ownFrom n m 0 (ms.take k)).length ≤ 16 := by
  rw [Sh.own_length n m ms k hk]
  exact (Sh.tab4 ⟨n, hn⟩ ⟨m, hm⟩ ⟨k, h5⟩ h0).2

set_option maxHeartbeats 1600000 in
theorem assign_any (parts : Int) (hp0 : -9223372036854775808 ≤ parts) (hp1 : parts ≤ 9223372036854775807) (v : Value) (ms : List Sh.Nm) (w : World) (h : Txts w v ms) (hm : ms.length ≤ maxLen) (hl : ∀ l ∈ ms, l.length ≤ maxLen) :
    Calls Tryd.prog 11 #[.int .i64 parts, v] w (AssPost w (Sh.ass parts ms)) := by
  have HZ := Lib.hid h
  have HG := Lib.hid (good_any v ms w h hm hl)
  obtain ⟨a, cap, rfl, _⟩ := h
  unfold maxLen at hm
  clear hl
  have none_ : ∀ W, Below w.heap.size w W → Sh.fits parts ms = false → AssPost w (Sh.ass parts ms) (.returned (.slice none 0 0)) W := fun W hb hf => by
    rw [ass_none hf]
    exact ⟨_, rfl, ⟨by simp [ocells], .inl ⟨rfl, rfl⟩⟩, hb⟩
  have HN := Lib.hid none_
  clear none_
  cases hg : Sh.good ms with
  | false =>
    rw [hg] at HG
    have HF : Hid (Sh.fits parts ms = false) := by rw [Hid, Sh.fits, hg]; rfl
    clear hg
    go_enter Tryd.func11, Tryd.ntmps11
    go_wp2_with fail
    refine HG.out.mono ?_
    rintro e w1 ⟨rfl, hb⟩
    have HB := Lib.hid hb
    clear hb
    go_wp2
    go_ret
    exact HN.out _ HB.out HF.out
  | true =>
    rw [hg] at HG
    by_cases hc : ms.length = 0 ∨ parts < 0 ∨ 4 < parts
    · have HF : Hid (Sh.fits parts ms = false) := by
        rw [Hid, Sh.fits]
        rcases hc with h0 | h0 | h0
        · rw [List.eq_nil_of_length_eq_zero h0]; simp
        · rw [decide_eq_false (by omega)]; simp
        · rw [decide_eq_false (p := parts ≤ 4) (by omega)]; simp
      clear hg
      go_enter Tryd.func11, Tryd.ntmps11
      go_wp2_with fail
      refine HG.out.mono ?_
      rintro e w1 ⟨rfl, hb⟩
      have HB := Lib.hid hb
      clear hb
      go_wp2
      all_goals first
        | (exfalso; omega)
        | (go_ret; exact HN.out _ HB.out HF.out)
        | (exfalso; simp only [beq_eq_false_iff_ne, beq_iff_eq, ne_eq] at *; omega)
    · have hm0 : ¬ ms.length = 0 := fun h => hc (.inl h)
      have hpa : 0 ≤ parts := by omega
      have hpb : parts ≤ 4 := by omega
      clear hc
      have h4 : ms.length ≤ 4 := by
        simp only [Sh.good, Bool.and_eq_true, decide_eq_true_eq] at hg
        exact hg.2
      have HF : Hid (Sh.ass parts ms = Sh.ownFrom (parts - 1).toNat ms.length 0 ms) := by
        have hne : ms.isEmpty = false := by cases ms with | nil => simp at hm0 | cons _ _ => rfl
        rw [Hid, Sh.ass, if_pos]
        rw [Sh.fits, hg, hne, decide_eq_true hpa, decide_eq_true hpb]
        rfl
      have HC : Hid (∀ k, k < ms.length → (((if (k : Int) < (parts - 1).tmod ms.length then (parts - 1).tdiv ms.length + 1 else (parts - 1).tdiv ms.length)).toNat = Sh.cnt (parts - 1).toNat ms.length k)) := fun k hk => by
        have := (cnt_int ⟨parts.toNat, by omega⟩ ⟨ms.length, by omega⟩ ⟨k, by omega⟩ (by simp; omega) hk).1
        simp only [Int.toNat_of_nonneg hpa] at this
        exact this
      obtain ⟨hq0, hq1, hr0, hr1⟩ : -1 ≤ (parts - 1).tdiv ms.length ∧ (parts - 1).tdiv ms.length ≤ 3 ∧ -4 ≤ (parts - 1).tmod ms.length ∧ (parts - 1).tmod ms.length ≤ 3 := by
        have := (cnt_int ⟨parts.toNat, by omega⟩ ⟨ms.length, by omega⟩ ⟨0, by omega⟩ (by simp; omega) (by simp; omega)).2
        simp only [Int.toNat_of_nonneg hpa] at this
        exact this
      have HLN : Hid (∀ k, k ≤ ms.length → (Sh.ownFrom (parts - 1).toNat ms.length 0 (ms.take k)).length ≤ 16) := fun k hk => own_len_le _ _ ms (by omega) (by omega) (by omega) k hk (by omega)
      generalize hq : (parts - 1).tdiv ms.length = q at *
      generalize hr : (parts - 1).tmod ms.length = r at *
      clear hg
      have hbz : ((ms.length : Int) == 0) = false := beq_eq_false_iff_ne.2 (by omega)
      go_enter Tryd.func11, Tryd.ntmps11
      go_wp2_with fail
      refine HG.out.mono ?_
      rintro e w1 ⟨rfl, hb⟩
      have HB := Lib.hid hb
      clear hb
      go_wp2
      go_loopw [5, 33] (fun o i wr => ∃ k : Nat, i = .int .i64 k ∧ k ≤ ms.length ∧ OwnS wr w.heap.size o (Sh.ownFrom (parts - 1).toNat ms.length 0 (ms.take k)) ∧ Below w.heap.size w wr) (fun o i _ => ms.length - (intOf i).toNat)
      case atStart => exact ⟨0, rfl, by omega, ⟨by simp [ocells, Sh.ownFrom], .inl ⟨rfl, rfl⟩⟩, HB.out⟩
      case round =>
        obtain ⟨k, rfl, hk, ho, hb⟩ := hrel
        have HO := Lib.hid ho
        have HB2 := Lib.hid hb
        clear ho hb HB
        by_cases hlt : k < ms.length
        · obtain ⟨a', cap', he, hcells⟩ := HZ.out
          injection he with he1 he2 he3
          subst he1 he3
          obtain ⟨g, off, rfl, hgg, hd1⟩ := hcells k hlt
          have hc1 := (HB2.out.cell (p := ⟨g, off + k, none⟩) hgg).trans hd1
          have HT := Lib.hid (Sh.own_take (parts - 1).toNat ms.length ms 0 k hlt)
          rw [Nat.zero_add] at HT
          have hCk := HC.out k hlt
          have hLk := HLN.out k hk
          have hC3 : Sh.cnt (parts - 1).toNat ms.length k ≤ 4 := by rw [← hCk]; split <;> omega
          generalize Sh.cnt (parts - 1).toNat ms.length k = C at HT hCk hC3
          clear hcells he2 hgg hd1
          generalize ms.getD k [] = x at *
          generalize Sh.ownFrom (parts - 1).toNat ms.length 0 (ms.take k) = O at *
          by_cases hkr : (k : Int) < r
          · rw [if_pos hkr] at hCk
            have hccn := hCk
            go_wp2
            go_loopw [5, 49] (fun o i wr2 => ∃ j : Nat, i = .int .i64 j ∧ j ≤ C ∧ OwnS wr2 w.heap.size o (O ++ List.replicate j x) ∧ Below w.heap.size w wr2) (fun o i _ => C - (intOf i).toNat)
            case atStart => exact ⟨0, rfl, by omega, by simpa using HO.out, HB2.out⟩
            case round =>
              obtain ⟨j, rfl, hj, ho, hb⟩ := hrel
              have HB3 := Lib.hid hb
              have HO3 := Lib.hid ho
              clear hb HO HB2
              obtain ⟨ao, capo, rfl, hcap, hcapm, _⟩ := ho.read
              have hnl : (O ++ List.replicate j x).length = O.length + j := by simp
              rw [hnl] at hcap
              unfold maxLen at hcapm
              by_cases hjc : j < C
              · obtain ⟨i0, hi, hz0, hz1, hz2⟩ := info_parts infoOwner
                have hsz := HB3.out.size
                have hown : Hid (wr.ownsRow w.heap.size 36 2 (.slice ao (O.length + j) capo) (O.length + j) (ocells 0 (O ++ List.replicate j x))) := by
                  have := ho
                  unfold OwnS at this
                  rwa [hnl] at this
                have hsn : O ++ List.replicate (j + 1) x = (O ++ List.replicate j x) ++ [x] := by rw [List.replicate_succ', List.append_assoc]
                have HSN : Hid (ocells 0 (O ++ List.replicate (j + 1) x) = ocells 0 (O ++ List.replicate j x) ++ [.int .i64 (((O.length + j : Nat) : Int) + 1), .string ⟨x.toArray⟩]) := by
                  rw [Hid, hsn, ocells_snoc, hnl, Nat.zero_add]
                have hsrc := Lib.hid (own_src wr ((((O.length + j : Nat) : Int)) + 1) x)
                rw [hnl]
                clear ho hsn hnl HC HLN
                push_cast at hsrc ⊢
                go_wp2_with (at_builtin; refine wpList_append_src rfl (.tmp 51) (.tmp 57) 32 rfl w.heap.size 36 i0 (.agg #[.int .i64 0, .string ⟨#[]⟩]) 2 24 Tryd.underlying32 hi hz0 hz1 hz2 rfl (by decide) _ _ _ rfl (World.ownsRow.alloc hown.out _) _ _ _ rfl hsrc.out ?_ ?_ ?_ ?_ ?_)
                · simp [Value.oneCell']
                · unfold maxLen; omega
                · omega
                · simp; omega
                intro v' w2 hown2 hg2
                have HN2 : Hid (OwnS w2 w.heap.size v' (O ++ List.replicate (j + 1) x) ∧ Below w.heap.size w w2) := by
                  refine ⟨?_, HB3.out.trans (((Below.refl _ _).alloc HB3.out.size _).grown hg2 (by simp; omega) (fun kk hkk => (hown.out.lt kk hkk).1))⟩
                  unfold OwnS
                  rw [HSN.out, show (O ++ List.replicate (j + 1) x).length = O.length + j + 1 by rw [List.length_append, List.length_replicate]; omega]
                  push_cast
                  exact hown2
                clear hown hown2 hg2 hsrc
                go_wp2
                go_roundw
                case rel => exact ⟨j + 1, by go_num, by omega, HN2.out.1, HN2.out.2⟩
                case measure => simp [intOf]; omega
              · obtain rfl : j = C := by omega
                go_wp2
                go_roundw
                case rel => exact ⟨k + 1, by go_num, by omega, by rw [HT.out]; exact HO3.out, HB3.out⟩
                case measure => simp [intOf]; omega
          · rw [if_neg hkr] at hCk
            have hccn := hCk
            go_wp2
            go_loopw [5, 49] (fun o i wr2 => ∃ j : Nat, i = .int .i64 j ∧ j ≤ C ∧ OwnS wr2 w.heap.size o (O ++ List.replicate j x) ∧ Below w.heap.size w wr2) (fun o i _ => C - (intOf i).toNat)
            case atStart => exact ⟨0, rfl, by omega, by simpa using HO.out, HB2.out⟩
            case round =>
              obtain ⟨j, rfl, hj, ho, hb⟩ := hrel
              have HB3 := Lib.hid hb
              have HO3 := Lib.hid ho
              clear hb HO HB2
              obtain ⟨ao, capo, rfl, hcap, hcapm, _⟩ := ho.read
              have hnl : (O ++ List.replicate j x).length = O.length + j := by simp
              rw [hnl] at hcap
              unfold maxLen at hcapm
              by_cases hjc : j < C
              · obtain ⟨i0, hi, hz0, hz1, hz2⟩ := info_parts infoOwner
                have hsz := HB3.out.size
                have hown : Hid (wr.ownsRow w.heap.size 36 2 (.slice ao (O.length + j) capo) (O.length + j) (ocells 0 (O ++ List.replicate j x))) := by
                  have := ho
                  unfold OwnS at this
                  rwa [hnl] at this
                have hsn : O ++ List.replicate (j + 1) x = (O ++ List.replicate j x) ++ [x] := by rw [List.replicate_succ', List.append_assoc]
                have HSN : Hid (ocells 0 (O ++ List.replicate (j + 1) x) = ocells 0 (O ++ List.replicate j x) ++ [.int .i64 (((O.length + j : Nat) : Int) + 1), .string ⟨x.toArray⟩]) := by
                  rw [Hid, hsn, ocells_snoc, hnl, Nat.zero_add]
                have hsrc := Lib.hid (own_src wr ((((O.length + j : Nat) : Int)) + 1) x)
                rw [hnl]
                clear ho hsn hnl HC HLN
                push_cast at hsrc ⊢
                go_wp2_with (at_builtin; refine wpList_append_src rfl (.tmp 51) (.tmp 57) 32 rfl w.heap.size 36 i0 (.agg #[.int .i64 0, .string ⟨#[]⟩]) 2 24 Tryd.underlying32 hi hz0 hz1 hz2 rfl (by decide) _ _ _ rfl (World.ownsRow.alloc hown.out _) _ _ _ rfl hsrc.out ?_ ?_ ?_ ?_ ?_)
                · simp [Value.oneCell']
                · unfold maxLen; omega
                · omega
                · simp; omega
                intro v' w2 hown2 hg2
                have HN2 : Hid (OwnS w2 w.heap.size v' (O ++ List.replicate (j + 1) x) ∧ Below w.heap.size w w2) := by
                  refine ⟨?_, HB3.out.trans (((Below.refl _ _).alloc HB3.out.size _).grown hg2 (by simp; omega) (fun kk hkk => (hown.out.lt kk hkk).1))⟩
                  unfold OwnS
                  rw [HSN.out, show (O ++ List.replicate (j + 1) x).length = O.length + j + 1 by rw [List.length_append, List.length_replicate]; omega]
                  push_cast
                  exact hown2
                clear hown hown2 hg2 hsrc
                go_wp2
                go_roundw
                case rel => exact ⟨j + 1, by go_num, by omega, HN2.out.1, HN2.out.2⟩
                case measure => simp [intOf]; omega
              · obtain rfl : j = C := by omega
                go_wp2
                go_roundw
                case rel => exact ⟨k + 1, by go_num, by omega, by rw [HT.out]; exact HO3.out, HB3.out⟩
                case measure => simp [intOf]; omega
        · obtain rfl : k = ms.length := by omega
          rw [List.take_length] at HO
          go_wp2
          go_ret
          exact ⟨_, rfl, by rw [HF.out]; exact HO.out, HB2.out⟩

end Go.Proofs.YtckhdnldebdeiaaDoor
