/-
  How many segments go, walked.
  Conditions: none but the model's longest length.
-/
import Derived.Test.YtccndbifnbmddaaWf
import Derived.Test.YtccndbifnbmddaaGwe
import Derived.Test.YtccndbifnbmddaaOi
import Derived.Test.YtccndbifnbmddaaCl
import Derived.Deep.RegionWith
set_option linter.unusedVariables false
set_option linter.unusedSimpArgs false
namespace Go.Proofs.Ytccndbifnbmddaa
open Go.RowKit Fl

/-- How many of the first ends are not above the watermark. -/
def cntLe : List Int → Int → Nat
  | [], _ => 0
  | z :: r, h => if z ≤ h then cntLe r h + 1 else 0
theorem cntLe_le (l : List Int) (h : Int) : cntLe l h ≤ l.length := by
  induction l with
  | nil => exact Nat.le_refl _
  | cons z r ih =>
    rw [cntLe]
    split
    · simp only [List.length_cons]; omega
    · exact Nat.zero_le _
theorem cntLe_step (l : List Int) (k : Nat) (h : Int) (hk : k < l.length) : cntLe (l.drop k) h = if l.getD k 0 ≤ h then cntLe (l.drop (k + 1)) h + 1 else 0 := by
  rw [List.drop_eq_getElem_cons hk, cntLe, show l.getD k 0 = l[k] by simp [List.getD, hk]]
def idxHigh (l : List Int) (h : Int) : Int := if cntLe l h = l.length then -1 else (cntLe l h : Int)
set_option maxHeartbeats 800000 in
theorem old1_any (z high : Int) (h0 : Nat) (w : World) (hc : w.cell? ⟨h0, 0, none⟩ = some (.int .i64 high)) :
    Calls Try.prog 40 #[.int .i64 z, .pointer (some ⟨h0, 0, none⟩)] w fun e w' => e = .returned (.bool (decide (high < z))) ∧ w = w' := by
  go_enter Try.func40, Try.ntmps40
  go_wp2
  go_ret
  exact ⟨rfl, rfl⟩
set_option maxHeartbeats 800000 in
theorem idxHigh_any (l : List Int) (hl : l.length ≤ maxLen) (rv : Value) (high : Int) (h0 : Nat) (w : World) (h : Ints w rv l) (hc : w.cell? ⟨h0, 0, none⟩ = some (.int .i64 high)) :
    Calls Try.prog 39 #[rv, .func (.func 40) #[] #[.pointer (some ⟨h0, 0, none⟩)]] w fun e w' => e = .returned (.int .i64 (idxHigh l high)) ∧ w = w' := by
  have HZ := Lib.hid h
  have HC := Lib.hid hc
  obtain ⟨a, cap, rfl, -⟩ := id h
  unfold maxLen at hl
  clear h hc
  go_enter Try.func39, Try.ntmps39
  go_wp2
  go_loopw [8] (fun i wr => ∃ k : Nat, i = .int .i64 k ∧ k ≤ l.length ∧ cntLe l high = k + cntLe (l.drop k) high ∧ w = wr) (fun i _ => l.length - (intOf i).toNat)
  case atStart => exact ⟨0, rfl, by omega, by simp, rfl⟩
  case round =>
    obtain ⟨k, rfl, hk, hr, rfl⟩ := hrel
    have HR2 := Lib.hid hr
    clear hr
    by_cases hlt : k < l.length
    · have HS := Lib.hid (cntLe_step l k high hlt)
      obtain ⟨a2, cap2, he, hcl⟩ := HZ.out
      obtain ⟨g, off, ha, hg, p0⟩ := hcl k hlt
      injection he with he1 he2 he3
      subst he1 he3
      subst ha
      clear he2 hcl
      generalize l.getD k 0 = z at *
      by_cases hz : z ≤ high
      · have HX : Hid (cntLe l high = (k + 1 : Nat) + cntLe (l.drop (k + 1)) high) := by rw [Hid, HR2.out, HS.out, if_pos hz]; omega
        have hd : decide (high < z) = false := by rw [decide_eq_false_iff_not]; omega
        clear HS
        go_wp2_with fail
        refine (old1_any z high h0 w HC.out).mono ?_
        rintro e w5 ⟨rfl, rfl⟩
        rw [hd]
        clear hd hz
        go_wp2
        go_roundw
        case rel => exact ⟨k + 1, by go_num, by omega, HX.out, by first | rfl | trivial⟩
        case measure => simp [intOf]; omega
      · have HX : Hid (cntLe l high = k) := by rw [Hid, HR2.out, HS.out, if_neg hz]; omega
        have hd : decide (high < z) = true := by rw [decide_eq_true_iff]; omega
        clear HS
        go_wp2_with fail
        refine (old1_any z high h0 w HC.out).mono ?_
        rintro e w5 ⟨rfl, rfl⟩
        rw [hd]
        clear hd hz
        go_wp2
        go_ret
        exact ⟨by rw [idxHigh, HX.out, if_neg (by omega)]; rfl, rfl⟩
    · obtain rfl : k = l.length := by omega
      have HX : Hid (cntLe l high = l.length) := by rw [Hid, HR2.out, List.drop_length]; rfl
      go_wp2
      go_ret
      exact ⟨by rw [idxHigh, if_pos HX.out]; rfl, rfl⟩
def szB (z : Int) : Nat × Nat := (0, z.toNat)
/-- Whether all are sizes, and no more than a row takes. -/
def okB (bytes : List Int) : Bool := decide (bytes.length ≤ 4096) && bytes.all fun z => (sizeOf? z).isSome
def oldN (ends bytes : List Int) (high keep : Int) : Nat :=
  if okB bytes = true ∧ ends.length = bytes.length then cntLe (ends.take (ov (bytes.map szB) keep)) high else 0
theorem ov_le (ns : List (Nat × Nat)) (m : Int) : ov ns m ≤ ns.length := by
  induction ns with
  | nil => simp [ov]
  | cons q r ih =>
    cases r with
    | nil => simp [ov]
    | cons q2 r2 =>
      rw [ov]
      split
      · simp only [List.length_cons] at ih ⊢; omega
      · exact Nat.zero_le _
theorem okB_step {bytes : List Int} {k : Nat} (h1 : ∀ i, i < k → (sizeOf? (bytes.getD i 0)).isSome = true) (h2 : (sizeOf? (bytes.getD k 0)).isSome = true) : ∀ i, i < k + 1 → (sizeOf? (bytes.getD i 0)).isSome = true := by
  intro i hi
  by_cases e : i = k
  · rw [e]; exact h2
  · exact h1 i (by omega)
theorem okB_true {bytes : List Int} (h1 : ∀ i, i < bytes.length → (sizeOf? (bytes.getD i 0)).isSome = true) (h2 : bytes.length ≤ 4096) : okB bytes = true := by
  unfold okB
  rw [decide_eq_true h2, Bool.true_and, List.all_eq_true]
  intro z hz
  obtain ⟨i, hi, rfl⟩ := List.getElem_of_mem hz
  have := h1 i hi
  rwa [show bytes.getD i 0 = bytes[i] by simp [List.getD, hi]] at this
theorem okB_none {bytes : List Int} {k : Nat} (hk : k < bytes.length) (h : sizeOf? (bytes.getD k 0) = none) : okB bytes = false := by
  cases hb : okB bytes with
  | false => rfl
  | true =>
    unfold okB at hb
    rw [Bool.and_eq_true, List.all_eq_true] at hb
    have := hb.2 bytes[k] (List.getElem_mem hk)
    rw [show bytes.getD k 0 = bytes[k] by simp [List.getD, hk]] at h
    rw [h] at this
    cases this
theorem okB_long {bytes : List Int} (h : 4096 < bytes.length) : okB bytes = false := by
  unfold okB
  rw [decide_eq_false (by omega)]
  rfl
set_option maxRecDepth 20000 in
set_option maxHeartbeats 3200000 in
theorem old_any (ve vb : Value) (ends bytes : List Int) (high keep : Int) (w : World) (he : Ints w ve ends) (hb : Ints w vb bytes) (hel : ends.length ≤ maxLen) (hbl : bytes.length ≤ maxLen) (hcap : ∀ a n c, ve = .slice a n c → n ≤ c) (hr : ∀ z ∈ bytes, -9223372036854775808 ≤ z ∧ z ≤ 9223372036854775807) :
    Calls Try.prog 18 #[ve, vb, .int .i64 high, .int .i64 keep] w fun e w' => e = .returned (.int .i64 (oldN ends bytes high keep)) ∧ Below w.heap.size w w' := by
  have HE := Lib.hid he
  have HB := Lib.hid hb
  have HR := Lib.hid hr
  obtain ⟨ae, cape, rfl, -⟩ := id he
  obtain ⟨ab, capb, rfl, -⟩ := id hb
  have hc := hcap _ _ _ rfl
  unfold maxLen at hel hbl
  have B0 : Hid (Below w.heap.size w (w.alloc (.cells #[.int .i64 high] 3))) := (Below.refl _ _).alloc (Nat.le_refl _) _
  have C0 : Hid (Cl (w.alloc (.cells #[.int .i64 high] 3)) w.heap.size [.int .i64 high] 3) := Cl.new w [.int .i64 high] 3
  clear he hb hr hcap
  go_enter Try.func18, Try.ntmps18
  go_wp2_with fail
  generalize w.alloc (.cells #[.int .i64 high] 3) = w0 at *
  generalize w.heap.size = g0 at C0 ⊢
  refine (new_any _).mono ?_
  rintro e w1 ⟨rfl, rfl⟩
  have hnew : Hid (GRow (w0.alloc (.cells #[.slice none 0 0] 89)) w0.heap.size w0.heap.size (.slice none 0 0) []) := GRow.new w0 _ (Nat.le_refl _)
  go_wp2
  have hp0 : Fl.part 0 = some 0 := by
    have := part_fl (n := 0) (Nat.zero_le _)
    rwa [fl_zero] at this
  have HP0 := Lib.hid hp0
  clear hp0
  go_loopw [17] (fun i wr => ∃ (k : Nat) (vr : Value), i = .int .i64 k ∧ k ≤ bytes.length ∧ k ≤ 4096 ∧ (∀ i, i < k → (sizeOf? (bytes.getD i 0)).isSome = true) ∧ GRow wr w0.heap.size w0.heap.size vr ((bytes.take k).map szB) ∧ Below w0.heap.size w0 wr) (fun i _ => bytes.length - (intOf i).toNat)
  case atStart => exact ⟨0, _, rfl, by omega, by omega, fun i hi => absurd hi (Nat.not_lt_zero _), hnew.out, (Below.refl _ _).alloc (Nat.le_refl _) _⟩
  case round =>
    obtain ⟨k, vr, rfl, hk, hk2, hall, hg, hbel⟩ := hrel
    have HG := Lib.hid hg
    have HBL := Lib.hid hbel
    have HALL := Lib.hid hall
    have BB := Lib.hid (bt B0.out hbel)
    clear hg hbel hall hnew
    by_cases hlt : k < bytes.length
    · obtain ⟨a2, cap2, he, hcl⟩ := HB.out.kept BB.out
      obtain ⟨g, off, ha, hgl, p0⟩ := hcl k hlt
      injection he with he1 he2 he3
      subst he1 he3
      subst ha
      clear he2 hcl
      have hz := HR.out (bytes.getD k 0) (by rw [show bytes.getD k 0 = bytes[k] by simp [List.getD, hlt]]; exact List.getElem_mem hlt)
      have HPZ := Lib.hid (part_int hz.1 hz.2)
      have HNX : Hid ((bytes.take (k + 1)).map szB = (bytes.take k).map szB ++ [szB (bytes.getD k 0)]) := by
        rw [Hid, List.take_succ_eq_append_getElem hlt, List.map_append, show bytes.getD k 0 = bytes[k] by simp [List.getD, hlt]]
        rfl
      have hns : ((bytes.take k).map szB).length = k := by rw [List.length_map, List.length_take]; omega
      have HNS := Lib.hid hns
      clear hns
      cases hsz : sizeOf? (bytes.getD k 0) with
      | none =>
        have HOK := Lib.hid (okB_none hlt hsz)
        have HNO : Hid (Fl.part (floatOfInt .f64 (bytes.getD k 0)) = none) := HPZ.out.trans hsz
        clear hsz hz HNX
        generalize bytes.getD k 0 = z at *
        go_wp2_with fail
        refine (push_no w0.heap.size w0.heap.size vr _ 0 (floatOfInt .f64 z) wr HG.out (.inr (.inr HNO.out))).mono ?_
        rintro e w5 ⟨rfl, rfl⟩
        go_wp2
        go_ret
        exact ⟨by rw [oldN, if_neg (by rw [HOK.out]; simp)]; rfl, BB.out⟩
      | some n =>
        have hn : szB (bytes.getD k 0) = (0, n) := by
          unfold sizeOf? at hsz
          split at hsz
          · injection hsz with hsz
            rw [szB, hsz]
          · cases hsz
        have HPN : Hid (Fl.part (floatOfInt .f64 (bytes.getD k 0)) = some n) := HPZ.out.trans hsz
        have HST := Lib.hid (okB_step HALL.out (by rw [hsz]; rfl))
        rw [hn] at HNX
        clear hsz hz hn
        generalize bytes.getD k 0 = z at *
        by_cases h4 : k < 4096
        · go_wp2_with fail
          refine (push_any w0.heap.size w0.heap.size vr _ 0 (floatOfInt .f64 z) 0 n wr HG.out (by rw [HNS.out]; exact h4) HP0.out HPN.out).mono ?_
          rintro e w5 ⟨rfl, v5, hg5, ht5⟩
          have HG5 : Hid (GRow w5 w0.heap.size w0.heap.size v5 ((bytes.take (k + 1)).map szB)) := by rw [HNX.out]; exact hg5
          have HB5 := Lib.hid (HBL.out.trans (ht5.below HG.out))
          clear hg5 ht5
          go_wp2
          go_roundw
          case rel => exact ⟨k + 1, v5, by go_num, by omega, by omega, HST.out, HG5.out, HB5.out⟩
          case measure => simp [intOf]; omega
        · have HOK := Lib.hid (okB_long (bytes := bytes) (by omega))
          go_wp2_with fail
          refine (push_no w0.heap.size w0.heap.size vr _ 0 (floatOfInt .f64 z) wr HG.out (.inl (by rw [HNS.out]; omega))).mono ?_
          rintro e w5 ⟨rfl, rfl⟩
          go_wp2
          go_ret
          exact ⟨by rw [oldN, if_neg (by rw [HOK.out]; simp)]; rfl, BB.out⟩
    · obtain rfl : k = bytes.length := by omega
      have HOK := Lib.hid (okB_true HALL.out hk2)
      have HG2 : Hid (GRow wr w0.heap.size w0.heap.size vr (bytes.map szB)) := by
        have := HG.out
        rw [List.take_length] at this
        exact this
      by_cases hel2 : ends.length = bytes.length
      · have HEL := Lib.hid hel2
        have hov : ov (bytes.map szB) keep ≤ ends.length := by
          have := ov_le (bytes.map szB) keep
          rw [List.length_map] at this
          omega
        have h1 : (ends.length : Int) ≤ (bytes.length : Int) := by omega
        have h2 : (bytes.length : Int) ≤ (ends.length : Int) := by omega
        have hOLD : Hid (oldN ends bytes high keep = cntLe (ends.take (ov (bytes.map szB) keep)) high) := by
          rw [Hid, oldN, if_pos ⟨HOK.out, HEL.out⟩]
        clear hel2
        go_wp2_with fail
        refine (over_any w0.heap.size w0.heap.size vr (bytes.map szB) keep wr HG2.out).mono ?_
        rintro e w5 ⟨rfl, d, rfl⟩
        generalize ov (bytes.map szB) keep = n at *
        have hnc : (n : Int) ≤ (cape : Int) := by omega
        have htl : (ends.take n).length = n := by rw [List.length_take]; omega
        have HI : Hid (Ints (wr.drewN d) (.slice ae n cape) (ends.take n)) := by
          obtain ⟨a2, cap2, he, hcl⟩ := HE.out.kept BB.out
          injection he with he1 he2 he3
          subst he1
          refine ⟨ae, cape, by rw [htl], fun i hi => ?_⟩
          rw [htl] at hi
          obtain ⟨g, off, ha, hg, h1⟩ := hcl i (by omega)
          refine ⟨g, off, ha, hg, ?_⟩
          have e1 : (ends.take n).getD i 0 = ends.getD i 0 := by
            simp [List.getD, List.getElem?_take, hi]
          rw [e1]; exact h1
        have HC : Hid ((wr.drewN d).cell? ⟨g0, 0, none⟩ = some (.int .i64 high)) := (C0.out.below HBL.out).cell 0
        have HTL := Lib.hid htl
        have hcl := cntLe_le (ends.take n) high
        rw [htl] at hcl
        clear htl
        have hix : idxHigh (ends.take n) high = if cntLe (ends.take n) high = n then -1 else (cntLe (ends.take n) high : Int) := by rw [idxHigh, HTL.out]
        have HIX := Lib.hid hix
        clear hix
        go_wp2_with fail
        refine (idxHigh_any (ends.take n) (by rw [HTL.out]; unfold maxLen; omega) (.slice ae n cape) high g0 _ HI.out HC.out).mono ?_
        rintro e w6 ⟨rfl, rfl⟩
        rw [HIX.out]
        generalize hc9 : cntLe (ends.take n) high = c at *
        have HC9 := Lib.hid hc9
        clear hc9
        by_cases hcn : c = n
        · rw [if_pos hcn]
          have HCN := Lib.hid hcn
          clear hcn
          go_wp2
          go_ret
          exact ⟨by rw [hOLD.out, HCN.out]; rfl, (below_drewN BB.out d)⟩
        · rw [if_neg hcn]
          clear hcn
          go_wp2
          go_ret
          exact ⟨by rw [hOLD.out]; rfl, (below_drewN BB.out d)⟩
      · go_wp2
        go_ret
        exact ⟨by rw [oldN, if_neg (fun hh => hel2 hh.2)]; rfl, BB.out⟩

end Go.Proofs.Ytccndbifnbmddaa
