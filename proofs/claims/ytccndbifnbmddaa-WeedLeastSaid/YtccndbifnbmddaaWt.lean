/-
  The document's Old, walked.
  Conditions: the numbers are int64s.
-/
import Derived.Test.YtccndbifnbmddaaWq
import Derived.Test.YtccndbifnbmddaaWo
set_option linter.unusedVariables false
set_option linter.unusedSimpArgs false
namespace Go.Proofs.Ytccndbifnbmddaa
open Go.RowKit Fl

theorem old_bad {ends bytes : List Int} {high keep : Int} (h : ends.length ≠ bytes.length ∨ 4096 < ends.length) : oldN ends bytes high keep = 0 := by
  unfold oldN
  rw [if_neg]
  rintro ⟨h1, h2⟩
  rcases h with h | h
  · exact h h2
  · unfold okB at h1
    rw [Bool.and_eq_true, decide_eq_true_eq] at h1
    omega
theorem old_none {ends bytes : List Int} {high keep : Int} {k : Nat} (hk : k < bytes.length) (h : sizeOf? (bytes.getD k 0) = none) : oldN ends bytes high keep = 0 := by
  unfold oldN
  rw [okB_none hk h]
  simp
theorem size_no {z : Int} (h : z < 0 ∨ 1099511627776 < z) : sizeOf? z = none := by
  unfold sizeOf?
  rw [if_neg (by omega)]
theorem size_yes {z : Int} (h1 : 0 ≤ z) (h2 : z ≤ 1099511627776) : (sizeOf? z).isSome = true := by
  unfold sizeOf?
  rw [if_pos ⟨h1, h2⟩]
  rfl
set_option maxRecDepth 20000 in
set_option maxHeartbeats 6400000 in
theorem rold_any (ve vb : Value) (ends bytes : List Int) (high keep : Int) (w : World) (he : Ints w ve ends) (hb : Ints w vb bytes) (hel : ends.length ≤ maxLen) (hbl : bytes.length ≤ maxLen) (hkp : -9223372036854775808 ≤ keep ∧ keep ≤ 9223372036854775807) :
    Calls Try.prog 19 #[ve, vb, .int .i64 high, .int .i64 keep] w fun e w' => e = .returned (.int .i64 (oldN ends bytes high keep)) ∧ Below w.heap.size w w' := by
  have HE := Lib.hid he
  have HBY := Lib.hid hb
  obtain ⟨ae, cape, rfl, -⟩ := id he
  obtain ⟨ab, capb, rfl, -⟩ := id hb
  clear he hb
  unfold maxLen at hel hbl
  by_cases h1 : ends.length = bytes.length
  · by_cases h2 : ends.length ≤ 4096
    · obtain ⟨i0, hi, hz0, hz1, hz2⟩ := info_parts infoSz
      have R0 : Hid (RRow (w.alloc (.cells #[.slice none 0 0] 79)) w.heap.size w.heap.size (.slice none 0 0) ((bytes.take 0).map szB)) := RRow.new w _ (Nat.le_refl _)
      have B0 : Hid (Below w.heap.size w (w.alloc (.cells #[.slice none 0 0] 79))) := (Below.refl _ _).alloc (Nat.le_refl _) _
      generalize hn : ends.length = n at *
      have HN := Lib.hid hn
      clear hn
      subst h1
      go_enter Try.func19, Try.ntmps19
      go_wp2
      generalize w.alloc (.cells #[.slice none 0 0] 79) = w0 at *
      generalize hp : w.heap.size = p at R0 ⊢
      have HP := Lib.hid hp
      clear hp
      go_loopw [10] (fun i wr => ∃ (k : Nat) (v : Value), i = .int .i64 k ∧ k ≤ bytes.length ∧ RRow wr p p v ((bytes.take k).map szB) ∧ (∀ j, j < k → (sizeOf? (bytes.getD j 0)).isSome = true) ∧ Below w.heap.size w wr) (fun i _ => bytes.length - (intOf i).toNat)
      case atStart => exact ⟨0, _, rfl, by omega, R0.out, fun j hj => by omega, B0.out⟩
      case round =>
        obtain ⟨k, v, rfl, hk, hR, hok, hbel⟩ := hrel
        have RK := Lib.hid hR
        have OK := Lib.hid hok
        have BK := Lib.hid hbel
        clear hR hok hbel R0 B0
        by_cases hlt : k < bytes.length
        · obtain ⟨a2, cap2, hv2, hcl⟩ := HBY.out
          obtain ⟨g, off, ha, hg, p0⟩ := hcl k hlt
          injection hv2 with e1 e2 e3
          subst e1 e3
          subst ha
          clear e2 hcl
          have p1 : wr.cell? ⟨g, off + k, none⟩ = some (.int .i64 (bytes.getD k 0)) := (BK.out.cell (p := ⟨g, off + k, none⟩) hg).trans p0
          have HZ : Hid (∀ z, z = bytes.getD k 0 → z < 0 ∨ 1099511627776 < z → oldN ends bytes high keep = 0) := fun z hz h => old_none hlt (by rw [← hz]; exact size_no h)
          have HY : Hid (∀ z, z = bytes.getD k 0 → 0 ≤ z → z ≤ 1099511627776 → (∀ j, j < k + 1 → (sizeOf? (bytes.getD j 0)).isSome = true) ∧ (bytes.take (k + 1)).map szB = (bytes.take k).map szB ++ [(0, z.toNat)]) := fun z hz h1 h2 => by
            refine ⟨okB_step OK.out (by rw [← hz]; exact size_yes h1 h2), ?_⟩
            rw [List.take_succ_eq_append_getElem hlt, List.map_append, hz]
            simp [szB, List.getD, hlt]
          generalize hzz : bytes.getD k 0 = z at p1
          have HZ2 := Lib.hid (HZ.out z hzz.symm)
          have HY2 := Lib.hid (HY.out z hzz.symm)
          clear HZ HY p0 hzz
          by_cases z1 : z < 0
          · have HX : Hid (oldN ends bytes high keep = 0) := HZ2.out (.inl z1)
            go_wp2
            go_ret
            exact ⟨by rw [HX.out]; rfl, BK.out⟩
          · by_cases z2 : z ≤ 1099511627776
            · obtain ⟨hok2, htk⟩ := HY2.out (by omega) z2
              have OK2 := Lib.hid hok2
              have HTK := Lib.hid htk
              clear hok2 htk HZ2 HY2 OK
              obtain ⟨zn, rfl⟩ : ∃ zn : Nat, z = zn := ⟨z.toNat, by omega⟩
              have hzn : ((zn : Int)).toNat = zn := Int.toNat_natCast zn
              rw [hzn] at HTK
              clear hzn
              have hkl : ((bytes.take k).map szB).length = k := by rw [List.length_map, List.length_take]; omega
              obtain ⟨ao, capo, hv, hle, hform⟩ := RK.out.2.2.1.form
              subst hv
              rw [hkl] at RK hle
              have hc := RK.out.cell
              have hgp : g ≠ p := by have := HP.out; omega
              have hsl : Hid (Sl (wr.alloc (.cells #[.int .i64 0, .int .i64 zn] 81)).drew p 2 (.slice ao k capo) k (szCells ((bytes.take k).map szB))) := by
                have := RK.out.2.2.1
                rw [hkl] at this
                exact this.kept (S := fun _ => False) ((Keeps.alloc _ _ _).trans (Keeps.drew _ _)) (fun _ _ => id)
              have hsrc : Hid (SrcIs (wr.alloc (.cells #[.int .i64 0, .int .i64 zn] 81)).drew 2 (.slice (some ⟨wr.heap.size, 0, none⟩) 1 1) 1 [.int .i64 0, .int .i64 zn]) := (Cl.new wr [.int .i64 0, .int .i64 zn] 81).src 2 1 1 rfl
              have B3 : Hid (Below wr.heap.size wr (wr.alloc (.cells #[.int .i64 0, .int .i64 zn] 81)).drew) := (below_alloc_sz (Below.refl _ _) _).drew
              have hone : ∀ u ∈ [Value.int .i64 0, .int .i64 zn], u.oneCell' = true := by simp [Value.oneCell']
              have h63 : k + 1 ≤ maxLen := by unfold maxLen; omega
              have hby : (k + 1) * 16 ≤ 140737488355328 := by omega
              have hplt := RK.out.lt
              have hba : p ≤ ((wr.alloc (.cells #[.int .i64 0, .int .i64 zn] 81)).drew).heap.size := by have := B3.out.size; omega
              have HPO : Hid (∀ (w4 : World) (v' : Value), Sl w4 p 2 v' (k + 1) (szCells ((bytes.take k).map szB) ++ [.int .i64 ((0 : Nat) : Int), .int .i64 zn]) → ((wr.alloc (.cells #[.int .i64 0, .int .i64 zn] 81)).drew).grownBy w4 (Value.slice ao k capo).ownBlock → (v'.ownBlock = (Value.slice ao k capo).ownBlock ∨ ∀ j, v'.ownBlock = some j → ((wr.alloc (.cells #[.int .i64 0, .int .i64 zn] 81)).drew).heap.size ≤ j) →
                  ((∃ v9, RRow (w4.setCell ⟨p, 0, none⟩ v') p p v9 ((bytes.take (k + 1)).map szB)) ∧ Below w.heap.size w (w4.setCell ⟨p, 0, none⟩ v')) ∧ w4.cell? ⟨p, 0, none⟩ = some (.slice ao k capo) ∧ w4.frozen? ⟨p, 0, none⟩ = false) := by
                intro w4 v' h1 h2 h3
                have := rpush_post (w2 := w4) (v' := v') (a := 0) (b := zn) RK.out B3.out (by rw [hkl]; omega) (by unfold most; omega) (by unfold most; omega) (by rw [hkl]; exact h1) h2 h3
                obtain ⟨⟨_, v9, hr9, ht9, _⟩, hc9, hf9⟩ := this
                rw [← HTK.out] at hr9
                refine ⟨⟨⟨v9, hr9⟩, ?_⟩, hc9, hf9⟩
                have hlo := RK.out.2.2.1.lt
                have hpp := HP.out
                exact BK.out.trans (ht9.toBelow BK.out.size (fun j hj e => by
                  rcases e with e | e
                  · omega
                  · have := (hlo j e).1; omega))
              have hcA : (wr.alloc (.cells #[.int .i64 0, .int .i64 zn] 81)).cell? ⟨p, 0, none⟩ = some (.slice ao k capo) := ((Below.refl wr.heap.size wr).alloc (Nat.le_refl _) _).cell (p := ⟨p, 0, none⟩) hplt |>.trans hc
              have hgw : g < wr.heap.size := Nat.lt_of_lt_of_le hg BK.out.size
              have pA : (wr.alloc (.cells #[.int .i64 0, .int .i64 zn] 81)).cell? ⟨g, off + k, none⟩ = some (.int .i64 zn) := ((Below.refl wr.heap.size wr).alloc (Nat.le_refl _) _).cell (p := ⟨g, off + k, none⟩) hgw |>.trans p1
              go_wp2_with fail
              go_region_law (first
                | (refine step_append_sl _ (by rfl) _ _ _ (by rfl) p 81 i0 _ 2 16 Try.underlying77 hi hz0 hz1 hz2 rfl (by decide) (.slice ao k capo) k (szCells ((bytes.take k).map szB)) (by rfl) hsl.out (.slice (some ⟨wr.heap.size, 0, none⟩) 1 1) 1 [.int .i64 0, .int .i64 zn] (by rfl) hsrc.out hone h63 hby hba Nat.one_pos ?_; intro g4 off4 cap4 w4 hown4 hg4 hnew4; obtain ⟨hpost, hcell4, hfree4⟩ := HPO.out _ _ hown4 hg4 (hnew4.imp (fun e => e.symm) (fun e k hk => (Option.some.inj hk) ▸ e)); have HPP := Lib.hid hpost; clear hpost hown4 hg4 hnew4))
              all_goals
                obtain ⟨⟨v9, hr9⟩, hb9⟩ := HPP.out
                have R9 := Lib.hid hr9
                have B9 := Lib.hid hb9
                clear hr9 hb9 HPP
                go_wp2
                go_roundw
                case rel => exact ⟨k + 1, v9, by go_num, by omega, R9.out, OK2.out, B9.out⟩
                case measure => simp [intOf]; omega
            · have HX : Hid (oldN ends bytes high keep = 0) := HZ2.out (.inr (by omega))
              go_wp2
              go_ret
              exact ⟨by rw [HX.out]; rfl, BK.out⟩
        · obtain rfl : k = bytes.length := by omega
          have RL : Hid (RRow wr p p v (bytes.map szB)) := by
            have := RK.out
            rwa [List.take_length] at this
          have HOV : Hid (oldN ends bytes high keep = cntLe (ends.take (ov (bytes.map szB) keep)) high) := by
            rw [Hid, oldN, if_pos ⟨okB_true OK.out h2, HN.out⟩]
          have hol := ov_le (bytes.map szB) keep
          rw [List.length_map] at hol
          have HRO := Lib.hid (rover_any p p v (bytes.map szB) keep wr RL.out hkp)
          generalize ov (bytes.map szB) keep = q at *
          clear RL RK OK
          go_wp2_with fail
          refine HRO.out.mono ?_
          rintro e w5 ⟨rfl, hb5⟩
          have B5 := Lib.hid (bt BK.out hb5)
          clear hb5 HRO
          go_wp2
          go_loopw [12] (fun i wz => ∃ j : Nat, i = .int .i64 j ∧ j ≤ q ∧ Hid (cntLe (ends.take q) high = j + cntLe ((ends.take q).drop j) high) ∧ Below w.heap.size w wz) (fun i _ => q - (intOf i).toNat)
          case atStart => exact ⟨0, rfl, by omega, by simp [Hid], B5.out⟩
          case round =>
            obtain ⟨j, rfl, hj, HJ, hbel⟩ := hrel
            have BJ := Lib.hid hbel
            clear hbel B5
            have hql : (ends.take q).length = q := by rw [List.length_take, HN.out]; omega
            by_cases hjt : j < q
            · obtain ⟨a3, cap3, hv3, hcl⟩ := HE.out
              have hel3 := HN.out
              obtain ⟨g, off, ha, hg, p0⟩ := hcl j (by omega)
              injection hv3 with e1 e2 e3
              subst e1 e3
              subst ha
              clear e2 hcl
              have p1 : wr.cell? ⟨g, off + j, none⟩ = some (.int .i64 (ends.getD j 0)) := (BJ.out.cell (p := ⟨g, off + j, none⟩) hg).trans p0
              have hst := cntLe_step (ends.take q) j high (by omega)
              have hgd : (ends.take q).getD j 0 = ends.getD j 0 := by simp [List.getD, List.getElem?_take, hjt]
              rw [hgd] at hst
              have HST := Lib.hid hst
              clear hst hgd p0
              generalize ends.getD j 0 = z at *
              by_cases hz : z ≤ high
              · have HX : Hid (cntLe (ends.take q) high = (j + 1 : Nat) + cntLe ((ends.take q).drop (j + 1)) high) := by rw [Hid, HJ.out, HST.out, if_pos hz]; omega
                go_wp2
                go_roundw
                case rel => exact ⟨j + 1, by go_num, by omega, HX, BJ.out⟩
                case measure => simp [intOf]; omega
              · have HX : Hid (oldN ends bytes high keep = j) := by rw [Hid, HOV.out, HJ.out, HST.out, if_neg hz]; rfl
                go_wp2
                go_ret
                exact ⟨by rw [HX.out]; rfl, BJ.out⟩
            · obtain rfl : j = q := by omega
              have HX : Hid (oldN ends bytes high keep = j) := by rw [Hid, HOV.out, HJ.out, List.drop_of_length_le (by omega)]; rfl
              go_wp2
              go_ret
              exact ⟨by rw [HX.out]; rfl, BJ.out⟩
    · have HX : Hid (oldN ends bytes high keep = 0) := old_bad (.inr (by omega))
      generalize ends.length = n at *
      generalize bytes.length = m at *
      go_enter Try.func19, Try.ntmps19
      go_wp2
      go_ret
      exact ⟨by rw [HX.out]; rfl, Below.refl _ _⟩
  · have HX : Hid (oldN ends bytes high keep = 0) := old_bad (.inl h1)
    generalize ends.length = n at *
    generalize bytes.length = m at *
    have hne : ¬ (n : Int) = (m : Int) := by omega
    go_enter Try.func19, Try.ntmps19
    go_wp2
    go_ret
    exact ⟨by rw [HX.out]; rfl, Below.refl _ _⟩

end Go.Proofs.Ytccndbifnbmddaa
