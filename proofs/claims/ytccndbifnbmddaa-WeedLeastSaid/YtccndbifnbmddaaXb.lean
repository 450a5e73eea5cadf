/-
  WeedLeast: the walk.
  Conditions: none but the model's longest length.
-/
import Derived.Test.YtccndbifnbmddaaXa
set_option linter.unusedVariables false
set_option linter.unusedSimpArgs false
namespace Go.Proofs.Ytccndbifnbmddaa
open Go.RowKit Fl

theorem intInfo : (Try.prog.info? 3).map (fun i => (i.zero, i.size, i.bytes)) = some (some (.int .i64 0), 1, 8) := by kernel_rfl
theorem Sl.ints {w : World} {B : Nat} {v : Value} {zs : List Int} {n : Nat} (h : Sl w B 1 v n (zs.map (Value.int .i64))) (hn : zs.length = n) : Ints w v zs ∧ ∀ a m c, v = .slice a m c → m ≤ c := by
  subst hn
  rcases h.2 with ⟨rfl, h0⟩ | ⟨g, off, cap, rfl, hB, hg, hc, hm, hr, ht⟩
  · exact ⟨⟨none, 0, by rw [h0], fun i hi => by omega⟩, fun a m c e => by cases e; omega⟩
  · refine ⟨⟨_, cap, rfl, fun i hi => ⟨g, off, rfl, hg, hr i _ ?_⟩⟩, fun a m c e => by cases e; omega⟩
    simp [List.getD, hi]
theorem Sl.at {w : World} {B : Nat} {v : Value} {n : Nat} {xs : List Value} {size : Nat} (h : Sl w B size v n xs) (hn : 0 < n) : ∃ g off cap, v = .slice (some ⟨g, off, none⟩) n cap ∧ g < w.heap.size ∧ ∀ j u, xs[j]? = some u → w.cell? ⟨g, off + j, none⟩ = some u := by
  rcases h.2 with ⟨rfl, h0⟩ | ⟨g, off, cap, rfl, hB, hg, hc, hm, hr, ht⟩
  · omega
  · exact ⟨g, off, cap, rfl, hg, hr⟩
theorem bytI_snoc (zs : List Int) (k : Nat) (z : Int) (h : zs[k]? = some z) : bytI (zs.take (k + 1)) = bytI (zs.take k) ++ [(bOf z : Int)] ∧ (bytL (zs.take (k + 1))).sum = (bytL (zs.take k)).sum + bOf z := by
  obtain ⟨hk, rfl⟩ := List.getElem?_eq_some_iff.1 h
  rw [List.take_succ_eq_append_getElem hk]
  exact ⟨by rw [bytI, bytI, List.map_append]; rfl, by rw [bytL, bytL, List.map_append, List.sum_append]; simp⟩
/-- Ahead of round k: both rows, the sum. -/
structure LsW (w0 w : World) (B : Nat) (ve vb : Value) (zs : List Int) (k : Nat) : Prop where
  e : Sl w B 1 ve k ((endsL k).map (Value.int .i64))
  b : Sl w B 1 vb k ((bytI (zs.take k)).map (Value.int .i64))
  ap : ∀ j, ve.ownBlock = some j → vb.ownBlock ≠ some j
  bel : Below B w0 w
set_option maxRecDepth 20000 in
set_option maxHeartbeats 6400000 in
theorem weedLeast_walk (v : Value) (zs : List Int) (high keep : Int) (w : World) (hz : Ints w v zs) (hl : zs.length ≤ maxLen) :
    Calls Try.prog 7 #[v, .int .i64 high, .int .i64 keep] w fun e w' => e = .returned (.bool true) ∧ Below w.heap.size w w' := by
  have HZ := Lib.hid hz
  obtain ⟨az, capz, rfl, -⟩ := id hz
  clear hz
  unfold maxLen at hl
  obtain ⟨i0, hi, hz0, hz1, hz2⟩ := info_parts intInfo
  go_enter Try.func7, Try.ntmps7
  go_wp2_with fail
  refine (awake_any w).mono ?_
  rintro e w1 ⟨rfl, hb1⟩
  have B1 := Lib.hid hb1
  clear hb1
  have L2 : Hid (LsW w ((w1.alloc (.cells #[] 3)).alloc (.cells #[] 3)) w.heap.size (.slice (some ⟨w1.heap.size, 0, none⟩) 0 0) (.slice (some ⟨w1.heap.size + 1, 0, none⟩) 0 0) zs 0) := by
    have hsz := B1.out.size
    have h1 : (w1.alloc (.cells #[] 3)).ownsRow w.heap.size 3 1 (.slice (some ⟨w1.heap.size, 0, none⟩) 0 0) 0 [] := World.ownsRow_made w1 #[] 0 hsz (by unfold maxLen; omega) rfl
    have h2 : ((w1.alloc (.cells #[] 3)).alloc (.cells #[] 3)).ownsRow w.heap.size 3 1 (.slice (some ⟨(w1.alloc (.cells #[] 3)).heap.size, 0, none⟩) 0 0) 0 [] := World.ownsRow_made _ #[] 0 (by simp; omega) (by unfold maxLen; omega) rfl
    rw [show (w1.alloc (.cells #[] 3)).heap.size = w1.heap.size + 1 from by simp] at h2
    refine ⟨(Sl.ofOwn h1).kept (Keeps.alloc (fun _ => False) _ _) (fun _ _ => id), Sl.ofOwn h2, fun j hj e => ?_, (B1.out.alloc hsz _).alloc (by simp; omega) _⟩
    simp [Value.ownBlock] at hj e
    omega
  go_wp2
  generalize (w1.alloc (.cells #[] 3)).alloc (.cells #[] 3) = w2 at *
  generalize w1.heap.size + 1 = g1 at *
  generalize w1.heap.size = g2 at *
  go_loopw [7, 8, 9, 10] (fun te tb ts ti wr => ∃ k : Nat, ti = .int .i64 k ∧ k ≤ zs.length ∧ k ≤ 60 ∧ ts = .int .i64 ((bytL (zs.take k)).sum : Nat) ∧ LsW w wr w.heap.size te tb zs k) (fun _ _ _ ti _ => zs.length - (intOf ti).toNat)
  case atStart => exact ⟨0, rfl, by omega, by omega, by simp [bytL], L2.out⟩
  case round =>
    obtain ⟨k, rfl, hk, hk6, rfl, hL⟩ := hrel
    have LK := Lib.hid hL
    clear hL L2
    have HSUM := Lib.hid (byt_sum_small (zs.take k) (by rw [List.length_take]; omega))
    obtain ⟨ae, cape, rfl, hcle, hae⟩ := LK.out.e.form
    obtain ⟨ab, capb, rfl, hclb, hab⟩ := LK.out.b.form
    by_cases hgo : k < zs.length ∧ k < 60
    · obtain ⟨hlt, h60⟩ := hgo
      obtain ⟨a3, cap3, hv3, hcl⟩ := HZ.out
      obtain ⟨g, off, ha, hg, p0⟩ := hcl k hlt
      injection hv3 with e1 e2 e3
      subst e1 e3
      subst ha
      clear e2 hcl
      have hzk : zs[k]? = some (zs.getD k 0) := by simp [List.getD, hlt]
      have p1 : wr.cell? ⟨g, off + k, none⟩ = some (.int .i64 (zs.getD k 0)) := (LK.out.bel.cell (p := ⟨g, off + k, none⟩) hg).trans p0
      have HSN := Lib.hid (bytI_snoc zs k _ hzk)
      generalize zs.getD k 0 = z at *
      clear p0 hzk
      have hw1 : (IntKind.u64.wrap z).tmod 1048576 = (bOf z : Int) := bOf_tmod z
      have hw2 : wrap64 (bOf z : Int) = (bOf z : Int) := wrapN _ (by have := bOf_lt z; omega)
      have HS1 : Hid (Sl (wr.alloc (.cells #[.int .i64 (10 * ((k : Int) + 1))] 3)) w.heap.size 1 (.slice ae k cape) k ((endsL k).map (Value.int .i64))) := LK.out.e.kept (Keeps.alloc (fun _ => False) _ _) (fun _ _ => id)
      have HSB : Hid (Sl (wr.alloc (.cells #[.int .i64 (10 * ((k : Int) + 1))] 3)) w.heap.size 1 (.slice ab k capb) k ((bytI (zs.take k)).map (Value.int .i64))) := LK.out.b.kept (Keeps.alloc (fun _ => False) _ _) (fun _ _ => id)
      have hsrc1 : Hid (SrcIs (wr.alloc (.cells #[.int .i64 (10 * ((k : Int) + 1))] 3)) 1 (.slice (some ⟨wr.heap.size, 0, none⟩) 1 1) 1 [.int .i64 (10 * ((k : Int) + 1))]) := (Cl.new wr [.int .i64 (10 * ((k : Int) + 1))] 3).src 1 1 1 rfl
      have hBW : w.heap.size ≤ wr.heap.size := LK.out.bel.size
      go_wp2_with (at_builtin; refine wpList_append_sl rfl (.tmp 28) (.tmp 32) 33 rfl 3 i0 (.int .i64 0) 1 8 Try.underlying33 hi hz0 hz1 hz2 rfl (by decide) w.heap.size _ _ _ rfl HS1.out _ _ _ rfl hsrc1.out ?_ ?_ ?_ ?_ ?_)
      · simp [Value.oneCell']
      · unfold maxLen; omega
      · omega
      · simp; omega
      intro ve' w4 hown hgr hnew
      have HE4 : Hid (Sl w4 w.heap.size 1 ve' (k + 1) ((endsL (k + 1)).map (Value.int .i64))) := by rw [endsL_succ, List.map_append]; exact hown
      have K4 : Keeps (fun j => (Value.slice ae k cape).ownBlock = some j) wr w4 := (Keeps.alloc _ _ _).trans (Keeps.grown hgr (fun j hj => hj))
      have hlo := LK.out.e.lt
      have hlob := LK.out.b.lt
      have B4 : Hid (Below w.heap.size w w4) := LK.out.bel.trans (K4.toBelow hBW (fun j hj e => by have := (hlo j e).1; omega))
      have HB4 : Hid (Sl w4 w.heap.size 1 (.slice ab k capb) k ((bytI (zs.take k)).map (Value.int .i64))) := LK.out.b.kept K4 (fun j hj e => LK.out.ap j e hj)
      have HAP : Hid (∀ j, ve'.ownBlock = some j → (Value.slice ab k capb).ownBlock ≠ some j) := fun j hj e => by
        rcases hnew with hn | hn
        · exact LK.out.ap j (hn ▸ hj) e
        · have h1 := hn j hj
          have h2 := (hlob j e).2
          have h3 : (wr.alloc (.cells #[.int .i64 (10 * ((k : Int) + 1))] 3)).heap.size = wr.heap.size + 1 := by simp
          omega
      have p4 : w4.cell? ⟨g, off + k, none⟩ = some (.int .i64 z) := (K4.cell (a := ⟨g, off + k, none⟩) (Nat.lt_of_lt_of_le hg hBW) (fun e => by have := (hlo g e).1; omega)).trans p1
      clear hown hgr hnew K4 hlo hlob HS1 HSB hsrc1 p1
      have hbw4 : w.heap.size ≤ w4.heap.size := B4.out.size
      have HS2 : Hid (Sl (w4.alloc (.cells #[.int .i64 (bOf z)] 3)) w.heap.size 1 (.slice ab k capb) k ((bytI (zs.take k)).map (Value.int .i64))) := HB4.out.kept (Keeps.alloc (fun _ => False) _ _) (fun _ _ => id)
      have hsrc2 : Hid (SrcIs (w4.alloc (.cells #[.int .i64 (bOf z)] 3)) 1 (.slice (some ⟨w4.heap.size, 0, none⟩) 1 1) 1 [.int .i64 (bOf z)]) := (Cl.new w4 [.int .i64 (bOf z)] 3).src 1 1 1 rfl
      go_wp2_with (at_builtin; refine wpList_append_sl rfl (.tmp 34) (.tmp 42) 33 rfl 3 i0 (.int .i64 0) 1 8 Try.underlying33 hi hz0 hz1 hz2 rfl (by decide) w.heap.size _ _ _ rfl HS2.out _ _ _ rfl hsrc2.out ?_ ?_ ?_ ?_ ?_)
      · simp [Value.oneCell']
      · unfold maxLen; omega
      · omega
      · simp; omega
      intro vb' w5 hown hgr hnew
      have HB5 : Hid (Sl w5 w.heap.size 1 vb' (k + 1) ((bytI (zs.take (k + 1))).map (Value.int .i64))) := by rw [HSN.out.1, List.map_append]; exact hown
      have K5 : Keeps (fun j => (Value.slice ab k capb).ownBlock = some j) w4 w5 := (Keeps.alloc _ _ _).trans (Keeps.grown hgr (fun j hj => hj))
      have hlo := HE4.out.lt
      have hlob := HB4.out.lt
      have B5 : Hid (Below w.heap.size w w5) := B4.out.trans (K5.toBelow hbw4 (fun j hj e => by have := (hlob j e).1; omega))
      have HE5 : Hid (Sl w5 w.heap.size 1 ve' (k + 1) ((endsL (k + 1)).map (Value.int .i64))) := HE4.out.kept K5 (fun j hj e => HAP.out j hj e)
      have HAP5 : Hid (∀ j, ve'.ownBlock = some j → vb'.ownBlock ≠ some j) := fun j hj e => by
        rcases hnew with hn | hn
        · exact HAP.out j hj (hn ▸ e)
        · have h1 := hn j e
          have h2 := (hlo j hj).2
          have h3 : (w4.alloc (.cells #[.int .i64 (bOf z)] 3)).heap.size = w4.heap.size + 1 := by simp
          omega
      clear hown hgr hnew K5 hlo hlob HS2 hsrc2 p4 HE4 HB4 B4 HAP LK
      obtain ⟨g5, off5, cap5, rfl, hg5, hc5⟩ := HB5.out.at (by omega)
      have q5 : w5.cell? ⟨g5, off5 + k, none⟩ = some (.int .i64 (bOf z)) := hc5 k _ (by
        have hil : ((bytI (zs.take k)).map (Value.int .i64)).length = k := by simp [bytI]; omega
        rw [HSN.out.1, List.map_append, List.getElem?_append_right (by omega), hil, Nat.sub_self]
        rfl)
      have HSS : Hid (((bytL (zs.take k)).sum : Int) + (bOf z : Int) = ((bytL (zs.take (k + 1))).sum : Nat)) := by rw [Hid, HSN.out.2]; omega
      have L5 : Hid (LsW w w5 w.heap.size ve' (.slice (some ⟨g5, off5, none⟩) (k + 1) cap5) zs (k + 1)) := ⟨HE5.out, HB5.out, HAP5.out, B5.out⟩
      have HS2 := Lib.hid (byt_sum_small (zs.take (k + 1)) (by rw [List.length_take]; omega))
      clear hc5 HE5 HB5 HAP5 HSN
      go_wp2
      go_roundw
      case rel => exact ⟨k + 1, by go_num, by omega, by omega, by rw [HSS.out, wrapN _ HS2.out], L5.out⟩
      case measure => simp [intOf]; omega
    · have HLE := Lib.hid (least_old (zs.take k) (by rw [List.length_take]; omega) high keep)
      rw [List.length_take, Nat.min_eq_left hk] at HLE
      have hbl : (bytL (zs.take k)).length = k := by simp [bytL]; omega
      have hil : (bytI (zs.take k)).length = k := by simp [bytI]; omega
      have HOL := Lib.hid (old_any (.slice ae k cape) (.slice ab k capb) (endsL k) (bytI (zs.take k)) high keep wr (LK.out.e.ints (endsL_len k)).1 (LK.out.b.ints hil).1 (by rw [endsL_len]; unfold maxLen; omega) (by rw [hil]; unfold maxLen; omega) (LK.out.e.ints (endsL_len k)).2 (by
        intro z hz
        simp only [bytI, List.mem_map] at hz
        obtain ⟨y, _, rfl⟩ := hz
        have := bOf_lt y
        omega))
      have HBI : Hid (∀ j, j < k → (bytI (zs.take k)).getD j 0 = ((bytL (zs.take k)).getD j 0 : Int)) := fun j hj => bytI_get (by simp; omega)
      generalize oldN (endsL k) (bytI (zs.take k)) high keep = n at *
      generalize hBL : bytL (zs.take k) = bl at *
      clear hBL
      have hgo2 : ¬ k < zs.length ∨ (k < zs.length ∧ ¬ k < 60) := by
        by_cases h : k < zs.length
        · right; exact ⟨h, fun h2 => hgo ⟨h, h2⟩⟩
        · exact .inl h
      clear hgo
      rcases hgo2 with hno | ⟨hlt, hno⟩
      all_goals
        go_wp2_with fail
        refine HOL.out.mono ?_
        rintro e w5 ⟨rfl, hb5⟩
        have B5 := Lib.hid (LK.out.bel.trans (hb5.mono LK.out.bel.size))
        have E5 : Hid (Sl w5 w.heap.size 1 (.slice ae k cape) k ((endsL k).map (Value.int .i64))) := LK.out.e.kept (Keeps.below (fun _ => False) hb5) (fun _ _ => id)
        have Y5 : Hid (Sl w5 w.heap.size 1 (.slice ab k capb) k ((bytI (zs.take k)).map (Value.int .i64))) := LK.out.b.kept (Keeps.below (fun _ => False) hb5) (fun _ _ => id)
        clear hb5 LK HOL
        by_cases hk0 : k = 0
        · have hn0 : n = 0 := HLE.out.zero (List.eq_nil_of_length_eq_zero (by omega))
          subst hn0
          subst hk0
          go_wp2
          go_ret
          exact ⟨rfl, B5.out⟩
        · have hne : bl ≠ [] := fun e => by subst e; simp at hbl; omega
          have hnk := HLE.out.lt hne
          rw [hbl] at hnk
          obtain ⟨g5, off5, cap5, he5, hg5, hc5⟩ := E5.out.at (by omega)
          injection he5 with e1 e2 e3
          subst e1 e3
          obtain ⟨g6, off6, cap6, he6, hg6, hc6⟩ := Y5.out.at (by omega)
          injection he6 with e4 e5 e6
          subst e4 e6
          have HC5 : Hid (∀ j, j < k → w5.cell? ⟨g5, off5 + j, none⟩ = some (.int .i64 (10 * ((j : Int) + 1)))) := fun j hj => hc5 j _ (by simp [endsL, hj])
          have HC6 : Hid (∀ j, j < k → w5.cell? ⟨g6, off6 + j, none⟩ = some (.int .i64 (bl.getD j 0 : Nat))) := fun j hj => hc6 j _ (by
            rw [← HBI.out j hj, List.getElem?_map, List.getElem?_eq_getElem (by rw [hil]; exact hj)]
            simp [List.getD, hil, hj])
          clear hc5 hc6 e2 e5 E5 Y5 HBI hne
          go_wp2
          go_loopw [12, 13] (fun tl tj wz => ∃ j : Nat, tj = .int .i64 j ∧ j ≤ n ∧ tl = .int .i64 ((bl.drop j).sum : Nat) ∧ wz = w5) (fun _ tj _ => n - (intOf tj).toNat)
          case atStart => exact ⟨0, rfl, by omega, by rw [List.drop_zero], rfl⟩
          case round =>
            obtain ⟨j, rfl, hj, rfl, rfl⟩ := hrel
            have HSJ : Hid ((bl.drop j).sum ≤ 62914560) := by
              have := congrArg List.sum (List.take_append_drop j bl)
              rw [List.sum_append] at this
              have h2 := HSUM.out
              rw [Hid]
              omega
            by_cases hjn : j < n
            · obtain ⟨h1, h2⟩ := HLE.out.each j hjn
              have c1 := HC5.out j (by omega)
              have c2 := HC6.out j (by omega)
              have hds : (bl.drop j).sum = bl.getD j 0 + (bl.drop (j + 1)).sum := by
                rw [List.drop_eq_getElem_cons (by omega), List.sum_cons]
                simp [List.getD, show j < bl.length by omega]
              generalize bl.getD j 0 = y at *
              have HD : Hid ((((bl.drop j).sum : Nat) : Int) - (y : Int) = ((bl.drop (j + 1)).sum : Nat)) := by rw [Hid, hds]; omega
              have t1 : ¬ (high < 10 * ((j : Int) + 1)) := by omega
              have t2 : ¬ (((bl.drop j).sum : Nat) : Int) ≤ keep := by omega
              have HLE2 : Hid ((bl.drop (j + 1)).sum ≤ 62914560) := by have := HSJ.out; rw [Hid]; omega
              clear hds h1 h2 HSJ
              generalize (bl.drop j).sum = s1 at *
              go_wp2
              go_roundw
              case rel => exact ⟨j + 1, by go_num, by omega, by rw [HD.out, wrapN _ HLE2.out], by first | rfl | trivial⟩
              case measure => simp [intOf]; omega
            · obtain rfl : j = n := by omega
              have hla := HLE.out.last (fun e => by subst e; simp at hbl; omega)
              rw [hbl] at hla
              have c1 := HC5.out j (by omega)
              clear HSJ
              generalize (bl.drop j).sum = s1 at *
              by_cases h1 : (s1 : Int) ≤ keep
              · go_wp2
                go_ret
                exact ⟨rfl, B5.out⟩
              · by_cases h2 : j + 1 = k
                · have h3 : (j : Int) = (k : Int) - 1 := by omega
                  go_wp2
                  go_ret
                  exact ⟨rfl, B5.out⟩
                · have h3 : ¬ (j : Int) = (k : Int) - 1 := by omega
                  have h4 : high < 10 * ((j : Int) + 1) := by omega
                  go_wp2
                  go_ret
                  exact ⟨rfl, B5.out⟩

end Go.Proofs.Ytccndbifnbmddaa
