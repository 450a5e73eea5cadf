/-
  The document's reader of numbers, plainly and walked.
  Conditions: the text has at most 2^32 bytes.
-/
import Derived.Test.YtegaonoobjeneaaDoorBrs
set_option linter.unusedVariables false
set_option linter.unusedSimpArgs false
namespace Go.Proofs.YtegaonoobjeneaaDoor
open Go.RowKit

theorem NumV.get (l : List UInt8) (a : Nat) (ha : a ≤ l.length) : ∃ (k : Nat) (u : Int), NumV l a = .tuple #[.int .i64 k, .int .u64 u] ∧ a + k ≤ l.length ∧ 0 ≤ u ∧ u ≤ 18446744073709551615 ∧ Bd.numP (l.drop a) = (k, u.toNat) := by
  obtain ⟨h1, h2⟩ := Bd.numP_le (l.drop a)
  rw [List.length_drop] at h1
  refine ⟨(Bd.numP (l.drop a)).1, ((Bd.numP (l.drop a)).2 : Nat), rfl, by omega, by omega, by omega, by simp⟩
theorem head_at (l : List UInt8) (a k : Nat) (c : UInt8) : ((l.drop a).drop k).head? = some c ↔ a + k < l.length ∧ (l.getD (a + k) 0).toNat = c.toNat := by
  rw [List.drop_drop]
  constructor
  · intro h
    have hlt : a + k < l.length := by
      rcases Nat.lt_or_ge (a + k) l.length with h1 | h1
      · exact h1
      · rw [List.drop_eq_nil_iff.2 h1] at h; cases h
    rw [drop_getD hlt] at h
    exact ⟨hlt, by rw [Option.some.inj h]⟩
  · rintro ⟨h1, h2⟩
    rw [drop_getD h1, UInt8.toNat_inj.1 h2]
theorem drop_at {l : List UInt8} {a : Nat} {c : UInt8} (h : a < l.length) (hc : (l.getD a 0).toNat = c.toNat) : l.drop a = c :: l.drop (a + 1) := by
  have := drop_getD h
  rw [UInt8.toNat_inj.1 hc] at this
  exact Bd.drop_head this
theorem sInt_is (l : List UInt8) (a a2 : Nat) (neg : Bool) (h : l.drop a = 105 :: (Bd.sg neg ++ l.drop a2)) (hn : neg = false → (l.drop a2).head? ≠ some 45) (k : Nat) (u : Int) (hu : 0 ≤ u) (hnum : Bd.numP (l.drop a2) = (k, u.toNat)) :
    (0 < k ∧ a2 + k < l.length ∧ (l.getD (a2 + k) 0).toNat = 101 ∧ Bd.fits neg u.toNat → Bd.sInt (l.drop a, false) = (Bd.sv neg u.toNat, (l.drop (a2 + k + 1), false))) ∧
    (¬(0 < k ∧ a2 + k < l.length ∧ (l.getD (a2 + k) 0).toNat = 101 ∧ Bd.fits neg u.toNat) → Bd.sInt (l.drop a, false) = (0, (l.drop a, true))) := by
  have hr := Bd.rdInt_ref neg (l.drop a2) hn
  rw [← h] at hr
  have hg : Bd.goodI neg (l.drop a2) ↔ 0 < k ∧ a2 + k < l.length ∧ (l.getD (a2 + k) 0).toNat = 101 ∧ Bd.fits neg u.toNat := by
    unfold Bd.goodI
    rw [hnum, head_at l a2 k 101]
    exact ⟨fun ⟨h1, h2, h3⟩ => ⟨h1, h2.1, h2.2, h3⟩, fun ⟨h1, h2, h3, h4⟩ => ⟨h1, ⟨h2, h3⟩, h4⟩⟩
  refine ⟨fun hc => ?_, fun hc => ?_⟩
  · rw [if_pos (hg.2 hc), hnum, List.drop_drop] at hr
    simp only [Bd.sInt, hr, Bool.false_eq_true, if_false]
    rfl
  · rw [if_neg (fun x => hc (hg.1 x))] at hr
    simp only [Bd.sInt, hr, Bool.false_eq_true, if_false]
theorem sInt_pos (l : List UInt8) (a : Nat) (ha : a < l.length) (h5 : (l.getD a 0).toNat = 105) (hn : a + 1 < l.length → (l.getD (a + 1) 0).toNat ≠ 45) :
    ∃ (k : Nat) (u : Int), NumV l (a + 1) = .tuple #[.int .i64 k, .int .u64 u] ∧ a + 1 + k ≤ l.length ∧ 0 ≤ u ∧ u ≤ 18446744073709551615 ∧
      (0 < k ∧ a + 1 + k < l.length ∧ (l.getD (a + 1 + k) 0).toNat = 101 ∧ u < 9223372036854775808 → Bd.sInt (l.drop a, false) = (u, (l.drop (a + 1 + k + 1), false))) ∧
      (¬(0 < k ∧ a + 1 + k < l.length ∧ (l.getD (a + 1 + k) 0).toNat = 101 ∧ u < 9223372036854775808) → Bd.sInt (l.drop a, false) = (0, (l.drop a, true))) := by
  obtain ⟨k, u, h1, h2, h3, h4, h6⟩ := NumV.get l (a + 1) ha
  obtain ⟨e1, e2⟩ := sInt_is l a (a + 1) false (drop_at ha h5) (fun _ e => by
    have hlt : a + 1 < l.length := by
      rcases Nat.lt_or_ge (a + 1) l.length with h1 | h1
      · exact h1
      · rw [List.drop_eq_nil_iff.2 h1] at e; cases e
    rw [drop_getD hlt] at e
    exact hn hlt (by rw [Option.some.inj e]; rfl)) k u h3 h6
  have hf : Bd.fits false u.toNat ↔ u < 9223372036854775808 := by simp [Bd.fits] <;> omega
  have hs : Bd.sv false u.toNat = u := by simp [Bd.sv] <;> omega
  rw [hs] at e1
  rw [hf] at e1 e2
  exact ⟨k, u, h1, h2, h3, h4, e1, e2⟩
theorem sInt_neg (l : List UInt8) (a : Nat) (ha : a + 1 < l.length) (h5 : (l.getD a 0).toNat = 105) (hn : (l.getD (a + 1) 0).toNat = 45) :
    ∃ (k : Nat) (u : Int), NumV l (a + 1 + 1) = .tuple #[.int .i64 k, .int .u64 u] ∧ a + 1 + 1 + k ≤ l.length ∧ 0 ≤ u ∧ u ≤ 18446744073709551615 ∧
      (0 < k ∧ a + 1 + 1 + k < l.length ∧ (l.getD (a + 1 + 1 + k) 0).toNat = 101 ∧ 0 < u ∧ u ≤ 9223372036854775808 → Bd.sInt (l.drop a, false) = (-u, (l.drop (a + 1 + 1 + k + 1), false))) ∧
      (¬(0 < k ∧ a + 1 + 1 + k < l.length ∧ (l.getD (a + 1 + 1 + k) 0).toNat = 101 ∧ 0 < u ∧ u ≤ 9223372036854775808) → Bd.sInt (l.drop a, false) = (0, (l.drop a, true))) := by
  obtain ⟨k, u, h1, h2, h3, h4, h6⟩ := NumV.get l (a + 1 + 1) ha
  obtain ⟨e1, e2⟩ := sInt_is l a (a + 1 + 1) true (by rw [drop_at (c := 105) (by omega) h5, drop_at (c := 45) ha hn]; rfl) (fun e => by cases e) k u h3 h6
  have hf : Bd.fits true u.toNat ↔ 0 < u ∧ u ≤ 9223372036854775808 := by simp [Bd.fits] <;> omega
  have hs : Bd.sv true u.toNat = -u := by simp [Bd.sv] <;> omega
  rw [hs] at e1
  rw [hf] at e1 e2
  exact ⟨k, u, h1, h2, h3, h4, e1, e2⟩
theorem sInt_off (l : List UInt8) (a : Nat) (h : ¬(a < l.length ∧ (l.getD a 0).toNat = 105)) : Bd.sInt (l.drop a, false) = (0, (l.drop a, true)) := by
  cases hr : Bd.rdInt (l.drop a) with
  | none => simp [Bd.sInt, hr]
  | some x =>
    exfalso
    obtain ⟨n, r⟩ := x
    have hh := Bd.rdInt_head hr
    exact h ((head_at l a 0 105).1 (by simpa using hh))

def RIV (w : World) (p : Nat) (l : List UInt8) (q : Bd.St) (e : Ending) (w' : World) : Prop := e = .returned (.int .i64 (Bd.sInt q).1) ∧ RUs w p l (Bd.sInt q).2 w'
theorem refint_bad (p : Nat) (l s : List UInt8) (w : World) (hl : l.length ≤ 4294967296) (h : RU w p l (s, true)) : Calls Tryd.prog 46 #[.pointer (some ⟨p, 0, none⟩)] w (RIV w p l (s, true)) := by
  have H := Lib.hid h
  obtain ⟨k, hk, hr, hq⟩ := h
  obtain ⟨c0, c1, c2⟩ := hr.cells
  clear hr hq
  go_enter Tryd.func46, Tryd.ntmps46
  go_wp2
  go_ret
  exact ⟨rfl, H.out, Keeps.refl _ _⟩
theorem refint_off0 (p : Nat) (l : List UInt8) (a : Nat) (w : World) (hl : l.length ≤ 4294967296) (hk : a ≤ l.length) (hr : RR w p l a false) (h : ¬ a < l.length) : Calls Tryd.prog 46 #[.pointer (some ⟨p, 0, none⟩)] w (RIV w p l (l.drop a, false)) := by
  have HE := Lib.hid (sInt_off l a (fun x => h x.1))
  obtain ⟨c0, c1, c2⟩ := hr.cells
  obtain ⟨f1, f2⟩ := hr.free
  have HR := Lib.hid hr
  clear hr
  have HB : Hid (∀ n, Bd.sInt (l.drop a, false) = (0, (l.drop a, true)) → ∀ v : Int, v = 0 → RIV w p l (l.drop a, false) (.returned (.int .i64 v)) ((w.drewN n).setCell ⟨p, 2, none⟩ (.bool true))) := fun n e v hv => by
    rw [RIV, e, hv]
    exact ⟨rfl, ⟨a, hk, RR.setBad (w := w.drewN n) HR.out true, fun h => by cases h⟩, (Keeps.drewN _ w n).trans (keepsP _ _ _ _)⟩
  go_enter Tryd.func46, Tryd.ntmps46
  go_wp2
  go_ret
  exact HB.out 0 HE.out 0 rfl
theorem refint_off1 (p : Nat) (l : List UInt8) (a : Nat) (w : World) (hl : l.length ≤ 4294967296) (hk : a ≤ l.length) (hr : RR w p l a false) (h : a < l.length) (h5 : (l.getD a 0).toNat ≠ 105) : Calls Tryd.prog 46 #[.pointer (some ⟨p, 0, none⟩)] w (RIV w p l (l.drop a, false)) := by
  have HE := Lib.hid (sInt_off l a (fun x => h5 x.2))
  obtain ⟨c0, c1, c2⟩ := hr.cells
  obtain ⟨f1, f2⟩ := hr.free
  have HR := Lib.hid hr
  clear hr
  have HB : Hid (∀ n, Bd.sInt (l.drop a, false) = (0, (l.drop a, true)) → ∀ v : Int, v = 0 → RIV w p l (l.drop a, false) (.returned (.int .i64 v)) ((w.drewN n).setCell ⟨p, 2, none⟩ (.bool true))) := fun n e v hv => by
    rw [RIV, e, hv]
    exact ⟨rfl, ⟨a, hk, RR.setBad (w := w.drewN n) HR.out true, fun h => by cases h⟩, (Keeps.drewN _ w n).trans (keepsP _ _ _ _)⟩
  have hix := str_at (P := Tryd.prog) l a a rfl h 9 Tryd.underlying9
  have hc256 := UInt8.toNat_lt (l.getD a 0)
  generalize (l.getD a 0).toNat = x at *
  go_enter Tryd.func46, Tryd.ntmps46
  go_wp2
  go_ret
  exact HB.out 0 HE.out 0 rfl
set_option maxRecDepth 20000 in
set_option maxHeartbeats 3200000 in
theorem refint_p0 (p : Nat) (l : List UInt8) (a : Nat) (w : World) (hl : l.length ≤ 4294967296) (hk : a ≤ l.length) (hr : RR w p l a false) (h : a < l.length) (h5 : (l.getD a 0).toNat = 105) (h1 : ¬ a + 1 < l.length) : Calls Tryd.prog 46 #[.pointer (some ⟨p, 0, none⟩)] w (RIV w p l (l.drop a, false)) := by
  have hs := sInt_pos l a h h5 (fun x => absurd x h1)
  obtain ⟨k, u, hN, hak, hu0, hu1, hgood, hbad⟩ := hs
  obtain ⟨c0, c1, c2⟩ := hr.cells
  obtain ⟨f1, f2⟩ := hr.free
  have HR := Lib.hid hr
  clear hr
  have HB : Hid (∀ n, Bd.sInt (l.drop a, false) = (0, (l.drop a, true)) → ∀ v : Int, v = 0 → RIV w p l (l.drop a, false) (.returned (.int .i64 v)) ((w.drewN n).setCell ⟨p, 2, none⟩ (.bool true))) := fun n e v hv => by
    rw [RIV, e, hv]
    exact ⟨rfl, ⟨a, hk, RR.setBad (w := w.drewN n) HR.out true, fun h => by cases h⟩, (Keeps.drewN _ w n).trans (keepsP _ _ _ _)⟩
  have HN : Hid (∀ (b : Int) w, b = (a : Int) + 1 → Calls Tryd.prog 63 #[.string ⟨l.toArray⟩, .int .i64 b] w fun e w' => e = .returned (.tuple #[.int .i64 k, .int .u64 u]) ∧ w' = w) := fun b w hb => by
    have := number_any l (a + 1) (by omega) hl w
    rw [hN] at this
    rw [hb]
    exact this
  have HG : Hid (∀ n, Bd.sInt (l.drop a, false) = (u, (l.drop (a + 1 + k + 1), false)) → a + 1 + k + 1 ≤ l.length → ∀ v b : Int, v = u → b = (a : Int) + 1 + k + 1 → RIV w p l (l.drop a, false) (.returned (.int .i64 v)) ((w.drewN n).setCell ⟨p, 1, none⟩ (.int .i64 b))) := fun n e hle v b hv hb => by
    rw [RIV, e, hv, hb]
    exact ⟨rfl, ⟨a + 1 + k + 1, hle, RR.setAt (w := w.drewN n) HR.out _, fun h => rfl⟩, (Keeps.drewN _ w n).trans (keepsP _ _ _ _)⟩
  have hix := str_at (P := Tryd.prog) l a a rfl h 9 Tryd.underlying9
  rw [h5] at hix
  clear hN
  by_cases h3 : a + 1 + k < l.length
  · exfalso; omega
  · have HE := Lib.hid (hbad (fun hg => h3 hg.2.1))
    clear hgood hbad
    go_enter Tryd.func46, Tryd.ntmps46
    go_wp2_with fail
    refine (HN.out _ _ rfl).mono ?_
    rintro e w1 ⟨rfl, rfl⟩
    go_wp2
    all_goals first
      | (exfalso; omega)
      | (go_ret; exact HB.out 0 HE.out 0 rfl)
set_option maxRecDepth 20000 in
set_option maxHeartbeats 3200000 in
theorem refint_p1 (p : Nat) (l : List UInt8) (a : Nat) (w : World) (hl : l.length ≤ 4294967296) (hk : a ≤ l.length) (hr : RR w p l a false) (h : a < l.length) (h5 : (l.getD a 0).toNat = 105) (h1 : a + 1 < l.length) (h4 : (l.getD (a + 1) 0).toNat ≠ 45) : Calls Tryd.prog 46 #[.pointer (some ⟨p, 0, none⟩)] w (RIV w p l (l.drop a, false)) := by
  have hs := sInt_pos l a h h5 (fun _ => h4)
  have hix1 := str_at (P := Tryd.prog) l (a + 1) ((a : Int) + 1) (by omega) h1 9 Tryd.underlying9
  have hc1256 := UInt8.toNat_lt (l.getD (a + 1) 0)
  generalize (l.getD (a + 1) 0).toNat = x1 at h4 hix1 hc1256
  obtain ⟨k, u, hN, hak, hu0, hu1, hgood, hbad⟩ := hs
  obtain ⟨c0, c1, c2⟩ := hr.cells
  obtain ⟨f1, f2⟩ := hr.free
  have HR := Lib.hid hr
  clear hr
  have HB : Hid (∀ n, Bd.sInt (l.drop a, false) = (0, (l.drop a, true)) → ∀ v : Int, v = 0 → RIV w p l (l.drop a, false) (.returned (.int .i64 v)) ((w.drewN n).setCell ⟨p, 2, none⟩ (.bool true))) := fun n e v hv => by
    rw [RIV, e, hv]
    exact ⟨rfl, ⟨a, hk, RR.setBad (w := w.drewN n) HR.out true, fun h => by cases h⟩, (Keeps.drewN _ w n).trans (keepsP _ _ _ _)⟩
  have HN : Hid (∀ (b : Int) w, b = (a : Int) + 1 → Calls Tryd.prog 63 #[.string ⟨l.toArray⟩, .int .i64 b] w fun e w' => e = .returned (.tuple #[.int .i64 k, .int .u64 u]) ∧ w' = w) := fun b w hb => by
    have := number_any l (a + 1) (by omega) hl w
    rw [hN] at this
    rw [hb]
    exact this
  have HG : Hid (∀ n, Bd.sInt (l.drop a, false) = (u, (l.drop (a + 1 + k + 1), false)) → a + 1 + k + 1 ≤ l.length → ∀ v b : Int, v = u → b = (a : Int) + 1 + k + 1 → RIV w p l (l.drop a, false) (.returned (.int .i64 v)) ((w.drewN n).setCell ⟨p, 1, none⟩ (.int .i64 b))) := fun n e hle v b hv hb => by
    rw [RIV, e, hv, hb]
    exact ⟨rfl, ⟨a + 1 + k + 1, hle, RR.setAt (w := w.drewN n) HR.out _, fun h => rfl⟩, (Keeps.drewN _ w n).trans (keepsP _ _ _ _)⟩
  have hix := str_at (P := Tryd.prog) l a a rfl h 9 Tryd.underlying9
  rw [h5] at hix
  clear hN
  by_cases h3 : a + 1 + k < l.length
  · have hix3 := str_at (P := Tryd.prog) l (a + 1 + k) ((a : Int) + 1 + k) (by omega) h3 9 Tryd.underlying9
    have hc256 := UInt8.toNat_lt (l.getD (a + 1 + k) 0)
    generalize (l.getD (a + 1 + k) 0).toNat = x at *
    by_cases hg : 0 < k ∧ a + 1 + k < l.length ∧ x = 101 ∧ u < 9223372036854775808
    · have HE := Lib.hid (hgood hg)
      obtain ⟨g1, g2, rfl, g3⟩ := hg
      clear hgood hbad
      go_enter Tryd.func46, Tryd.ntmps46
      go_wp2_with fail
      refine (HN.out _ _ rfl).mono ?_
      rintro e w1 ⟨rfl, rfl⟩
      go_wp2
      go_ret
      exact HG.out 0 HE.out (by omega) _ _ (by omega) (by omega)
    · have HE := Lib.hid (hbad hg)
      clear hgood hbad
      go_enter Tryd.func46, Tryd.ntmps46
      go_wp2_with fail
      refine (HN.out _ _ rfl).mono ?_
      rintro e w1 ⟨rfl, rfl⟩
      go_wp2
      all_goals first
        | (exfalso; omega)
        | (go_ret; exact HB.out 0 HE.out 0 rfl)
        | (exfalso; simp only [beq_iff_eq] at *; omega)
  · have HE := Lib.hid (hbad (fun hg => h3 hg.2.1))
    clear hgood hbad
    go_enter Tryd.func46, Tryd.ntmps46
    go_wp2_with fail
    refine (HN.out _ _ rfl).mono ?_
    rintro e w1 ⟨rfl, rfl⟩
    go_wp2
    all_goals first
      | (exfalso; omega)
      | (go_ret; exact HB.out 0 HE.out 0 rfl)
set_option maxRecDepth 20000 in
set_option maxHeartbeats 3200000 in
theorem refint_n (p : Nat) (l : List UInt8) (a : Nat) (w : World) (hl : l.length ≤ 4294967296) (hk : a ≤ l.length) (hr : RR w p l a false) (h : a < l.length) (h5 : (l.getD a 0).toNat = 105) (h1 : a + 1 < l.length) (h4 : (l.getD (a + 1) 0).toNat = 45) : Calls Tryd.prog 46 #[.pointer (some ⟨p, 0, none⟩)] w (RIV w p l (l.drop a, false)) := by
  have hs := sInt_neg l a h1 h5 h4
  have hix1 := str_at (P := Tryd.prog) l (a + 1) ((a : Int) + 1) (by omega) h1 9 Tryd.underlying9
  rw [h4] at hix1
  obtain ⟨k, u, hN, hak, hu0, hu1, hgood, hbad⟩ := hs
  obtain ⟨c0, c1, c2⟩ := hr.cells
  obtain ⟨f1, f2⟩ := hr.free
  have HR := Lib.hid hr
  clear hr
  have HB : Hid (∀ n, Bd.sInt (l.drop a, false) = (0, (l.drop a, true)) → ∀ v : Int, v = 0 → RIV w p l (l.drop a, false) (.returned (.int .i64 v)) ((w.drewN n).setCell ⟨p, 2, none⟩ (.bool true))) := fun n e v hv => by
    rw [RIV, e, hv]
    exact ⟨rfl, ⟨a, hk, RR.setBad (w := w.drewN n) HR.out true, fun h => by cases h⟩, (Keeps.drewN _ w n).trans (keepsP _ _ _ _)⟩
  have HN : Hid (∀ (b : Int) w, b = (a : Int) + 1 + 1 → Calls Tryd.prog 63 #[.string ⟨l.toArray⟩, .int .i64 b] w fun e w' => e = .returned (.tuple #[.int .i64 k, .int .u64 u]) ∧ w' = w) := fun b w hb => by
    have := number_any l (a + 1 + 1) (by omega) hl w
    rw [hN] at this
    rw [hb]
    exact this
  have HG : Hid (∀ n, Bd.sInt (l.drop a, false) = (-u, (l.drop (a + 1 + 1 + k + 1), false)) → a + 1 + 1 + k + 1 ≤ l.length → ∀ v b : Int, v = -u → b = (a : Int) + 1 + 1 + k + 1 → RIV w p l (l.drop a, false) (.returned (.int .i64 v)) ((w.drewN n).setCell ⟨p, 1, none⟩ (.int .i64 b))) := fun n e hle v b hv hb => by
    rw [RIV, e, hv, hb]
    exact ⟨rfl, ⟨a + 1 + 1 + k + 1, hle, RR.setAt (w := w.drewN n) HR.out _, fun h => rfl⟩, (Keeps.drewN _ w n).trans (keepsP _ _ _ _)⟩
  have hix := str_at (P := Tryd.prog) l a a rfl h 9 Tryd.underlying9
  rw [h5] at hix
  clear hN
  by_cases h3 : a + 1 + 1 + k < l.length
  · have hix3 := str_at (P := Tryd.prog) l (a + 1 + 1 + k) ((a : Int) + 1 + 1 + k) (by omega) h3 9 Tryd.underlying9
    have hc256 := UInt8.toNat_lt (l.getD (a + 1 + 1 + k) 0)
    generalize (l.getD (a + 1 + 1 + k) 0).toNat = x at *
    by_cases hg : 0 < k ∧ a + 1 + 1 + k < l.length ∧ x = 101 ∧ 0 < u ∧ u ≤ 9223372036854775808
    · have HE := Lib.hid (hgood hg)
      obtain ⟨g1, g2, rfl, g3⟩ := hg
      clear hgood hbad
      go_enter Tryd.func46, Tryd.ntmps46
      go_wp2_with fail
      refine (HN.out _ _ rfl).mono ?_
      rintro e w1 ⟨rfl, rfl⟩
      go_wp2
      go_ret
      exact HG.out 0 HE.out (by omega) _ _ (by omega) (by omega)
    · have HE := Lib.hid (hbad hg)
      clear hgood hbad
      go_enter Tryd.func46, Tryd.ntmps46
      go_wp2_with fail
      refine (HN.out _ _ rfl).mono ?_
      rintro e w1 ⟨rfl, rfl⟩
      go_wp2
      all_goals first
        | (exfalso; omega)
        | (go_ret; exact HB.out 0 HE.out 0 rfl)
        | (exfalso; simp only [beq_iff_eq] at *; omega)
  · have HE := Lib.hid (hbad (fun hg => h3 hg.2.1))
    clear hgood hbad
    go_enter Tryd.func46, Tryd.ntmps46
    go_wp2_with fail
    refine (HN.out _ _ rfl).mono ?_
    rintro e w1 ⟨rfl, rfl⟩
    go_wp2
    all_goals first
      | (exfalso; omega)
      | (go_ret; exact HB.out 0 HE.out 0 rfl)
theorem refint_any (p : Nat) (l : List UInt8) (q : Bd.St) (w : World) (hl : l.length ≤ 4294967296) (h : RU w p l q) : Calls Tryd.prog 46 #[.pointer (some ⟨p, 0, none⟩)] w (RIV w p l q) := by
  obtain ⟨s, b⟩ := q
  cases b with
  | true => exact refint_bad p l s w hl h
  | false =>
    obtain ⟨a, ha, hr, hq⟩ := h
    obtain rfl := hq rfl
    by_cases h0 : a < l.length
    · by_cases h5 : (l.getD a 0).toNat = 105
      · by_cases h1 : a + 1 < l.length
        · by_cases h4 : (l.getD (a + 1) 0).toNat = 45
          · exact refint_n p l a w hl ha hr h0 h5 h1 h4
          · exact refint_p1 p l a w hl ha hr h0 h5 h1 h4
        · exact refint_p0 p l a w hl ha hr h0 h5 h1
      · exact refint_off1 p l a w hl ha hr h0 h5
    · exact refint_off0 p l a w hl ha hr h0

end Go.Proofs.YtegaonoobjeneaaDoor
