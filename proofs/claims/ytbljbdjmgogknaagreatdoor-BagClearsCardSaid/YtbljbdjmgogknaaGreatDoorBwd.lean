/-
  Bead's reader, walked: Text.
  Conditions: what is left has fewer bytes than the library's search is told for; the library's variables hold what they are laid with.
-/
import Derived.Test.YtbljbdjmgogknaaGreatDoorBwc
set_option linter.unusedVariables false
set_option linter.unusedSimpArgs false
namespace Go.Proofs.YtbljbdjmgogknaaGreatDoor
open Go.RowKit

set_option maxHeartbeats 400000 in
theorem text_bad (p : Nat) (most : Int) (s : List UInt8) (w : World) (h : Rd w p (s, true)) :
    Calls Tryz.prog 97 #[.pointer (some ⟨p, 0, none⟩), .int .i64 most] w fun e w' => e = .returned (.string ⟨([] : List UInt8).toArray⟩) ∧ w = w' := by
  have H := Lib.hid h
  clear h
  go_enter Tryz.func97, Tryz.ntmps97
  go_wp2_with fail
  go_step3
  go_wp2_with fail
  refine (ready_any _ _ _ H.out).mono ?_
  rintro e w1 ⟨rfl, rfl⟩
  go_wp2
  rw [Exit.noGoto_ret]
  go_ret
  exact ⟨rfl, rfl⟩
set_option maxHeartbeats 400000 in
theorem text_yes (p : Nat) (most : Int) (s rest d t r : List UInt8) (w : World) (h : Rd w p (s, false)) (hw : Lw w) (hd : d.length ≤ 281474976710656) (hv : Lib.atoiAll d = .ok (t.length : Int)) (hi : Lib.itoa (t.length : Int) = d) (hm : (t.length : Int) ≤ most) (hr : rest = t ++ r) (HC : Hid (Calls Tryz.prog 117 #[.string ⟨s.toArray⟩, .string ⟨#[58]⟩] w fun e w' => e = .returned (.tuple #[.string ⟨d.toArray⟩, .string ⟨rest.toArray⟩, .bool true]) ∧ Below w.heap.size w w')) :
    Calls Tryz.prog 97 #[.pointer (some ⟨p, 0, none⟩), .int .i64 most] w (RdV (.string ⟨t.toArray⟩) w p (r, false)) := by
  have H := Lib.hid h
  have HW := Lib.hid hw
  obtain ⟨c0, c1⟩ := h.cells
  clear h hw
  have hn := Lib.atoiAll_bounds hv
  have HA : Hid (∀ w, Calls Tryz.prog 118 #[.string ⟨d.toArray⟩] w fun e w' => e = .returned (.tuple #[.int .i64 (t.length : Int), .nilIface]) ∧ Below w.heap.size w w') := fun w => atoi_ok d (t.length : Int) hv hd w
  have HI : Hid (∀ w, Lw w → Calls Tryz.prog 112 #[.int .i64 (t.length : Int)] w fun e w' => e = .returned (.string ⟨(Lib.itoa (t.length : Int)).toArray⟩) ∧ Below w.heap.size w w') := fun w hw => itoa_any (t.length : Int) hn w hw
  have hs1 := str_from (P := Tryz.prog) (t ++ r) t.length t.length rfl (by simp) 9 .i64 Tryz.underlying9
  have hs2 := str_to (P := Tryz.prog) (t ++ r) t.length t.length .i64 rfl (by simp) 9 Tryz.underlying9
  rw [List.drop_left] at hs1
  rw [List.take_left] at hs2
  rw [← hr] at hs1 hs2
  rw [hi] at HI
  have hle : t.length ≤ rest.length := by rw [hr]; simp
  have heq : (d == d) = true := by simp
  clear hv hi hn hr
  generalize t.length = k at *
  go_enter Tryz.func97, Tryz.ntmps97
  go_wp2_with fail
  go_step3
  go_wp2_with fail
  refine (ready_any _ _ _ H.out).mono ?_
  rintro e w1 ⟨rfl, rfl⟩
  go_wp2_with fail
  refine HC.out.mono ?_
  rintro e w1 ⟨rfl, hb1⟩
  have HB1 := Lib.hid hb1
  clear hb1 c0 c1
  go_wp2_with fail
  refine (HA.out _).mono ?_
  rintro e w2 ⟨rfl, hb2⟩
  have HB2 := Lib.hid (bt HB1.out hb2)
  clear hb2 HB1
  go_wp2_with fail
  refine (HI.out _ (HW.out.below HB2.out)).mono ?_
  rintro e w3 ⟨rfl, hb3⟩
  have HB3 := Lib.hid (bt HB2.out hb3)
  clear hb3 HB2
  have HB2 := HB3
  clear HB3
  have HR := Lib.hid (H.out.below HB2.out)
  obtain ⟨c0, c1⟩ := HR.out.cells
  obtain ⟨f0, f1⟩ := HR.out.free
  go_wp2
  rw [Exit.noGoto_ret]
  go_ret
  exact ⟨rfl, HR.out.set0 r, (Keeps.below _ HB2.out).trans (keepsP _ _ _ _)⟩
set_option maxHeartbeats 400000 in
theorem text_no1 (p : Nat) (most : Int) (s rest d : List UInt8) (w : World) (h : Rd w p (s, false)) (hw : Lw w) (hd : d.length ≤ 281474976710656) (HC : Hid (Calls Tryz.prog 117 #[.string ⟨s.toArray⟩, .string ⟨#[58]⟩] w fun e w' => e = .returned (.tuple #[.string ⟨d.toArray⟩, .string ⟨rest.toArray⟩, .bool false]) ∧ Below w.heap.size w w')) :
    Calls Tryz.prog 97 #[.pointer (some ⟨p, 0, none⟩), .int .i64 most] w (RdV (.string ⟨([] : List UInt8).toArray⟩) w p (s, true)) := by
  have H := Lib.hid h
  have HW := Lib.hid hw
  obtain ⟨c0, c1⟩ := h.cells
  clear h hw
  have HA : Hid (∀ w, Lw w → Calls Tryz.prog 118 #[.string ⟨d.toArray⟩] w (AtoiAny w)) := fun w hw => atoi_any d hd w hw
  go_enter Tryz.func97, Tryz.ntmps97
  go_wp2_with fail
  refine wp_scope_fwd 0 rfl ?_
  go_wp2_with fail
  refine (ready_any _ _ _ H.out).mono ?_
  rintro e w1 ⟨rfl, rfl⟩
  go_wp2_with fail
  refine HC.out.mono ?_
  rintro e w1 ⟨rfl, hb1⟩
  have HB1 := Lib.hid hb1
  clear hb1 c0 c1
  go_wp2_with fail
  refine (HA.out _ (HW.out.below HB1.out)).mono ?_
  rintro e w2 ⟨m, ev, rfl, hb2⟩
  have HB2 := Lib.hid (bt HB1.out hb2)
  clear hb2 HB1
  have HR := Lib.hid (H.out.below HB2.out)
  obtain ⟨c0, c1⟩ := HR.out.cells
  obtain ⟨f0, f1⟩ := HR.out.free
  go_wp2
  go_step3
  refine ⟨rfl, ?_⟩
  go_wp2
  rw [Exit.noGoto_ret]
  go_ret
  exact ⟨rfl, HR.out.set1 true, (Keeps.below _ HB2.out).trans (keepsP _ _ _ _)⟩
set_option maxHeartbeats 400000 in
theorem text_no2 (p : Nat) (most : Int) (s rest d : List UInt8) (w : World) (h : Rd w p (s, false)) (hw : Lw w) (hd : d.length ≤ 281474976710656) (hno : ∀ v, Lib.atoiAll d ≠ .ok v) (HC : Hid (Calls Tryz.prog 117 #[.string ⟨s.toArray⟩, .string ⟨#[58]⟩] w fun e w' => e = .returned (.tuple #[.string ⟨d.toArray⟩, .string ⟨rest.toArray⟩, .bool true]) ∧ Below w.heap.size w w')) :
    Calls Tryz.prog 97 #[.pointer (some ⟨p, 0, none⟩), .int .i64 most] w (RdV (.string ⟨([] : List UInt8).toArray⟩) w p (s, true)) := by
  have H := Lib.hid h
  have HW := Lib.hid hw
  obtain ⟨c0, c1⟩ := h.cells
  clear h hw
  have HA : Hid (∀ w, Lw w → Calls Tryz.prog 118 #[.string ⟨d.toArray⟩] w (AtoiNo w)) := fun w hw => atoi_no d hno hd w hw
  go_enter Tryz.func97, Tryz.ntmps97
  go_wp2_with fail
  refine wp_scope_fwd 0 rfl ?_
  go_wp2_with fail
  refine (ready_any _ _ _ H.out).mono ?_
  rintro e w1 ⟨rfl, rfl⟩
  go_wp2_with fail
  refine HC.out.mono ?_
  rintro e w1 ⟨rfl, hb1⟩
  have HB1 := Lib.hid hb1
  clear hb1 c0 c1
  go_wp2_with fail
  refine (HA.out _ (HW.out.below HB1.out)).mono ?_
  rintro e w2 ⟨m, N, rfl, hb2⟩
  have HB2 := Lib.hid (bt HB1.out hb2)
  clear hb2 HB1
  have HR := Lib.hid (H.out.below HB2.out)
  obtain ⟨c0, c1⟩ := HR.out.cells
  obtain ⟨f0, f1⟩ := HR.out.free
  go_wp2
  go_step3
  refine ⟨rfl, ?_⟩
  go_wp2
  rw [Exit.noGoto_ret]
  go_ret
  exact ⟨rfl, HR.out.set1 true, (Keeps.below _ HB2.out).trans (keepsP _ _ _ _)⟩
set_option maxHeartbeats 400000 in
theorem text_no3 (p : Nat) (most : Int) (s rest d : List UInt8) (w : World) (h : Rd w p (s, false)) (hw : Lw w) (hd : d.length ≤ 281474976710656) (v : Int) (hv : Lib.atoiAll d = .ok v) (hne : Lib.itoa v ≠ d) (HC : Hid (Calls Tryz.prog 117 #[.string ⟨s.toArray⟩, .string ⟨#[58]⟩] w fun e w' => e = .returned (.tuple #[.string ⟨d.toArray⟩, .string ⟨rest.toArray⟩, .bool true]) ∧ Below w.heap.size w w')) :
    Calls Tryz.prog 97 #[.pointer (some ⟨p, 0, none⟩), .int .i64 most] w (RdV (.string ⟨([] : List UInt8).toArray⟩) w p (s, true)) := by
  have H := Lib.hid h
  have HW := Lib.hid hw
  obtain ⟨c0, c1⟩ := h.cells
  clear h hw
  have hn := Lib.atoiAll_bounds hv
  have HA : Hid (∀ w, Calls Tryz.prog 118 #[.string ⟨d.toArray⟩] w fun e w' => e = .returned (.tuple #[.int .i64 v, .nilIface]) ∧ Below w.heap.size w w') := fun w => atoi_ok d v hv hd w
  have HI : Hid (∀ w, Lw w → Calls Tryz.prog 112 #[.int .i64 v] w fun e w' => e = .returned (.string ⟨(Lib.itoa v).toArray⟩) ∧ Below w.heap.size w w') := fun w hw => itoa_any v hn w hw
  have hne' := str_ne hne
  clear hv hn hne
  generalize Lib.itoa v = t at HI hne'
  go_enter Tryz.func97, Tryz.ntmps97
  go_wp2_with fail
  refine wp_scope_fwd 0 rfl ?_
  go_wp2_with fail
  refine (ready_any _ _ _ H.out).mono ?_
  rintro e w1 ⟨rfl, rfl⟩
  go_wp2_with fail
  refine HC.out.mono ?_
  rintro e w1 ⟨rfl, hb1⟩
  have HB1 := Lib.hid hb1
  clear hb1 c0 c1
  go_wp2_with fail
  refine (HA.out _).mono ?_
  rintro e w2 ⟨rfl, hb2⟩
  have HB2 := Lib.hid (bt HB1.out hb2)
  clear hb2 HB1
  go_wp2_with fail
  refine (HI.out _ (HW.out.below HB2.out)).mono ?_
  rintro e w3 ⟨rfl, hb3⟩
  have HB3 := Lib.hid (bt HB2.out hb3)
  clear hb3 HB2
  have HB2 := HB3
  clear HB3
  have HR := Lib.hid (H.out.below HB2.out)
  obtain ⟨c0, c1⟩ := HR.out.cells
  obtain ⟨f0, f1⟩ := HR.out.free
  go_wp2
  go_step3
  refine ⟨rfl, ?_⟩
  go_wp2
  rw [Exit.noGoto_ret]
  go_ret
  exact ⟨rfl, HR.out.set1 true, (Keeps.below _ HB2.out).trans (keepsP _ _ _ _)⟩
set_option maxHeartbeats 400000 in
theorem text_no4 (p : Nat) (most : Int) (s rest d : List UInt8) (w : World) (h : Rd w p (s, false)) (hw : Lw w) (hd : d.length ≤ 281474976710656) (v : Int) (hv : Lib.atoiAll d = .ok v) (hi : Lib.itoa v = d) (h0 : v < 0) (HC : Hid (Calls Tryz.prog 117 #[.string ⟨s.toArray⟩, .string ⟨#[58]⟩] w fun e w' => e = .returned (.tuple #[.string ⟨d.toArray⟩, .string ⟨rest.toArray⟩, .bool true]) ∧ Below w.heap.size w w')) :
    Calls Tryz.prog 97 #[.pointer (some ⟨p, 0, none⟩), .int .i64 most] w (RdV (.string ⟨([] : List UInt8).toArray⟩) w p (s, true)) := by
  have H := Lib.hid h
  have HW := Lib.hid hw
  obtain ⟨c0, c1⟩ := h.cells
  clear h hw
  have hn := Lib.atoiAll_bounds hv
  have HA : Hid (∀ w, Calls Tryz.prog 118 #[.string ⟨d.toArray⟩] w fun e w' => e = .returned (.tuple #[.int .i64 v, .nilIface]) ∧ Below w.heap.size w w') := fun w => atoi_ok d v hv hd w
  have HI : Hid (∀ w, Lw w → Calls Tryz.prog 112 #[.int .i64 v] w fun e w' => e = .returned (.string ⟨(Lib.itoa v).toArray⟩) ∧ Below w.heap.size w w') := fun w hw => itoa_any v hn w hw
  rw [hi] at HI
  have heq : (d == d) = true := by simp
  clear hv hi hn
  go_enter Tryz.func97, Tryz.ntmps97
  go_wp2_with fail
  refine wp_scope_fwd 0 rfl ?_
  go_wp2_with fail
  refine (ready_any _ _ _ H.out).mono ?_
  rintro e w1 ⟨rfl, rfl⟩
  go_wp2_with fail
  refine HC.out.mono ?_
  rintro e w1 ⟨rfl, hb1⟩
  have HB1 := Lib.hid hb1
  clear hb1 c0 c1
  go_wp2_with fail
  refine (HA.out _).mono ?_
  rintro e w2 ⟨rfl, hb2⟩
  have HB2 := Lib.hid (bt HB1.out hb2)
  clear hb2 HB1
  go_wp2_with fail
  refine (HI.out _ (HW.out.below HB2.out)).mono ?_
  rintro e w3 ⟨rfl, hb3⟩
  have HB3 := Lib.hid (bt HB2.out hb3)
  clear hb3 HB2
  have HB2 := HB3
  clear HB3
  have HR := Lib.hid (H.out.below HB2.out)
  obtain ⟨c0, c1⟩ := HR.out.cells
  obtain ⟨f0, f1⟩ := HR.out.free
  go_wp2
  go_step3
  refine ⟨rfl, ?_⟩
  go_wp2
  rw [Exit.noGoto_ret]
  go_ret
  exact ⟨rfl, HR.out.set1 true, (Keeps.below _ HB2.out).trans (keepsP _ _ _ _)⟩
set_option maxHeartbeats 400000 in
theorem text_no5 (p : Nat) (most : Int) (s rest d : List UInt8) (w : World) (h : Rd w p (s, false)) (hw : Lw w) (hd : d.length ≤ 281474976710656) (v : Int) (hv : Lib.atoiAll d = .ok v) (hi : Lib.itoa v = d) (h0 : 0 ≤ v) (hm : most < v ∨ (rest.length : Int) < v) (HC : Hid (Calls Tryz.prog 117 #[.string ⟨s.toArray⟩, .string ⟨#[58]⟩] w fun e w' => e = .returned (.tuple #[.string ⟨d.toArray⟩, .string ⟨rest.toArray⟩, .bool true]) ∧ Below w.heap.size w w')) :
    Calls Tryz.prog 97 #[.pointer (some ⟨p, 0, none⟩), .int .i64 most] w (RdV (.string ⟨([] : List UInt8).toArray⟩) w p (s, true)) := by
  have H := Lib.hid h
  have HW := Lib.hid hw
  obtain ⟨c0, c1⟩ := h.cells
  clear h hw
  have hn := Lib.atoiAll_bounds hv
  have HA : Hid (∀ w, Calls Tryz.prog 118 #[.string ⟨d.toArray⟩] w fun e w' => e = .returned (.tuple #[.int .i64 v, .nilIface]) ∧ Below w.heap.size w w') := fun w => atoi_ok d v hv hd w
  have HI : Hid (∀ w, Lw w → Calls Tryz.prog 112 #[.int .i64 v] w fun e w' => e = .returned (.string ⟨(Lib.itoa v).toArray⟩) ∧ Below w.heap.size w w') := fun w hw => itoa_any v hn w hw
  rw [hi] at HI
  have heq : (d == d) = true := by simp
  clear hv hi hn
  have hmm : min most (rest.length : Int) < v := by omega
  clear hm
  go_enter Tryz.func97, Tryz.ntmps97
  go_wp2_with fail
  refine wp_scope_fwd 0 rfl ?_
  go_wp2_with fail
  refine (ready_any _ _ _ H.out).mono ?_
  rintro e w1 ⟨rfl, rfl⟩
  go_wp2_with fail
  refine HC.out.mono ?_
  rintro e w1 ⟨rfl, hb1⟩
  have HB1 := Lib.hid hb1
  clear hb1 c0 c1
  go_wp2_with fail
  refine (HA.out _).mono ?_
  rintro e w2 ⟨rfl, hb2⟩
  have HB2 := Lib.hid (bt HB1.out hb2)
  clear hb2 HB1
  go_wp2_with fail
  refine (HI.out _ (HW.out.below HB2.out)).mono ?_
  rintro e w3 ⟨rfl, hb3⟩
  have HB3 := Lib.hid (bt HB2.out hb3)
  clear hb3 HB2
  have HB2 := HB3
  clear HB3
  have HR := Lib.hid (H.out.below HB2.out)
  obtain ⟨c0, c1⟩ := HR.out.cells
  obtain ⟨f0, f1⟩ := HR.out.free
  go_wp2
  go_step3
  refine ⟨rfl, ?_⟩
  go_wp2
  rw [Exit.noGoto_ret]
  go_ret
  exact ⟨rfl, HR.out.set1 true, (Keeps.below _ HB2.out).trans (keepsP _ _ _ _)⟩

theorem text_any (p : Nat) (most : Int) (q : Bd.St) (w : World) (h : Rd w p q) (hl : q.1.length < 4294967281) (hw : Lw w) :
    Calls Tryz.prog 97 #[.pointer (some ⟨p, 0, none⟩), .int .i64 most] w (RdV (.string ⟨(Bd.sText most q).1.toArray⟩) w p (Bd.sText most q).2) := by
  obtain ⟨s, b⟩ := q
  cases b with
  | true => exact (text_bad p most s w h).mono fun e w' ⟨he, hw'⟩ => ⟨he, hw' ▸ h, hw' ▸ Keeps.refl _ _⟩
  | false =>
    have hl' : s.length < 4294967281 := hl
    have HC := Lib.hid (cut_any s 58 hl w hw)
    have hcc := Bd.cut_cases s 58
    cases hr : Bd.rdText most s with
    | some x =>
      obtain ⟨t, r⟩ := x
      obtain ⟨hm, hs⟩ := Bd.rdText_some hr
      have e : Bd.sText most (s, false) = (t, (r, false)) := by simp [Bd.sText, hr]
      rw [e]
      have htl : t.length ≤ s.length := by rw [hs]; simp [Bd.bText]; omega
      have hin : Bd.inR (t.length : Int) := by unfold Bd.inR; omega
      rw [hs, Bd.cut_text, ← hs] at HC
      exact text_yes p most s (t ++ r) (Lib.itoa (t.length : Int)) t r w h hw (by have := Lib.itoa_length_le (t.length : Int) hin.1 hin.2; omega) (Bd.atoi_itoa hin) rfl hm rfl HC
    | none =>
      have e : Bd.sText most (s, false) = ([], (s, true)) := by simp [Bd.sText, hr]
      rw [e]
      have hd : (Lib.cut s [58]).1.length ≤ 281474976710656 := by
        have h2 : (Lib.cut s [58]).1.length ≤ s.length := by
          rcases hcc with ⟨_, e⟩ | ⟨a, b, _, e1, e⟩
          · rw [e]; exact Nat.le_refl _
          · rw [e, e1]; simp
        omega
      unfold Bd.rdText at hr
      clear hcc
      generalize Lib.cut s [58] = k at *
      obtain ⟨d, rest, ok⟩ := k
      simp only at *
      cases ok with
      | false => exact text_no1 p most s rest d w h hw hd HC
      | true =>
        by_cases hv : ∃ v, Lib.atoiAll d = .ok v
        · obtain ⟨v, hv⟩ := hv
          rw [hv] at hr
          by_cases hi : Lib.itoa v = d
          · by_cases h0 : v < 0
            · exact text_no4 p most s rest d w h hw hd v hv hi h0 HC
            · refine text_no5 p most s rest d w h hw hd v hv hi (by omega) ?_ HC
              by_cases h1 : v ≤ most
              · by_cases h2 : v ≤ (rest.length : Int)
                · simp [hi, h1, h2, show 0 ≤ v by omega] at hr
                · exact .inr (by omega)
              · exact .inl (by omega)
          · exact text_no3 p most s rest d w h hw hd v hv hi HC
        · exact text_no2 p most s rest d w h hw hd (fun v hv' => hv ⟨v, hv'⟩) HC
theorem text_nil (most : Int) (w : World) : Calls Tryz.prog 97 #[.pointer none, .int .i64 most] w fun e w' => e = .returned (.string ⟨([] : List UInt8).toArray⟩) ∧ w = w' := by
  go_enter Tryz.func97, Tryz.ntmps97
  go_wp2_with fail
  go_step3
  go_wp2_with fail
  refine (ready_nil _).mono ?_
  rintro e w1 ⟨rfl, rfl⟩
  go_wp2
  rw [Exit.noGoto_ret]
  go_ret
  exact ⟨rfl, rfl⟩

end Go.Proofs.YtbljbdjmgogknaaGreatDoor
