/-
  Bwc / Bwd / Bwe / Bwx: texts of one proof, one behind the other.
  Conditions: none of its own.
-/
import Derived.Test.YtjfpbeccpcbpcaaGreatDoorZab
import Derived.Test.YtjfpbeccpcbpcaaGreatDoorZae
set_option linter.unusedVariables false
set_option linter.unusedSimpArgs false
set_option maxHeartbeats 400000
namespace Go.Proofs.YtjfpbeccpcbpcaaGreatDoor
open Go.RowKit
theorem cut_any (l : List UInt8) (c : UInt8) (hl : l.length < 4294967281) (w : World) (hw : Lw w) : Calls Tryz.prog 136 #[.string ⟨l.toArray⟩, .string ⟨#[c]⟩] w fun e w' =>
  e = .returned (.tuple #[.string ⟨(Lib.cut l [c]).1.toArray⟩, .string ⟨(Lib.cut l [c]).2.1.toArray⟩, .bool (Lib.cut l [c]).2.2]) ∧ Below w.heap.size w w' := by
 obtain ⟨m, hm⟩ := hw.mx
 refine (Tryz.strings_Cut ⟨l.toArray⟩ ⟨#[c]⟩ m w hl hm).mono ?_
 rintro e w' ⟨he, n, rfl⟩
 exact ⟨he, below_drewN (Below.refl _ _) n⟩
theorem atoi_ok (l : List UInt8) (v : Int) (h : Lib.atoiAll l = .ok v) (hl : l.length ≤ 281474976710656) (w : World) : Calls Tryz.prog 137 #[.string ⟨l.toArray⟩] w fun e w' =>
  e = .returned (.tuple #[.int .i64 v, .nilIface]) ∧ Below w.heap.size w w' := by
 refine (Tryz.strconv_Atoi_ok ⟨l.toArray⟩ (by show l.length ≤ _; omega) v h w).mono ?_
 rintro e w' ⟨he, rfl | ⟨t, rfl⟩⟩
 ·exact ⟨he, Below.refl _ _⟩
 ·exact ⟨he, below_bytesWorld _ _ _⟩
def AtoiNo (w : World) (e : Ending) (w' : World) : Prop := ∃ m N, e = .returned (.tuple #[.int .i64 m, .iface 175 (.pointer (some ⟨N, 0, none⟩))]) ∧ Below w.heap.size w w'
theorem atoi_no (l : List UInt8) (h : ∀ v, Lib.atoiAll l ≠ .ok v) (hl : l.length ≤ 281474976710656) (w : World) (hw : Lw w) : Calls Tryz.prog 137 #[.string ⟨l.toArray⟩] w (AtoiNo w) := by
 obtain ⟨t2, p2, h2⟩ := hw.syn
 obtain ⟨t3, p3, h3⟩ := hw.rng
 cases hh : Lib.atoiAll l
 ·exact absurd hh (h _)
 ·refine (Any.strconv_Atoi_syntax_var Tryz.laysC172 ⟨l.toArray⟩ hl hh t2 p2 w h2).mono ?_
  rintro e w' ⟨N, he, _, _, hb⟩
  exact ⟨_, N, he, hb⟩
 ·refine (Any.strconv_Atoi_range_var Tryz.laysC172 ⟨l.toArray⟩ hl hh t3 p3 w h3).mono ?_
  rintro e w' ⟨N, he, _, _, hb⟩
  exact ⟨_, N, he, hb⟩
theorem int_bad (p : Nat) (s : List UInt8) (w : World) (h : Rd w p (s, true)) : Calls Tryz.prog 111 #[.pointer (some ⟨p, 0, none⟩)] w fun e w' => e = .returned (.int .i64 0) ∧ w = w' := by
 have H := hq' h
 clear h
 go_enter Tryz.func111, Tryz.ntmps111
 go_wp2_with fail
 go_step3
 go_wp2_with fail
 refine (ready_any _ _ _ H.out).mono ?_
 rintro e w1 ⟨rfl, rfl⟩
 go_wp2
 rw [Exit.noGoto_ret]
 go_ret
 exact ⟨rfl, rfl⟩
theorem int_yes (p : Nat) (s r : List UInt8) (n : Int) (hn : Bd.inR n) (w : World) (h : Rd w p (s, false)) (hl : s.length < 4294967281) (hs : s = Bd.bInt n ++ r) (hw : Lw w) :
  Calls Tryz.prog 111 #[.pointer (some ⟨p, 0, none⟩)] w (RdV (.int .i64 n) w p (r, false)) := by
 have H := hq' h
 have HW := hq' hw
 have HC := hq' (cut_any s 101 hl w hw)
 rw [hs, Bd.cut_int, ← hs] at HC
 have hli : (Lib.itoa n).length ≤ 21 := Lib.itoa_length_le n hn.1 hn.2
 have hpre : Lib.hasPrefix (105 :: Lib.itoa n) [105] = true := by rw [Bd.pre_one]; simp
 have HP : Hid (∀ w, Calls Tryz.prog 135 #[.string ⟨(105 :: Lib.itoa n).toArray⟩, .string ⟨#[105]⟩] w fun e w' => e = .returned (.tuple #[.string ⟨(Lib.itoa n).toArray⟩, .bool true]) ∧ w = w') := fun w => by
  have := cutPrefix_any (105 :: Lib.itoa n) 105 w
  rwa [Bd.trim_hit, hpre] at this
 have HA : Hid (∀ w, Calls Tryz.prog 137 #[.string ⟨(Lib.itoa n).toArray⟩] w fun e w' => e = .returned (.tuple #[.int .i64 n, .nilIface]) ∧ Below w.heap.size w w') := fun w => atoi_ok _ n (Bd.atoi_itoa hn) (by omega) w
 have HI : Hid (∀ w, Lw w → Calls Tryz.prog 125 #[.int .i64 n] w fun e w' => e = .returned (.string ⟨(Lib.itoa n).toArray⟩) ∧ Below w.heap.size w w') := fun w hw => itoa_any n hn w hw
 obtain ⟨c0, c1⟩ := h.cells
 clear h hw hl hs hpre hli
 generalize Lib.itoa n = d at HC HP HA HI
 go_enter Tryz.func111, Tryz.ntmps111
 go_wp2_with fail
 go_step3
 go_wp2_with fail
 refine (ready_any _ _ _ H.out).mono ?_
 rintro e w1 ⟨rfl, rfl⟩
 go_wp2_with fail
 refine HC.out.mono ?_
 rintro e w1 ⟨rfl, hb1⟩
 have HB1 := hq' hb1
 clear hb1 c0 c1
 go_wp2_with fail
 refine (HP.out _).mono ?_
 rintro e w2 ⟨rfl, rfl⟩
 go_wp2_with fail
 refine (HA.out _).mono ?_
 rintro e w2 ⟨rfl, hb2⟩
 have HB2 := hq' (bt HB1.out hb2)
 clear hb2 HB1
 go_wp2_with fail
 refine (HI.out _ (HW.out.below HB2.out)).mono ?_
 rintro e w3 ⟨rfl, hb3⟩
 have HB3 := hq' (bt HB2.out hb3)
 clear hb3 HB2
 have HR := hq' (H.out.below HB3.out)
 obtain ⟨c0, c1⟩ := HR.out.cells
 obtain ⟨f0, f1⟩ := HR.out.free
 go_wp2
 rw [Exit.noGoto_ret]
 go_ret
 exact ⟨rfl, HR.out.set0 r, (Keeps.below _ HB3.out).trans (keepsP _ _ _ _)⟩
/-! ### Where it goes wrong -/
def AtoiAny (w : World) (e : Ending) (w' : World) : Prop := ∃ m ev, e = .returned (.tuple #[.int .i64 m, ev]) ∧ Below w.heap.size w w'
theorem atoi_any (l : List UInt8) (hl : l.length ≤ 281474976710656) (w : World) (hw : Lw w) : Calls Tryz.prog 137 #[.string ⟨l.toArray⟩] w (AtoiAny w) := by
 by_cases h : ∃ v, Lib.atoiAll l = .ok v
 ·obtain ⟨v, h⟩ := h
  exact (atoi_ok l v h hl w).mono fun e w' ⟨he, hb⟩ => ⟨_, _, he, hb⟩
 ·exact (atoi_no l (fun v hv => h ⟨v, hv⟩) hl w hw).mono fun e w' ⟨m, N, he, hb⟩ => ⟨_, _, he, hb⟩
theorem str_ne {a b : List UInt8} (h : a ≠ b) : (a == b) = false := beq_eq_false_iff_ne.2 h
theorem int_no1 (p : Nat) (s word rest d : List UInt8) (w : World) (h : Rd w p (s, false)) (hw : Lw w) (hd : d.length ≤ 281474976710656) (is : Bool)
  (HC : Hid (Calls Tryz.prog 136 #[.string ⟨s.toArray⟩, .string ⟨#[101]⟩] w fun e w' => e = .returned (.tuple #[.string ⟨word.toArray⟩, .string ⟨rest.toArray⟩, .bool false]) ∧ Below w.heap.size w w'))
  (HP : Hid (∀ w, Calls Tryz.prog 135 #[.string ⟨word.toArray⟩, .string ⟨#[105]⟩] w fun e w' => e = .returned (.tuple #[.string ⟨d.toArray⟩, .bool is]) ∧ w = w')) :
  Calls Tryz.prog 111 #[.pointer (some ⟨p, 0, none⟩)] w (RdV (.int .i64 0) w p (s, true)) := by
 have H := hq' h
 have HW := hq' hw
 obtain ⟨c0, c1⟩ := h.cells
 clear h hw
 have HA : Hid (∀ w, Lw w → Calls Tryz.prog 137 #[.string ⟨d.toArray⟩] w (AtoiAny w)) := fun w hw => atoi_any d hd w hw
 go_enter Tryz.func111, Tryz.ntmps111
 go_wp2_with fail
 refine wp_scope_fwd 0 rfl ?_
 go_wp2_with fail
 refine (ready_any _ _ _ H.out).mono ?_
 rintro e w1 ⟨rfl, rfl⟩
 go_wp2_with fail
 refine HC.out.mono ?_
 rintro e w1 ⟨rfl, hb1⟩
 have HB1 := hq' hb1
 clear hb1 c0 c1
 go_wp2_with fail
 refine (HP.out _).mono ?_
 rintro e w2 ⟨rfl, rfl⟩
 go_wp2_with fail
 refine (HA.out _ (HW.out.below HB1.out)).mono ?_
 rintro e w2 ⟨m, ev, rfl, hb2⟩
 have HB2 := hq' (bt HB1.out hb2)
 clear hb2 HB1
 have HR := hq' (H.out.below HB2.out)
 obtain ⟨c0, c1⟩ := HR.out.cells
 obtain ⟨f0, f1⟩ := HR.out.free
 go_wp2
 go_step3
 refine ⟨rfl, ?_⟩
 go_wp2
 rw [Exit.noGoto_ret]
 go_ret
 exact ⟨rfl, HR.out.set1 true, (Keeps.below _ HB2.out).trans (keepsP _ _ _ _)⟩
theorem int_no2 (p : Nat) (s word rest d : List UInt8) (w : World) (h : Rd w p (s, false)) (hw : Lw w) (hd : d.length ≤ 281474976710656)
  (HC : Hid (Calls Tryz.prog 136 #[.string ⟨s.toArray⟩, .string ⟨#[101]⟩] w fun e w' => e = .returned (.tuple #[.string ⟨word.toArray⟩, .string ⟨rest.toArray⟩, .bool true]) ∧ Below w.heap.size w w'))
  (HP : Hid (∀ w, Calls Tryz.prog 135 #[.string ⟨word.toArray⟩, .string ⟨#[105]⟩] w fun e w' => e = .returned (.tuple #[.string ⟨d.toArray⟩, .bool false]) ∧ w = w')) :
  Calls Tryz.prog 111 #[.pointer (some ⟨p, 0, none⟩)] w (RdV (.int .i64 0) w p (s, true)) := by
 have H := hq' h
 have HW := hq' hw
 obtain ⟨c0, c1⟩ := h.cells
 clear h hw
 have HA : Hid (∀ w, Lw w → Calls Tryz.prog 137 #[.string ⟨d.toArray⟩] w (AtoiAny w)) := fun w hw => atoi_any d hd w hw
 go_enter Tryz.func111, Tryz.ntmps111
 go_wp2_with fail
 refine wp_scope_fwd 0 rfl ?_
 go_wp2_with fail
 refine (ready_any _ _ _ H.out).mono ?_
 rintro e w1 ⟨rfl, rfl⟩
 go_wp2_with fail
 refine HC.out.mono ?_
 rintro e w1 ⟨rfl, hb1⟩
 have HB1 := hq' hb1
 clear hb1 c0 c1
 go_wp2_with fail
 refine (HP.out _).mono ?_
 rintro e w2 ⟨rfl, rfl⟩
 go_wp2_with fail
 refine (HA.out _ (HW.out.below HB1.out)).mono ?_
 rintro e w2 ⟨m, ev, rfl, hb2⟩
 have HB2 := hq' (bt HB1.out hb2)
 clear hb2 HB1
 have HR := hq' (H.out.below HB2.out)
 obtain ⟨c0, c1⟩ := HR.out.cells
 obtain ⟨f0, f1⟩ := HR.out.free
 go_wp2
 go_step3
 refine ⟨rfl, ?_⟩
 go_wp2
 rw [Exit.noGoto_ret]
 go_ret
 exact ⟨rfl, HR.out.set1 true, (Keeps.below _ HB2.out).trans (keepsP _ _ _ _)⟩
theorem int_no3 (p : Nat) (s word rest d : List UInt8) (w : World) (h : Rd w p (s, false)) (hw : Lw w) (hd : d.length ≤ 281474976710656) (hno : ∀ v, Lib.atoiAll d ≠ .ok v)
  (HC : Hid (Calls Tryz.prog 136 #[.string ⟨s.toArray⟩, .string ⟨#[101]⟩] w fun e w' => e = .returned (.tuple #[.string ⟨word.toArray⟩, .string ⟨rest.toArray⟩, .bool true]) ∧ Below w.heap.size w w'))
  (HP : Hid (∀ w, Calls Tryz.prog 135 #[.string ⟨word.toArray⟩, .string ⟨#[105]⟩] w fun e w' => e = .returned (.tuple #[.string ⟨d.toArray⟩, .bool true]) ∧ w = w')) :
  Calls Tryz.prog 111 #[.pointer (some ⟨p, 0, none⟩)] w (RdV (.int .i64 0) w p (s, true)) := by
 have H := hq' h
 have HW := hq' hw
 obtain ⟨c0, c1⟩ := h.cells
 clear h hw
 have HA : Hid (∀ w, Lw w → Calls Tryz.prog 137 #[.string ⟨d.toArray⟩] w (AtoiNo w)) := fun w hw => atoi_no d hno hd w hw
 go_enter Tryz.func111, Tryz.ntmps111
 go_wp2_with fail
 refine wp_scope_fwd 0 rfl ?_
 go_wp2_with fail
 refine (ready_any _ _ _ H.out).mono ?_
 rintro e w1 ⟨rfl, rfl⟩
 go_wp2_with fail
 refine HC.out.mono ?_
 rintro e w1 ⟨rfl, hb1⟩
 have HB1 := hq' hb1
 clear hb1 c0 c1
 go_wp2_with fail
 refine (HP.out _).mono ?_
 rintro e w2 ⟨rfl, rfl⟩
 go_wp2_with fail
 refine (HA.out _ (HW.out.below HB1.out)).mono ?_
 rintro e w2 ⟨m, N, rfl, hb2⟩
 have HB2 := hq' (bt HB1.out hb2)
 clear hb2 HB1
 have HR := hq' (H.out.below HB2.out)
 obtain ⟨c0, c1⟩ := HR.out.cells
 obtain ⟨f0, f1⟩ := HR.out.free
 go_wp2
 go_step3
 refine ⟨rfl, ?_⟩
 go_wp2
 rw [Exit.noGoto_ret]
 go_ret
 exact ⟨rfl, HR.out.set1 true, (Keeps.below _ HB2.out).trans (keepsP _ _ _ _)⟩
theorem int_no4 (p : Nat) (s word rest d : List UInt8) (w : World) (h : Rd w p (s, false)) (hw : Lw w) (hd : d.length ≤ 281474976710656) (v : Int) (hv : Lib.atoiAll d = .ok v) (hne : Lib.itoa v ≠ d)
  (HC : Hid (Calls Tryz.prog 136 #[.string ⟨s.toArray⟩, .string ⟨#[101]⟩] w fun e w' => e = .returned (.tuple #[.string ⟨word.toArray⟩, .string ⟨rest.toArray⟩, .bool true]) ∧ Below w.heap.size w w'))
  (HP : Hid (∀ w, Calls Tryz.prog 135 #[.string ⟨word.toArray⟩, .string ⟨#[105]⟩] w fun e w' => e = .returned (.tuple #[.string ⟨d.toArray⟩, .bool true]) ∧ w = w')) :
  Calls Tryz.prog 111 #[.pointer (some ⟨p, 0, none⟩)] w (RdV (.int .i64 0) w p (s, true)) := by
 have H := hq' h
 have HW := hq' hw
 obtain ⟨c0, c1⟩ := h.cells
 clear h hw
 have hn := Lib.atoiAll_bounds hv
 have HA : Hid (∀ w, Calls Tryz.prog 137 #[.string ⟨d.toArray⟩] w fun e w' => e = .returned (.tuple #[.int .i64 v, .nilIface]) ∧ Below w.heap.size w w') := fun w => atoi_ok d v hv hd w
 have HI : Hid (∀ w, Lw w → Calls Tryz.prog 125 #[.int .i64 v] w fun e w' => e = .returned (.string ⟨(Lib.itoa v).toArray⟩) ∧ Below w.heap.size w w') := fun w hw => itoa_any v hn w hw
 have hne' := str_ne hne
 clear hv hn hne
 generalize Lib.itoa v = t at HI hne'
 go_enter Tryz.func111, Tryz.ntmps111
 go_wp2_with fail
 refine wp_scope_fwd 0 rfl ?_
 go_wp2_with fail
 refine (ready_any _ _ _ H.out).mono ?_
 rintro e w1 ⟨rfl, rfl⟩
 go_wp2_with fail
 refine HC.out.mono ?_
 rintro e w1 ⟨rfl, hb1⟩
 have HB1 := hq' hb1
 clear hb1 c0 c1
 go_wp2_with fail
 refine (HP.out _).mono ?_
 rintro e w2 ⟨rfl, rfl⟩
 go_wp2_with fail
 refine (HA.out _).mono ?_
 rintro e w2 ⟨rfl, hb2⟩
 have HB2 := hq' (bt HB1.out hb2)
 clear hb2 HB1
 go_wp2_with fail
 refine (HI.out _ (HW.out.below HB2.out)).mono ?_
 rintro e w3 ⟨rfl, hb3⟩
 have HB3 := hq' (bt HB2.out hb3)
 clear hb3 HB2
 have HB2 := HB3
 clear HB3
 have HR := hq' (H.out.below HB2.out)
 obtain ⟨c0, c1⟩ := HR.out.cells
 obtain ⟨f0, f1⟩ := HR.out.free
 go_wp2
 go_step3
 refine ⟨rfl, ?_⟩
 go_wp2
 rw [Exit.noGoto_ret]
 go_ret
 exact ⟨rfl, HR.out.set1 true, (Keeps.below _ HB2.out).trans (keepsP _ _ _ _)⟩
theorem int_any (p : Nat) (q : Bd.St) (w : World) (h : Rd w p q) (hl : q.1.length < 4294967281) (hw : Lw w) :
  Calls Tryz.prog 111 #[.pointer (some ⟨p, 0, none⟩)] w (RdV (.int .i64 (Bd.sInt q).1) w p (Bd.sInt q).2) := by
 obtain ⟨s, b⟩ := q
 cases b with
 | true => exact (int_bad p s w h).mono fun e w' ⟨he, hw'⟩ => ⟨he, hw' ▸ h, hw' ▸ Keeps.refl _ _⟩
 | false =>
  cases hr : Bd.rdInt s with
  | some x =>
   obtain ⟨n, r⟩ := x
   obtain ⟨hn, hs⟩ := Bd.rdInt_some hr
   have e : Bd.sInt (s, false) = (n, (r, false)) := by simp [Bd.sInt, hr]
   rw [e]
   exact int_yes p s r n hn w h hl hs hw
  | none =>
   have e : Bd.sInt (s, false) = (0, (s, true)) := by simp [Bd.sInt, hr]
   rw [e]
   have hl' : s.length < 4294967281 := hl
   have HC := hq' (cut_any s 101 hl w hw)
   have HP : Hid (∀ w, Calls Tryz.prog 135 #[.string ⟨((Lib.cut s [101]).1).toArray⟩, .string ⟨#[105]⟩] w fun e w' => e = .returned (.tuple #[.string ⟨(Lib.trimPrefix (Lib.cut s [101]).1 [105]).toArray⟩, .bool (Lib.hasPrefix (Lib.cut s [101]).1 [105])]) ∧ w = w') := fun w => cutPrefix_any _ 105 w
   have hd : (Lib.trimPrefix (Lib.cut s [101]).1 [105]).length ≤ 281474976710656 := by
    have h1 := Lib.trimPrefix_le (Lib.cut s [101]).1 [105]
    have h2 : (Lib.cut s [101]).1.length ≤ s.length := by
     rcases Bd.cut_cases s 101 with ⟨_, e⟩ | ⟨a, b, _, e1, e⟩
     ·rw [e]; exact Nat.le_refl _
     ·rw [e, e1]; simp
    omega
   unfold Bd.rdInt at hr
   generalize Lib.trimPrefix (Lib.cut s [101]).1 [105] = d at *
   generalize Lib.hasPrefix (Lib.cut s [101]).1 [105] = is at *
   generalize Lib.cut s [101] = k at *
   obtain ⟨word, rest, ok⟩ := k
   simp only at *
   cases ok with
   | false => exact int_no1 p s word rest d w h hw hd is HC HP
   | true =>
    cases is with
    | false => exact int_no2 p s word rest d w h hw hd HC HP
    | true =>
     by_cases hv : ∃ v, Lib.atoiAll d = .ok v
     ·obtain ⟨v, hv⟩ := hv
      rw [hv] at hr
      refine int_no4 p s word rest d w h hw hd v hv ?_ HC HP
      intro he
      simp [he] at hr
     ·exact int_no3 p s word rest d w h hw hd (fun v hv' => hv ⟨v, hv'⟩) HC HP
theorem text_bad (p : Nat) (most : Int) (s : List UInt8) (w : World) (h : Rd w p (s, true)) :
  Calls Tryz.prog 116 #[.pointer (some ⟨p, 0, none⟩), .int .i64 most] w fun e w' => e = .returned (.string ⟨([] : List UInt8).toArray⟩) ∧ w = w' := by
 have H := hq' h
 clear h
 go_enter Tryz.func116, Tryz.ntmps116
 go_wp2_with fail
 go_step3
 go_wp2_with fail
 refine (ready_any _ _ _ H.out).mono ?_
 rintro e w1 ⟨rfl, rfl⟩
 go_wp2
 rw [Exit.noGoto_ret]
 go_ret
 exact ⟨rfl, rfl⟩
theorem text_yes (p : Nat) (most : Int) (s rest d t r : List UInt8) (w : World) (h : Rd w p (s, false)) (hw : Lw w) (hd : d.length ≤ 281474976710656) (hv : Lib.atoiAll d = .ok (t.length : Int)) (hi : Lib.itoa (t.length : Int) = d) (hm : (t.length : Int) ≤ most) (hr : rest = t ++ r) (HC : Hid (Calls Tryz.prog 136 #[.string ⟨s.toArray⟩, .string ⟨#[58]⟩] w fun e w' => e = .returned (.tuple #[.string ⟨d.toArray⟩, .string ⟨rest.toArray⟩, .bool true]) ∧ Below w.heap.size w w')) :
  Calls Tryz.prog 116 #[.pointer (some ⟨p, 0, none⟩), .int .i64 most] w (RdV (.string ⟨t.toArray⟩) w p (r, false)) := by
 have H := hq' h
 have HW := hq' hw
 obtain ⟨c0, c1⟩ := h.cells
 clear h hw
 have hn := Lib.atoiAll_bounds hv
 have HA : Hid (∀ w, Calls Tryz.prog 137 #[.string ⟨d.toArray⟩] w fun e w' => e = .returned (.tuple #[.int .i64 (t.length : Int), .nilIface]) ∧ Below w.heap.size w w') := fun w => atoi_ok d (t.length : Int) hv hd w
 have HI : Hid (∀ w, Lw w → Calls Tryz.prog 125 #[.int .i64 (t.length : Int)] w fun e w' => e = .returned (.string ⟨(Lib.itoa (t.length : Int)).toArray⟩) ∧ Below w.heap.size w w') := fun w hw => itoa_any (t.length : Int) hn w hw
 have hs1 := str_from (P := Tryz.prog) (t ++ r) t.length t.length rfl (by simp) 9 .i64 Tryz.underlying9
 have hs2 := str_to (P := Tryz.prog) (t ++ r) t.length t.length .i64 rfl (by simp) 9 Tryz.underlying9
 rw [List.drop_left] at hs1
 rw [List.take_left] at hs2
 rw [← hr] at hs1 hs2
 rw [hi] at HI
 have hle : t.length ≤ rest.length := by rw [hr]; simp
 have heq : (d == d) = true := by simp
 clear hv hi hn hr
 generalize t.length = k at *
 go_enter Tryz.func116, Tryz.ntmps116
 go_wp2_with fail
 go_step3
 go_wp2_with fail
 refine (ready_any _ _ _ H.out).mono ?_
 rintro e w1 ⟨rfl, rfl⟩
 go_wp2_with fail
 refine HC.out.mono ?_
 rintro e w1 ⟨rfl, hb1⟩
 have HB1 := hq' hb1
 clear hb1 c0 c1
 go_wp2_with fail
 refine (HA.out _).mono ?_
 rintro e w2 ⟨rfl, hb2⟩
 have HB2 := hq' (bt HB1.out hb2)
 clear hb2 HB1
 go_wp2_with fail
 refine (HI.out _ (HW.out.below HB2.out)).mono ?_
 rintro e w3 ⟨rfl, hb3⟩
 have HB3 := hq' (bt HB2.out hb3)
 clear hb3 HB2
 have HB2 := HB3
 clear HB3
 have HR := hq' (H.out.below HB2.out)
 obtain ⟨c0, c1⟩ := HR.out.cells
 obtain ⟨f0, f1⟩ := HR.out.free
 go_wp2
 rw [Exit.noGoto_ret]
 go_ret
 exact ⟨rfl, HR.out.set0 r, (Keeps.below _ HB2.out).trans (keepsP _ _ _ _)⟩
theorem text_no1 (p : Nat) (most : Int) (s rest d : List UInt8) (w : World) (h : Rd w p (s, false)) (hw : Lw w) (hd : d.length ≤ 281474976710656) (HC : Hid (Calls Tryz.prog 136 #[.string ⟨s.toArray⟩, .string ⟨#[58]⟩] w fun e w' => e = .returned (.tuple #[.string ⟨d.toArray⟩, .string ⟨rest.toArray⟩, .bool false]) ∧ Below w.heap.size w w')) :
  Calls Tryz.prog 116 #[.pointer (some ⟨p, 0, none⟩), .int .i64 most] w (RdV (.string ⟨([] : List UInt8).toArray⟩) w p (s, true)) := by
 have H := hq' h
 have HW := hq' hw
 obtain ⟨c0, c1⟩ := h.cells
 clear h hw
 have HA : Hid (∀ w, Lw w → Calls Tryz.prog 137 #[.string ⟨d.toArray⟩] w (AtoiAny w)) := fun w hw => atoi_any d hd w hw
 go_enter Tryz.func116, Tryz.ntmps116
 go_wp2_with fail
 refine wp_scope_fwd 0 rfl ?_
 go_wp2_with fail
 refine (ready_any _ _ _ H.out).mono ?_
 rintro e w1 ⟨rfl, rfl⟩
 go_wp2_with fail
 refine HC.out.mono ?_
 rintro e w1 ⟨rfl, hb1⟩
 have HB1 := hq' hb1
 clear hb1 c0 c1
 go_wp2_with fail
 refine (HA.out _ (HW.out.below HB1.out)).mono ?_
 rintro e w2 ⟨m, ev, rfl, hb2⟩
 have HB2 := hq' (bt HB1.out hb2)
 clear hb2 HB1
 have HR := hq' (H.out.below HB2.out)
 obtain ⟨c0, c1⟩ := HR.out.cells
 obtain ⟨f0, f1⟩ := HR.out.free
 go_wp2
 go_step3
 refine ⟨rfl, ?_⟩
 go_wp2
 rw [Exit.noGoto_ret]
 go_ret
 exact ⟨rfl, HR.out.set1 true, (Keeps.below _ HB2.out).trans (keepsP _ _ _ _)⟩
theorem text_no2 (p : Nat) (most : Int) (s rest d : List UInt8) (w : World) (h : Rd w p (s, false)) (hw : Lw w) (hd : d.length ≤ 281474976710656) (hno : ∀ v, Lib.atoiAll d ≠ .ok v) (HC : Hid (Calls Tryz.prog 136 #[.string ⟨s.toArray⟩, .string ⟨#[58]⟩] w fun e w' => e = .returned (.tuple #[.string ⟨d.toArray⟩, .string ⟨rest.toArray⟩, .bool true]) ∧ Below w.heap.size w w')) :
  Calls Tryz.prog 116 #[.pointer (some ⟨p, 0, none⟩), .int .i64 most] w (RdV (.string ⟨([] : List UInt8).toArray⟩) w p (s, true)) := by
 have H := hq' h
 have HW := hq' hw
 obtain ⟨c0, c1⟩ := h.cells
 clear h hw
 have HA : Hid (∀ w, Lw w → Calls Tryz.prog 137 #[.string ⟨d.toArray⟩] w (AtoiNo w)) := fun w hw => atoi_no d hno hd w hw
 go_enter Tryz.func116, Tryz.ntmps116
 go_wp2_with fail
 refine wp_scope_fwd 0 rfl ?_
 go_wp2_with fail
 refine (ready_any _ _ _ H.out).mono ?_
 rintro e w1 ⟨rfl, rfl⟩
 go_wp2_with fail
 refine HC.out.mono ?_
 rintro e w1 ⟨rfl, hb1⟩
 have HB1 := hq' hb1
 clear hb1 c0 c1
 go_wp2_with fail
 refine (HA.out _ (HW.out.below HB1.out)).mono ?_
 rintro e w2 ⟨m, N, rfl, hb2⟩
 have HB2 := hq' (bt HB1.out hb2)
 clear hb2 HB1
 have HR := hq' (H.out.below HB2.out)
 obtain ⟨c0, c1⟩ := HR.out.cells
 obtain ⟨f0, f1⟩ := HR.out.free
 go_wp2
 go_step3
 refine ⟨rfl, ?_⟩
 go_wp2
 rw [Exit.noGoto_ret]
 go_ret
 exact ⟨rfl, HR.out.set1 true, (Keeps.below _ HB2.out).trans (keepsP _ _ _ _)⟩
theorem text_no3 (p : Nat) (most : Int) (s rest d : List UInt8) (w : World) (h : Rd w p (s, false)) (hw : Lw w) (hd : d.length ≤ 281474976710656) (v : Int) (hv : Lib.atoiAll d = .ok v) (hne : Lib.itoa v ≠ d) (HC : Hid (Calls Tryz.prog 136 #[.string ⟨s.toArray⟩, .string ⟨#[58]⟩] w fun e w' => e = .returned (.tuple #[.string ⟨d.toArray⟩, .string ⟨rest.toArray⟩, .bool true]) ∧ Below w.heap.size w w')) :
  Calls Tryz.prog 116 #[.pointer (some ⟨p, 0, none⟩), .int .i64 most] w (RdV (.string ⟨([] : List UInt8).toArray⟩) w p (s, true)) := by
 have H := hq' h
 have HW := hq' hw
 obtain ⟨c0, c1⟩ := h.cells
 clear h hw
 have hn := Lib.atoiAll_bounds hv
 have HA : Hid (∀ w, Calls Tryz.prog 137 #[.string ⟨d.toArray⟩] w fun e w' => e = .returned (.tuple #[.int .i64 v, .nilIface]) ∧ Below w.heap.size w w') := fun w => atoi_ok d v hv hd w
 have HI : Hid (∀ w, Lw w → Calls Tryz.prog 125 #[.int .i64 v] w fun e w' => e = .returned (.string ⟨(Lib.itoa v).toArray⟩) ∧ Below w.heap.size w w') := fun w hw => itoa_any v hn w hw
 have hne' := str_ne hne
 clear hv hn hne
 generalize Lib.itoa v = t at HI hne'
 go_enter Tryz.func116, Tryz.ntmps116
 go_wp2_with fail
 refine wp_scope_fwd 0 rfl ?_
 go_wp2_with fail
 refine (ready_any _ _ _ H.out).mono ?_
 rintro e w1 ⟨rfl, rfl⟩
 go_wp2_with fail
 refine HC.out.mono ?_
 rintro e w1 ⟨rfl, hb1⟩
 have HB1 := hq' hb1
 clear hb1 c0 c1
 go_wp2_with fail
 refine (HA.out _).mono ?_
 rintro e w2 ⟨rfl, hb2⟩
 have HB2 := hq' (bt HB1.out hb2)
 clear hb2 HB1
 go_wp2_with fail
 refine (HI.out _ (HW.out.below HB2.out)).mono ?_
 rintro e w3 ⟨rfl, hb3⟩
 have HB3 := hq' (bt HB2.out hb3)
 clear hb3 HB2
 have HB2 := HB3
 clear HB3
 have HR := hq' (H.out.below HB2.out)
 obtain ⟨c0, c1⟩ := HR.out.cells
 obtain ⟨f0, f1⟩ := HR.out.free
 go_wp2
 go_step3
 refine ⟨rfl, ?_⟩
 go_wp2
 rw [Exit.noGoto_ret]
 go_ret
 exact ⟨rfl, HR.out.set1 true, (Keeps.below _ HB2.out).trans (keepsP _ _ _ _)⟩
theorem text_no4 (p : Nat) (most : Int) (s rest d : List UInt8) (w : World) (h : Rd w p (s, false)) (hw : Lw w) (hd : d.length ≤ 281474976710656) (v : Int) (hv : Lib.atoiAll d = .ok v) (hi : Lib.itoa v = d) (h0 : v < 0) (HC : Hid (Calls Tryz.prog 136 #[.string ⟨s.toArray⟩, .string ⟨#[58]⟩] w fun e w' => e = .returned (.tuple #[.string ⟨d.toArray⟩, .string ⟨rest.toArray⟩, .bool true]) ∧ Below w.heap.size w w')) :
  Calls Tryz.prog 116 #[.pointer (some ⟨p, 0, none⟩), .int .i64 most] w (RdV (.string ⟨([] : List UInt8).toArray⟩) w p (s, true)) := by
 have H := hq' h
 have HW := hq' hw
 obtain ⟨c0, c1⟩ := h.cells
 clear h hw
 have hn := Lib.atoiAll_bounds hv
 have HA : Hid (∀ w, Calls Tryz.prog 137 #[.string ⟨d.toArray⟩] w fun e w' => e = .returned (.tuple #[.int .i64 v, .nilIface]) ∧ Below w.heap.size w w') := fun w => atoi_ok d v hv hd w
 have HI : Hid (∀ w, Lw w → Calls Tryz.prog 125 #[.int .i64 v] w fun e w' => e = .returned (.string ⟨(Lib.itoa v).toArray⟩) ∧ Below w.heap.size w w') := fun w hw => itoa_any v hn w hw
 rw [hi] at HI
 have heq : (d == d) = true := by simp
 clear hv hi hn
 go_enter Tryz.func116, Tryz.ntmps116
 go_wp2_with fail
 refine wp_scope_fwd 0 rfl ?_
 go_wp2_with fail
 refine (ready_any _ _ _ H.out).mono ?_
 rintro e w1 ⟨rfl, rfl⟩
 go_wp2_with fail
 refine HC.out.mono ?_
 rintro e w1 ⟨rfl, hb1⟩
 have HB1 := hq' hb1
 clear hb1 c0 c1
 go_wp2_with fail
 refine (HA.out _).mono ?_
 rintro e w2 ⟨rfl, hb2⟩
 have HB2 := hq' (bt HB1.out hb2)
 clear hb2 HB1
 go_wp2_with fail
 refine (HI.out _ (HW.out.below HB2.out)).mono ?_
 rintro e w3 ⟨rfl, hb3⟩
 have HB3 := hq' (bt HB2.out hb3)
 clear hb3 HB2
 have HB2 := HB3
 clear HB3
 have HR := hq' (H.out.below HB2.out)
 obtain ⟨c0, c1⟩ := HR.out.cells
 obtain ⟨f0, f1⟩ := HR.out.free
 go_wp2
 go_step3
 refine ⟨rfl, ?_⟩
 go_wp2
 rw [Exit.noGoto_ret]
 go_ret
 exact ⟨rfl, HR.out.set1 true, (Keeps.below _ HB2.out).trans (keepsP _ _ _ _)⟩
theorem text_no5 (p : Nat) (most : Int) (s rest d : List UInt8) (w : World) (h : Rd w p (s, false)) (hw : Lw w) (hd : d.length ≤ 281474976710656) (v : Int) (hv : Lib.atoiAll d = .ok v) (hi : Lib.itoa v = d) (h0 : 0 ≤ v) (hm : most < v ∨ (rest.length : Int) < v) (HC : Hid (Calls Tryz.prog 136 #[.string ⟨s.toArray⟩, .string ⟨#[58]⟩] w fun e w' => e = .returned (.tuple #[.string ⟨d.toArray⟩, .string ⟨rest.toArray⟩, .bool true]) ∧ Below w.heap.size w w')) :
  Calls Tryz.prog 116 #[.pointer (some ⟨p, 0, none⟩), .int .i64 most] w (RdV (.string ⟨([] : List UInt8).toArray⟩) w p (s, true)) := by
 have H := hq' h
 have HW := hq' hw
 obtain ⟨c0, c1⟩ := h.cells
 clear h hw
 have hn := Lib.atoiAll_bounds hv
 have HA : Hid (∀ w, Calls Tryz.prog 137 #[.string ⟨d.toArray⟩] w fun e w' => e = .returned (.tuple #[.int .i64 v, .nilIface]) ∧ Below w.heap.size w w') := fun w => atoi_ok d v hv hd w
 have HI : Hid (∀ w, Lw w → Calls Tryz.prog 125 #[.int .i64 v] w fun e w' => e = .returned (.string ⟨(Lib.itoa v).toArray⟩) ∧ Below w.heap.size w w') := fun w hw => itoa_any v hn w hw
 rw [hi] at HI
 have heq : (d == d) = true := by simp
 clear hv hi hn
 have hmm : min most (rest.length : Int) < v := by omega
 clear hm
 go_enter Tryz.func116, Tryz.ntmps116
 go_wp2_with fail
 refine wp_scope_fwd 0 rfl ?_
 go_wp2_with fail
 refine (ready_any _ _ _ H.out).mono ?_
 rintro e w1 ⟨rfl, rfl⟩
 go_wp2_with fail
 refine HC.out.mono ?_
 rintro e w1 ⟨rfl, hb1⟩
 have HB1 := hq' hb1
 clear hb1 c0 c1
 go_wp2_with fail
 refine (HA.out _).mono ?_
 rintro e w2 ⟨rfl, hb2⟩
 have HB2 := hq' (bt HB1.out hb2)
 clear hb2 HB1
 go_wp2_with fail
 refine (HI.out _ (HW.out.below HB2.out)).mono ?_
 rintro e w3 ⟨rfl, hb3⟩
 have HB3 := hq' (bt HB2.out hb3)
 clear hb3 HB2
 have HB2 := HB3
 clear HB3
 have HR := hq' (H.out.below HB2.out)
 obtain ⟨c0, c1⟩ := HR.out.cells
 obtain ⟨f0, f1⟩ := HR.out.free
 go_wp2
 go_step3
 refine ⟨rfl, ?_⟩
 go_wp2
 rw [Exit.noGoto_ret]
 go_ret
 exact ⟨rfl, HR.out.set1 true, (Keeps.below _ HB2.out).trans (keepsP _ _ _ _)⟩
theorem text_any (p : Nat) (most : Int) (q : Bd.St) (w : World) (h : Rd w p q) (hl : q.1.length < 4294967281) (hw : Lw w) :
  Calls Tryz.prog 116 #[.pointer (some ⟨p, 0, none⟩), .int .i64 most] w (RdV (.string ⟨(Bd.sText most q).1.toArray⟩) w p (Bd.sText most q).2) := by
 obtain ⟨s, b⟩ := q
 cases b with
 | true => exact (text_bad p most s w h).mono fun e w' ⟨he, hw'⟩ => ⟨he, hw' ▸ h, hw' ▸ Keeps.refl _ _⟩
 | false =>
  have hl' : s.length < 4294967281 := hl
  have HC := hq' (cut_any s 58 hl w hw)
  have hcc := Bd.cut_cases s 58
  cases hr : Bd.rdText most s with
  | some x =>
   obtain ⟨t, r⟩ := x
   obtain ⟨hm, hs⟩ := Bd.rdText_some hr
   have e : Bd.sText most (s, false) = (t, (r, false)) := by simp [Bd.sText, hr]
   rw [e]
   have htl : t.length ≤ s.length := by rw [hs]; simp [Bd.bText]; omega
   have hin : Bd.inR (t.length : Int) := by unfold Bd.inR; omega
   rw [hs, Bd.cut_text, ← hs] at HC
   exact text_yes p most s (t ++ r) (Lib.itoa (t.length : Int)) t r w h hw (by have := Lib.itoa_length_le (t.length : Int) hin.1 hin.2; omega) (Bd.atoi_itoa hin) rfl hm rfl HC
  | none =>
   have e : Bd.sText most (s, false) = ([], (s, true)) := by simp [Bd.sText, hr]
   rw [e]
   have hd : (Lib.cut s [58]).1.length ≤ 281474976710656 := by
    have h2 : (Lib.cut s [58]).1.length ≤ s.length := by
     rcases hcc with ⟨_, e⟩ | ⟨a, b, _, e1, e⟩
     ·rw [e]; exact Nat.le_refl _
     ·rw [e, e1]; simp
    omega
   unfold Bd.rdText at hr
   clear hcc
   generalize Lib.cut s [58] = k at *
   obtain ⟨d, rest, ok⟩ := k
   simp only at *
   cases ok with
   | false => exact text_no1 p most s rest d w h hw hd HC
   | true =>
    by_cases hv : ∃ v, Lib.atoiAll d = .ok v
    ·obtain ⟨v, hv⟩ := hv
     rw [hv] at hr
     by_cases hi : Lib.itoa v = d
     ·by_cases h0 : v < 0
      ·exact text_no4 p most s rest d w h hw hd v hv hi h0 HC
      ·refine text_no5 p most s rest d w h hw hd v hv hi (by omega) ?_ HC
       by_cases h1 : v ≤ most
       ·by_cases h2 : v ≤ (rest.length : Int)
        ·simp [hi, h1, h2, show 0 ≤ v by omega] at hr
        ·exact .inr (by omega)
       ·exact .inl (by omega)
     ·exact text_no3 p most s rest d w h hw hd v hv hi HC
    ·exact text_no2 p most s rest d w h hw hd (fun v hv' => hv ⟨v, hv'⟩) HC
theorem Rds.bel {w0 w w' : World} {p : Nat} {q : Bd.St} (h : Rds w p q w') (hb : Below w0.heap.size w0 w) (hp : w0.heap.size ≤ p) : Below w0.heap.size w0 w' :=
 hb.trans (h.2.toBelow hb.size (fun k hk e => by omega))
theorem sInt_len (q : Bd.St) : (Bd.sInt q).2.1.length ≤ q.1.length := by
 obtain ⟨s, b⟩ := q
 cases b with
 | true => simp [Bd.sInt]
 | false =>
  cases hr : Bd.rdInt s with
  | none => simp [Bd.sInt, hr]
  | some x =>
   obtain ⟨n, r⟩ := x
   have h := (Bd.rdInt_some hr).2
   have := congrArg List.length h
   simp only [List.length_append] at this
   simp only [Bd.sInt, hr]
   show r.length ≤ s.length
   omega
theorem sText_len (m : Int) (q : Bd.St) : (Bd.sText m q).2.1.length ≤ q.1.length := by
 obtain ⟨s, b⟩ := q
 cases b with
 | true => simp [Bd.sText]
 | false =>
  cases hr : Bd.rdText m s with
  | none => simp [Bd.sText, hr]
  | some x =>
   obtain ⟨n, r⟩ := x
   have h := (Bd.rdText_some hr).2
   have := congrArg List.length h
   simp only [List.length_append] at this
   simp only [Bd.sText, hr]
   show r.length ≤ s.length
   omega
theorem sText_le (m : Int) (q : Bd.St) : (Bd.sText m q).1.length ≤ q.1.length := by
 obtain ⟨s, b⟩ := q
 cases b with
 | true => simp [Bd.sText]
 | false =>
  cases hr : Bd.rdText m s with
  | none => simp [Bd.sText, hr]
  | some x =>
   obtain ⟨n, r⟩ := x
   have h := (Bd.rdText_some hr).2
   have := congrArg List.length h
   simp only [Bd.bText, List.length_append, List.length_cons] at this
   simp only [Bd.sText, hr]
   show n.length ≤ s.length
   omega
theorem sInt_inR (q : Bd.St) : Bd.inR (Bd.sInt q).1 := by
 obtain ⟨s, b⟩ := q
 cases b with
 | true => simp [Bd.sInt, Bd.inR]
 | false =>
  cases hr : Bd.rdInt s with
  | none => simp [Bd.sInt, hr, Bd.inR]
  | some x =>
   obtain ⟨n, r⟩ := x
   simp only [Bd.sInt, hr]
   exact (Bd.rdInt_some hr).1
theorem sSign_len (c : UInt8) (q : Bd.St) : (Bd.sSign c q).1.length ≤ q.1.length := by
 obtain ⟨s, b⟩ := q
 cases b with
 | true => simp [Bd.sSign]
 | false =>
  by_cases h : s.head? = some c
  ·cases s with
   | nil => cases h
   | cons x r =>
    simp at h
    subst h
    rw [Bd.sSign_of]
    simp
  ·rw [Bd.sSign_no h]
   exact Nat.le_refl _
def Kp (w : World) (p : Nat) (W : World) : Prop := Keeps (fun k => k = p ∨ w.heap.size ≤ k) w W
def Rx (w : World) (p x : Nat) (W : World) (q : Bd.St) (cs : List Value) (t : TypeId) : Prop := Rd W p q ∧ Cl W x cs t ∧ x ≠ p ∧ w.heap.size ≤ x ∧ Kp w p W
theorem Kp.call {w W W' : World} {p : Nat} {q' : Bd.St} (h : Kp w p W) (k : Rds W p q' W') : Kp w p W' := h.trans (k.2.mono (fun j _ e => .inl e))
theorem Kp.below {w W W' : World} {p : Nat} (h : Kp w p W) (k : Below W.heap.size W W') : Kp w p W' := h.trans (Keeps.below _ k)
theorem Kp.store {w W : World} {p : Nat} (h : Kp w p W) (a : Addr) (u : Value) (ha : w.heap.size ≤ a.block) : Kp w p (W.setCell a u) := h.trans (Keeps.setCell _ _ _ _ (.inr ha))
theorem Rx.call {w W W' : World} {p x : Nat} {q q' : Bd.St} {cs : List Value} {t : TypeId} (h : Rx w p x W q cs t) (k : Rds W p q' W') : Rx w p x W' q' cs t :=
 ⟨k.1, h.2.1.keep k.2 h.2.2.1, h.2.2.1, h.2.2.2.1, h.2.2.2.2.call k⟩
theorem Rx.store {w W : World} {p x : Nat} {q : Bd.St} {cs : List Value} {t : TypeId} (h : Rx w p x W q cs t) (k : Nat) (u : Value) : Rx w p x (W.setCell ⟨x, k, none⟩ u) q (cs.set k u) t :=
 ⟨h.1.keep (Keeps.setCell (fun j => j = x) _ _ _ rfl) (fun e => h.2.2.1 e.symm), h.2.1.set k u, h.2.2.1, h.2.2.2.1, h.2.2.2.2.store _ _ h.2.2.2.1⟩
theorem Rx.drew {w W : World} {p x : Nat} {q : Bd.St} {cs : List Value} {t : TypeId} (h : Rx w p x W q cs t) : Rx w p x W.drew q cs t :=
 ⟨h.1, h.2.1, h.2.2.1, h.2.2.2.1, h.2.2.2.2.trans (Keeps.drew _ _)⟩
theorem Rx.done {w W : World} {p x : Nat} {q : Bd.St} {cs : List Value} {t : TypeId} (h : Rx w p x W q cs t) : Rds w p q W := ⟨h.1, h.2.2.2.2.mono (fun k hk e => e.resolve_right (by omega))⟩
theorem Rx.bel {w W : World} {p x : Nat} {q : Bd.St} {cs : List Value} {t : TypeId} (h : Rx w p x W q cs t) (hp : w.heap.size ≤ p) : Below w.heap.size w W := h.2.2.2.2.toBelow (Nat.le_refl _) (fun k hk e => by rcases e with e | e <;> omega)
theorem Rx.alloc {w W : World} {p x : Nat} {q : Bd.St} {cs : List Value} {t : TypeId} (h : Rx w p x W q cs t) (o : Obj) : Rx w p x (W.alloc o) q cs t :=
 ⟨h.1.keep (S := fun _ => False) (Keeps.alloc _ _ _) id, h.2.1.alloc _, h.2.2.1, h.2.2.2.1, h.2.2.2.2.trans (Keeps.alloc _ _ _)⟩
theorem Rx.below {w W W' : World} {p x : Nat} {q : Bd.St} {cs : List Value} {t : TypeId} (h : Rx w p x W q cs t) (k : Below W.heap.size W W') : Rx w p x W' q cs t :=
 ⟨h.1.below k, h.2.1.below k, h.2.2.1, h.2.2.2.1, h.2.2.2.2.below k⟩
theorem Rx.keeps {w W W' : World} {p x B : Nat} {q : Bd.St} {cs : List Value} {t : TypeId} (h : Rx w p x W q cs t) (k : Keeps (fun j => B ≤ j) W W') (hp : p < B) (hx : x < B) : Rx w p x W' q cs t :=
 ⟨h.1.keep k (by omega), h.2.1.keep k (by omega), h.2.2.1, h.2.2.2.1, h.2.2.2.2.trans (k.mono (fun j _ e => .inr (by have := h.2.2.2.1; omega)))⟩
theorem Rx.new {w : World} {p : Nat} {q : Bd.St} (h : Rd w p q) (cs : List Value) (t : TypeId) : Rx w p w.heap.size (w.alloc (.cells cs.toArray t)) q cs t :=
 ⟨h.keep (S := fun _ => False) (Keeps.alloc _ _ _) id, Cl.new _ _ _, fun e => by have := h.lt; omega, Nat.le_refl _, Keeps.alloc _ _ _⟩
theorem Kp.trans {w W W' : World} {p : Nat} (h : Kp w p W) (k : Kp W p W') : Kp w p W' := Keeps.trans h (Keeps.mono k (fun j hj e => e.elim .inl (fun e => .inr (Nat.le_trans h.size e))))
theorem Kp.lw {w W : World} {p : Nat} (h : Kp w p W) (hw : Lw w) (hp : w.heap.size ≤ p) : Lw W := hw.below (h.toBelow (Nat.le_refl _) (fun k hk e => by rcases e with e | e <;> omega))
end Go.Proofs.YtjfpbeccpcbpcaaGreatDoor
