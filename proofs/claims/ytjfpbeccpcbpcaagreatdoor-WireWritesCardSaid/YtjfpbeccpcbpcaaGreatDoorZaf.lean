/-
  Bwc / Bwd / Bwe / Bwx / Wq / Wu: texts of one proof, one behind the other.
  Conditions: none of its own.
-/
import Derived.Test.YtjfpbeccpcbpcaaGreatDoorZaa
import Derived.Test.YtjfpbeccpcbpcaaGreatDoorZab
import Derived.Test.YtjfpbeccpcbpcaaGreatDoorZac
import Derived.Test.YtjfpbeccpcbpcaaGreatDoorZad
import Derived.Test.YtjfpbeccpcbpcaaGreatDoorZae
import Derived.Shelf.Strconv.ErrVarAll
set_option linter.unusedVariables false
set_option linter.unusedSimpArgs false
namespace Go.Proofs.YtjfpbeccpcbpcaaGreatDoor
open Go.RowKit
theorem cut_any (l : List UInt8) (c : UInt8) (hl : l.length < 4294967281) (w : World) (hw : Lw w) : Calls Tryz.prog 136 #[.string ⟨l.toArray⟩, .string ⟨#[c]⟩] w fun e w' =>
  e = .returned (.tuple #[.string ⟨(Lib.cut l [c]).1.toArray⟩, .string ⟨(Lib.cut l [c]).2.1.toArray⟩, .bool (Lib.cut l [c]).2.2]) ∧ Below w.heap.size w w' := by
 obtain ⟨m, hm⟩ := hw.mx
 refine (Tryz.strings_Cut ⟨l.toArray⟩ ⟨#[c]⟩ m w hl hm).mono ?_
 rintro e w' ⟨he, n, rfl⟩
 exact ⟨he, below_drewN (Below.refl _ _) n⟩
theorem atoi_ok (l : List UInt8) (v : Int) (h : Lib.atoiAll l = .ok v) (hl : l.length ≤ 281474976710656) (w : World) : Calls Tryz.prog 137 #[.string ⟨l.toArray⟩] w fun e w' =>
  e = .returned (.tuple #[.int .i64 v, .nilIface]) ∧ Below w.heap.size w w' := by
 refine (Tryz.strconv_Atoi_ok ⟨l.toArray⟩ (by show l.length ≤ _; omega) v h w).mono ?_
 rintro e w' ⟨he, rfl | ⟨t, rfl⟩⟩
 ·exact ⟨he, Below.refl _ _⟩
 ·exact ⟨he, below_bytesWorld _ _ _⟩
def AtoiNo (w : World) (e : Ending) (w' : World) : Prop := ∃ m N, e = .returned (.tuple #[.int .i64 m, .iface 175 (.pointer (some ⟨N, 0, none⟩))]) ∧ Below w.heap.size w w'
theorem atoi_no (l : List UInt8) (h : ∀ v, Lib.atoiAll l ≠ .ok v) (hl : l.length ≤ 281474976710656) (w : World) (hw : Lw w) : Calls Tryz.prog 137 #[.string ⟨l.toArray⟩] w (AtoiNo w) := by
 obtain ⟨t2, p2, h2⟩ := hw.syn
 obtain ⟨t3, p3, h3⟩ := hw.rng
 cases hh : Lib.atoiAll l
 ·exact absurd hh (h _)
 ·refine (Any.strconv_Atoi_syntax_var Tryz.laysC172 ⟨l.toArray⟩ hl hh t2 p2 w h2).mono ?_
  rintro e w' ⟨N, he, _, _, hb⟩
  exact ⟨_, N, he, hb⟩
 ·refine (Any.strconv_Atoi_range_var Tryz.laysC172 ⟨l.toArray⟩ hl hh t3 p3 w h3).mono ?_
  rintro e w' ⟨N, he, _, _, hb⟩
  exact ⟨_, N, he, hb⟩
set_option maxHeartbeats 400000 in
theorem int_bad (p : Nat) (s : List UInt8) (w : World) (h : Rd w p (s, true)) : Calls Tryz.prog 111 #[.pointer (some ⟨p, 0, none⟩)] w fun e w' => e = .returned (.int .i64 0) ∧ w = w' := by
 have H := Lib.hid h
 clear h
 go_enter Tryz.func111, Tryz.ntmps111
 go_wp2_with fail
 go_step3
 go_wp2_with fail
 refine (ready_any _ _ _ H.out).mono ?_
 rintro e w1 ⟨rfl, rfl⟩
 go_wp2
 rw [Exit.noGoto_ret]
 go_ret
 exact ⟨rfl, rfl⟩
set_option maxHeartbeats 400000 in
theorem int_yes (p : Nat) (s r : List UInt8) (n : Int) (hn : Bd.inR n) (w : World) (h : Rd w p (s, false)) (hl : s.length < 4294967281) (hs : s = Bd.bInt n ++ r) (hw : Lw w) :
  Calls Tryz.prog 111 #[.pointer (some ⟨p, 0, none⟩)] w (RdV (.int .i64 n) w p (r, false)) := by
 have H := Lib.hid h
 have HW := Lib.hid hw
 have HC := Lib.hid (cut_any s 101 hl w hw)
 rw [hs, Bd.cut_int, ← hs] at HC
 have hli : (Lib.itoa n).length ≤ 21 := Lib.itoa_length_le n hn.1 hn.2
 have hpre : Lib.hasPrefix (105 :: Lib.itoa n) [105] = true := by rw [Bd.pre_one]; simp
 have HP : Hid (∀ w, Calls Tryz.prog 135 #[.string ⟨(105 :: Lib.itoa n).toArray⟩, .string ⟨#[105]⟩] w fun e w' => e = .returned (.tuple #[.string ⟨(Lib.itoa n).toArray⟩, .bool true]) ∧ w = w') := fun w => by
  have := cutPrefix_any (105 :: Lib.itoa n) 105 w
  rwa [Bd.trim_hit, hpre] at this
 have HA : Hid (∀ w, Calls Tryz.prog 137 #[.string ⟨(Lib.itoa n).toArray⟩] w fun e w' => e = .returned (.tuple #[.int .i64 n, .nilIface]) ∧ Below w.heap.size w w') := fun w => atoi_ok _ n (Bd.atoi_itoa hn) (by omega) w
 have HI : Hid (∀ w, Lw w → Calls Tryz.prog 125 #[.int .i64 n] w fun e w' => e = .returned (.string ⟨(Lib.itoa n).toArray⟩) ∧ Below w.heap.size w w') := fun w hw => itoa_any n hn w hw
 obtain ⟨c0, c1⟩ := h.cells
 clear h hw hl hs hpre hli
 generalize Lib.itoa n = d at HC HP HA HI
 go_enter Tryz.func111, Tryz.ntmps111
 go_wp2_with fail
 go_step3
 go_wp2_with fail
 refine (ready_any _ _ _ H.out).mono ?_
 rintro e w1 ⟨rfl, rfl⟩
 go_wp2_with fail
 refine HC.out.mono ?_
 rintro e w1 ⟨rfl, hb1⟩
 have HB1 := Lib.hid hb1
 clear hb1 c0 c1
 go_wp2_with fail
 refine (HP.out _).mono ?_
 rintro e w2 ⟨rfl, rfl⟩
 go_wp2_with fail
 refine (HA.out _).mono ?_
 rintro e w2 ⟨rfl, hb2⟩
 have HB2 := Lib.hid (bt HB1.out hb2)
 clear hb2 HB1
 go_wp2_with fail
 refine (HI.out _ (HW.out.below HB2.out)).mono ?_
 rintro e w3 ⟨rfl, hb3⟩
 have HB3 := Lib.hid (bt HB2.out hb3)
 clear hb3 HB2
 have HR := Lib.hid (H.out.below HB3.out)
 obtain ⟨c0, c1⟩ := HR.out.cells
 obtain ⟨f0, f1⟩ := HR.out.free
 go_wp2
 rw [Exit.noGoto_ret]
 go_ret
 exact ⟨rfl, HR.out.set0 r, (Keeps.below _ HB3.out).trans (keepsP _ _ _ _)⟩
/-! ### Where it goes wrong -/
def AtoiAny (w : World) (e : Ending) (w' : World) : Prop := ∃ m ev, e = .returned (.tuple #[.int .i64 m, ev]) ∧ Below w.heap.size w w'
theorem atoi_any (l : List UInt8) (hl : l.length ≤ 281474976710656) (w : World) (hw : Lw w) : Calls Tryz.prog 137 #[.string ⟨l.toArray⟩] w (AtoiAny w) := by
 by_cases h : ∃ v, Lib.atoiAll l = .ok v
 ·obtain ⟨v, h⟩ := h
  exact (atoi_ok l v h hl w).mono fun e w' ⟨he, hb⟩ => ⟨_, _, he, hb⟩
 ·exact (atoi_no l (fun v hv => h ⟨v, hv⟩) hl w hw).mono fun e w' ⟨m, N, he, hb⟩ => ⟨_, _, he, hb⟩
theorem str_ne {a b : List UInt8} (h : a ≠ b) : (a == b) = false := beq_eq_false_iff_ne.2 h
set_option maxHeartbeats 400000 in
theorem int_no1 (p : Nat) (s word rest d : List UInt8) (w : World) (h : Rd w p (s, false)) (hw : Lw w) (hd : d.length ≤ 281474976710656) (is : Bool)
  (HC : Hid (Calls Tryz.prog 136 #[.string ⟨s.toArray⟩, .string ⟨#[101]⟩] w fun e w' => e = .returned (.tuple #[.string ⟨word.toArray⟩, .string ⟨rest.toArray⟩, .bool false]) ∧ Below w.heap.size w w'))
  (HP : Hid (∀ w, Calls Tryz.prog 135 #[.string ⟨word.toArray⟩, .string ⟨#[105]⟩] w fun e w' => e = .returned (.tuple #[.string ⟨d.toArray⟩, .bool is]) ∧ w = w')) :
  Calls Tryz.prog 111 #[.pointer (some ⟨p, 0, none⟩)] w (RdV (.int .i64 0) w p (s, true)) := by
 have H := Lib.hid h
 have HW := Lib.hid hw
 obtain ⟨c0, c1⟩ := h.cells
 clear h hw
 have HA : Hid (∀ w, Lw w → Calls Tryz.prog 137 #[.string ⟨d.toArray⟩] w (AtoiAny w)) := fun w hw => atoi_any d hd w hw
 go_enter Tryz.func111, Tryz.ntmps111
 go_wp2_with fail
 refine wp_scope_fwd 0 rfl ?_
 go_wp2_with fail
 refine (ready_any _ _ _ H.out).mono ?_
 rintro e w1 ⟨rfl, rfl⟩
 go_wp2_with fail
 refine HC.out.mono ?_
 rintro e w1 ⟨rfl, hb1⟩
 have HB1 := Lib.hid hb1
 clear hb1 c0 c1
 go_wp2_with fail
 refine (HP.out _).mono ?_
 rintro e w2 ⟨rfl, rfl⟩
 go_wp2_with fail
 refine (HA.out _ (HW.out.below HB1.out)).mono ?_
 rintro e w2 ⟨m, ev, rfl, hb2⟩
 have HB2 := Lib.hid (bt HB1.out hb2)
 clear hb2 HB1
 have HR := Lib.hid (H.out.below HB2.out)
 obtain ⟨c0, c1⟩ := HR.out.cells
 obtain ⟨f0, f1⟩ := HR.out.free
 go_wp2
 go_step3
 refine ⟨rfl, ?_⟩
 go_wp2
 rw [Exit.noGoto_ret]
 go_ret
 exact ⟨rfl, HR.out.set1 true, (Keeps.below _ HB2.out).trans (keepsP _ _ _ _)⟩
set_option maxHeartbeats 400000 in
theorem int_no2 (p : Nat) (s word rest d : List UInt8) (w : World) (h : Rd w p (s, false)) (hw : Lw w) (hd : d.length ≤ 281474976710656)
  (HC : Hid (Calls Tryz.prog 136 #[.string ⟨s.toArray⟩, .string ⟨#[101]⟩] w fun e w' => e = .returned (.tuple #[.string ⟨word.toArray⟩, .string ⟨rest.toArray⟩, .bool true]) ∧ Below w.heap.size w w'))
  (HP : Hid (∀ w, Calls Tryz.prog 135 #[.string ⟨word.toArray⟩, .string ⟨#[105]⟩] w fun e w' => e = .returned (.tuple #[.string ⟨d.toArray⟩, .bool false]) ∧ w = w')) :
  Calls Tryz.prog 111 #[.pointer (some ⟨p, 0, none⟩)] w (RdV (.int .i64 0) w p (s, true)) := by
 have H := Lib.hid h
 have HW := Lib.hid hw
 obtain ⟨c0, c1⟩ := h.cells
 clear h hw
 have HA : Hid (∀ w, Lw w → Calls Tryz.prog 137 #[.string ⟨d.toArray⟩] w (AtoiAny w)) := fun w hw => atoi_any d hd w hw
 go_enter Tryz.func111, Tryz.ntmps111
 go_wp2_with fail
 refine wp_scope_fwd 0 rfl ?_
 go_wp2_with fail
 refine (ready_any _ _ _ H.out).mono ?_
 rintro e w1 ⟨rfl, rfl⟩
 go_wp2_with fail
 refine HC.out.mono ?_
 rintro e w1 ⟨rfl, hb1⟩
 have HB1 := Lib.hid hb1
 clear hb1 c0 c1
 go_wp2_with fail
 refine (HP.out _).mono ?_
 rintro e w2 ⟨rfl, rfl⟩
 go_wp2_with fail
 refine (HA.out _ (HW.out.below HB1.out)).mono ?_
 rintro e w2 ⟨m, ev, rfl, hb2⟩
 have HB2 := Lib.hid (bt HB1.out hb2)
 clear hb2 HB1
 have HR := Lib.hid (H.out.below HB2.out)
 obtain ⟨c0, c1⟩ := HR.out.cells
 obtain ⟨f0, f1⟩ := HR.out.free
 go_wp2
 go_step3
 refine ⟨rfl, ?_⟩
 go_wp2
 rw [Exit.noGoto_ret]
 go_ret
 exact ⟨rfl, HR.out.set1 true, (Keeps.below _ HB2.out).trans (keepsP _ _ _ _)⟩
set_option maxHeartbeats 400000 in
theorem int_no3 (p : Nat) (s word rest d : List UInt8) (w : World) (h : Rd w p (s, false)) (hw : Lw w) (hd : d.length ≤ 281474976710656) (hno : ∀ v, Lib.atoiAll d ≠ .ok v)
  (HC : Hid (Calls Tryz.prog 136 #[.string ⟨s.toArray⟩, .string ⟨#[101]⟩] w fun e w' => e = .returned (.tuple #[.string ⟨word.toArray⟩, .string ⟨rest.toArray⟩, .bool true]) ∧ Below w.heap.size w w'))
  (HP : Hid (∀ w, Calls Tryz.prog 135 #[.string ⟨word.toArray⟩, .string ⟨#[105]⟩] w fun e w' => e = .returned (.tuple #[.string ⟨d.toArray⟩, .bool true]) ∧ w = w')) :
  Calls Tryz.prog 111 #[.pointer (some ⟨p, 0, none⟩)] w (RdV (.int .i64 0) w p (s, true)) := by
 have H := Lib.hid h
 have HW := Lib.hid hw
 obtain ⟨c0, c1⟩ := h.cells
 clear h hw
 have HA : Hid (∀ w, Lw w → Calls Tryz.prog 137 #[.string ⟨d.toArray⟩] w (AtoiNo w)) := fun w hw => atoi_no d hno hd w hw
 go_enter Tryz.func111, Tryz.ntmps111
 go_wp2_with fail
 refine wp_scope_fwd 0 rfl ?_
 go_wp2_with fail
 refine (ready_any _ _ _ H.out).mono ?_
 rintro e w1 ⟨rfl, rfl⟩
 go_wp2_with fail
 refine HC.out.mono ?_
 rintro e w1 ⟨rfl, hb1⟩
 have HB1 := Lib.hid hb1
 clear hb1 c0 c1
 go_wp2_with fail
 refine (HP.out _).mono ?_
 rintro e w2 ⟨rfl, rfl⟩
 go_wp2_with fail
 refine (HA.out _ (HW.out.below HB1.out)).mono ?_
 rintro e w2 ⟨m, N, rfl, hb2⟩
 have HB2 := Lib.hid (bt HB1.out hb2)
 clear hb2 HB1
 have HR := Lib.hid (H.out.below HB2.out)
 obtain ⟨c0, c1⟩ := HR.out.cells
 obtain ⟨f0, f1⟩ := HR.out.free
 go_wp2
 go_step3
 refine ⟨rfl, ?_⟩
 go_wp2
 rw [Exit.noGoto_ret]
 go_ret
 exact ⟨rfl, HR.out.set1 true, (Keeps.below _ HB2.out).trans (keepsP _ _ _ _)⟩
set_option maxHeartbeats 400000 in
theorem int_no4 (p : Nat) (s word rest d : List UInt8) (w : World) (h : Rd w p (s, false)) (hw : Lw w) (hd : d.length ≤ 281474976710656) (v : Int) (hv : Lib.atoiAll d = .ok v) (hne : Lib.itoa v ≠ d)
  (HC : Hid (Calls Tryz.prog 136 #[.string ⟨s.toArray⟩, .string ⟨#[101]⟩] w fun e w' => e = .returned (.tuple #[.string ⟨word.toArray⟩, .string ⟨rest.toArray⟩, .bool true]) ∧ Below w.heap.size w w'))
  (HP : Hid (∀ w, Calls Tryz.prog 135 #[.string ⟨word.toArray⟩, .string ⟨#[105]⟩] w fun e w' => e = .returned (.tuple #[.string ⟨d.toArray⟩, .bool true]) ∧ w = w')) :
  Calls Tryz.prog 111 #[.pointer (some ⟨p, 0, none⟩)] w (RdV (.int .i64 0) w p (s, true)) := by
 have H := Lib.hid h
 have HW := Lib.hid hw
 obtain ⟨c0, c1⟩ := h.cells
 clear h hw
 have hn := Lib.atoiAll_bounds hv
 have HA : Hid (∀ w, Calls Tryz.prog 137 #[.string ⟨d.toArray⟩] w fun e w' => e = .returned (.tuple #[.int .i64 v, .nilIface]) ∧ Below w.heap.size w w') := fun w => atoi_ok d v hv hd w
 have HI : Hid (∀ w, Lw w → Calls Tryz.prog 125 #[.int .i64 v] w fun e w' => e = .returned (.string ⟨(Lib.itoa v).toArray⟩) ∧ Below w.heap.size w w') := fun w hw => itoa_any v hn w hw
 have hne' := str_ne hne
 clear hv hn hne
 generalize Lib.itoa v = t at HI hne'
 go_enter Tryz.func111, Tryz.ntmps111
 go_wp2_with fail
 refine wp_scope_fwd 0 rfl ?_
 go_wp2_with fail
 refine (ready_any _ _ _ H.out).mono ?_
 rintro e w1 ⟨rfl, rfl⟩
 go_wp2_with fail
 refine HC.out.mono ?_
 rintro e w1 ⟨rfl, hb1⟩
 have HB1 := Lib.hid hb1
 clear hb1 c0 c1
 go_wp2_with fail
 refine (HP.out _).mono ?_
 rintro e w2 ⟨rfl, rfl⟩
 go_wp2_with fail
 refine (HA.out _).mono ?_
 rintro e w2 ⟨rfl, hb2⟩
 have HB2 := Lib.hid (bt HB1.out hb2)
 clear hb2 HB1
 go_wp2_with fail
 refine (HI.out _ (HW.out.below HB2.out)).mono ?_
 rintro e w3 ⟨rfl, hb3⟩
 have HB3 := Lib.hid (bt HB2.out hb3)
 clear hb3 HB2
 have HB2 := HB3
 clear HB3
 have HR := Lib.hid (H.out.below HB2.out)
 obtain ⟨c0, c1⟩ := HR.out.cells
 obtain ⟨f0, f1⟩ := HR.out.free
 go_wp2
 go_step3
 refine ⟨rfl, ?_⟩
 go_wp2
 rw [Exit.noGoto_ret]
 go_ret
 exact ⟨rfl, HR.out.set1 true, (Keeps.below _ HB2.out).trans (keepsP _ _ _ _)⟩
theorem int_any (p : Nat) (q : Bd.St) (w : World) (h : Rd w p q) (hl : q.1.length < 4294967281) (hw : Lw w) :
  Calls Tryz.prog 111 #[.pointer (some ⟨p, 0, none⟩)] w (RdV (.int .i64 (Bd.sInt q).1) w p (Bd.sInt q).2) := by
 obtain ⟨s, b⟩ := q
 cases b with
 | true => exact (int_bad p s w h).mono fun e w' ⟨he, hw'⟩ => ⟨he, hw' ▸ h, hw' ▸ Keeps.refl _ _⟩
 | false =>
  cases hr : Bd.rdInt s with
  | some x =>
   obtain ⟨n, r⟩ := x
   obtain ⟨hn, hs⟩ := Bd.rdInt_some hr
   have e : Bd.sInt (s, false) = (n, (r, false)) := by simp [Bd.sInt, hr]
   rw [e]
   exact int_yes p s r n hn w h hl hs hw
  | none =>
   have e : Bd.sInt (s, false) = (0, (s, true)) := by simp [Bd.sInt, hr]
   rw [e]
   have hl' : s.length < 4294967281 := hl
   have HC := Lib.hid (cut_any s 101 hl w hw)
   have HP : Hid (∀ w, Calls Tryz.prog 135 #[.string ⟨((Lib.cut s [101]).1).toArray⟩, .string ⟨#[105]⟩] w fun e w' => e = .returned (.tuple #[.string ⟨(Lib.trimPrefix (Lib.cut s [101]).1 [105]).toArray⟩, .bool (Lib.hasPrefix (Lib.cut s [101]).1 [105])]) ∧ w = w') := fun w => cutPrefix_any _ 105 w
   have hd : (Lib.trimPrefix (Lib.cut s [101]).1 [105]).length ≤ 281474976710656 := by
    have h1 := Lib.trimPrefix_le (Lib.cut s [101]).1 [105]
    have h2 : (Lib.cut s [101]).1.length ≤ s.length := by
     rcases Bd.cut_cases s 101 with ⟨_, e⟩ | ⟨a, b, _, e1, e⟩
     ·rw [e]; exact Nat.le_refl _
     ·rw [e, e1]; simp
    omega
   unfold Bd.rdInt at hr
   generalize Lib.trimPrefix (Lib.cut s [101]).1 [105] = d at *
   generalize Lib.hasPrefix (Lib.cut s [101]).1 [105] = is at *
   generalize Lib.cut s [101] = k at *
   obtain ⟨word, rest, ok⟩ := k
   simp only at *
   cases ok with
   | false => exact int_no1 p s word rest d w h hw hd is HC HP
   | true =>
    cases is with
    | false => exact int_no2 p s word rest d w h hw hd HC HP
    | true =>
     by_cases hv : ∃ v, Lib.atoiAll d = .ok v
     ·obtain ⟨v, hv⟩ := hv
      rw [hv] at hr
      refine int_no4 p s word rest d w h hw hd v hv ?_ HC HP
      intro he
      simp [he] at hr
     ·exact int_no3 p s word rest d w h hw hd (fun v hv' => hv ⟨v, hv'⟩) HC HP
end Go.Proofs.YtjfpbeccpcbpcaaGreatDoor
namespace Go.Proofs.YtjfpbeccpcbpcaaGreatDoor
open Go.RowKit
end Go.Proofs.YtjfpbeccpcbpcaaGreatDoor
namespace Go.Proofs.YtjfpbeccpcbpcaaGreatDoor
open Go.RowKit
theorem Rds.bel {w0 w w' : World} {p : Nat} {q : Bd.St} (h : Rds w p q w') (hb : Below w0.heap.size w0 w) (hp : w0.heap.size ≤ p) : Below w0.heap.size w0 w' :=
 hb.trans (h.2.toBelow hb.size (fun k hk e => by omega))
theorem done_is (p : Nat) (q : Bd.St) (d : Int) (hd : Bd.sDone q = d) (w : World) (h : Rd w p q) : Calls Tryz.prog 65 #[.pointer (some ⟨p, 0, none⟩)] w fun e w' => e = .returned (.int .i64 d) ∧ w = w' := hd ▸ done_any p q w h
end Go.Proofs.YtjfpbeccpcbpcaaGreatDoor
namespace Go.Proofs.YtjfpbeccpcbpcaaGreatDoor
open Go.RowKit
def Kp (w : World) (p : Nat) (W : World) : Prop := Keeps (fun k => k = p ∨ w.heap.size ≤ k) w W
def Rx (w : World) (p x : Nat) (W : World) (q : Bd.St) (cs : List Value) (t : TypeId) : Prop := Rd W p q ∧ Cl W x cs t ∧ x ≠ p ∧ w.heap.size ≤ x ∧ Kp w p W
theorem Kp.call {w W W' : World} {p : Nat} {q' : Bd.St} (h : Kp w p W) (k : Rds W p q' W') : Kp w p W' := h.trans (k.2.mono (fun j _ e => .inl e))
theorem Kp.below {w W W' : World} {p : Nat} (h : Kp w p W) (k : Below W.heap.size W W') : Kp w p W' := h.trans (Keeps.below _ k)
theorem Kp.store {w W : World} {p : Nat} (h : Kp w p W) (a : Addr) (u : Value) (ha : w.heap.size ≤ a.block) : Kp w p (W.setCell a u) := h.trans (Keeps.setCell _ _ _ _ (.inr ha))
theorem Rx.call {w W W' : World} {p x : Nat} {q q' : Bd.St} {cs : List Value} {t : TypeId} (h : Rx w p x W q cs t) (k : Rds W p q' W') : Rx w p x W' q' cs t :=
 ⟨k.1, h.2.1.keep k.2 h.2.2.1, h.2.2.1, h.2.2.2.1, h.2.2.2.2.call k⟩
theorem Rx.store {w W : World} {p x : Nat} {q : Bd.St} {cs : List Value} {t : TypeId} (h : Rx w p x W q cs t) (k : Nat) (u : Value) : Rx w p x (W.setCell ⟨x, k, none⟩ u) q (cs.set k u) t :=
 ⟨h.1.keep (Keeps.setCell (fun j => j = x) _ _ _ rfl) (fun e => h.2.2.1 e.symm), h.2.1.set k u, h.2.2.1, h.2.2.2.1, h.2.2.2.2.store _ _ h.2.2.2.1⟩
theorem Rx.drew {w W : World} {p x : Nat} {q : Bd.St} {cs : List Value} {t : TypeId} (h : Rx w p x W q cs t) : Rx w p x W.drew q cs t :=
 ⟨h.1, h.2.1, h.2.2.1, h.2.2.2.1, h.2.2.2.2.trans (Keeps.drew _ _)⟩
theorem Rx.done {w W : World} {p x : Nat} {q : Bd.St} {cs : List Value} {t : TypeId} (h : Rx w p x W q cs t) : Rds w p q W := ⟨h.1, h.2.2.2.2.mono (fun k hk e => e.resolve_right (by omega))⟩
theorem Rx.bel {w W : World} {p x : Nat} {q : Bd.St} {cs : List Value} {t : TypeId} (h : Rx w p x W q cs t) (hp : w.heap.size ≤ p) : Below w.heap.size w W := h.2.2.2.2.toBelow (Nat.le_refl _) (fun k hk e => by rcases e with e | e <;> omega)
theorem Rx.alloc {w W : World} {p x : Nat} {q : Bd.St} {cs : List Value} {t : TypeId} (h : Rx w p x W q cs t) (o : Obj) : Rx w p x (W.alloc o) q cs t :=
 ⟨h.1.keep (S := fun _ => False) (Keeps.alloc _ _ _) id, h.2.1.alloc _, h.2.2.1, h.2.2.2.1, h.2.2.2.2.trans (Keeps.alloc _ _ _)⟩
theorem Rx.below {w W W' : World} {p x : Nat} {q : Bd.St} {cs : List Value} {t : TypeId} (h : Rx w p x W q cs t) (k : Below W.heap.size W W') : Rx w p x W' q cs t :=
 ⟨h.1.below k, h.2.1.below k, h.2.2.1, h.2.2.2.1, h.2.2.2.2.below k⟩
theorem Rx.keeps {w W W' : World} {p x B : Nat} {q : Bd.St} {cs : List Value} {t : TypeId} (h : Rx w p x W q cs t) (k : Keeps (fun j => B ≤ j) W W') (hp : p < B) (hx : x < B) : Rx w p x W' q cs t :=
 ⟨h.1.keep k (by omega), h.2.1.keep k (by omega), h.2.2.1, h.2.2.2.1, h.2.2.2.2.trans (k.mono (fun j _ e => .inr (by have := h.2.2.2.1; omega)))⟩
theorem Rx.new {w : World} {p : Nat} {q : Bd.St} (h : Rd w p q) (cs : List Value) (t : TypeId) : Rx w p w.heap.size (w.alloc (.cells cs.toArray t)) q cs t :=
 ⟨h.keep (S := fun _ => False) (Keeps.alloc _ _ _) id, Cl.new _ _ _, fun e => by have := h.lt; omega, Nat.le_refl _, Keeps.alloc _ _ _⟩
theorem Kp.trans {w W W' : World} {p : Nat} (h : Kp w p W) (k : Kp W p W') : Kp w p W' := Keeps.trans h (Keeps.mono k (fun j hj e => e.elim .inl (fun e => .inr (Nat.le_trans h.size e))))
end Go.Proofs.YtjfpbeccpcbpcaaGreatDoor
namespace Go.Proofs.YtjfpbeccpcbpcaaGreatDoor.Wi
open Bd (St bInt bText sInt sText sSign sMore sDone inR)
/-! ### Many of a kind, read -/
def sMany {α : Type} (f : St → α × St) : Nat → St → List α × St
 | 0, q => ([], q)
 | n + 1, q => if sMore q then ((f q).1 :: (sMany f n (f q).2).1, (sMany f n (f q).2).2) else ([], q)
def sAll {α : Type} (f : St → α × St) (q : St) : List α × St := sMany f (q.1.length + 1) q
def Shr {α : Type} (f : St → α × St) : Prop := ∀ q, sMore q = true → (f q).2.2 = true ∨ (f q).2.1.length < q.1.length
def At {α : Type} (f : St → α × St) (q0 : St) (acc : List α) (q : St) : Prop :=
 ∃ n, (q.2 = true ∨ q.1.length < n) ∧ sAll f q0 = (acc ++ (sMany f n q).1, (sMany f n q).2)
theorem At.start {α : Type} (f : St → α × St) (q : St) : At f q [] q := ⟨q.1.length + 1, .inr (by omega), by simp [sAll]⟩
theorem more_good {q : St} (h : sMore q = true) : q.2 = false ∧ q.1 ≠ [] ∧ q.1.head? ≠ some 101 := by
 obtain ⟨s, b⟩ := q
 cases b with
 | true => simp [sMore] at h
 | false =>
  cases s with
  | nil => simp [sMore] at h
  | cons c s => simpa [sMore] using h
theorem At.next {α : Type} {f : St → α × St} (hf : Shr f) {q0 q : St} {acc : List α} (h : At f q0 acc q) (hm : sMore q = true) : At f q0 (acc ++ [(f q).1]) (f q).2 := by
 obtain ⟨n, hn, he⟩ := h
 have hg := (more_good hm).1
 rw [hg] at hn
 have hl := hn.resolve_left (by simp)
 obtain ⟨m, rfl⟩ : ∃ m, n = m + 1 := ⟨n - 1, by omega⟩
 refine ⟨m, ?_, ?_⟩
 ·rcases hf q hm with h | h
  ·exact .inl h
  ·exact .inr (by omega)
 ·rw [he, sMany, if_pos hm]
  simp
theorem At.len {α : Type} {f : St → α × St} (hf : Shr f) {q0 q : St} {acc : List α} (h : At f q0 acc q) : acc.length ≤ (sAll f q0).1.length := by
 obtain ⟨n, hn, he⟩ := h
 rw [he]
 simp
/-! ### What can be -/
def reqB (q : Req) : Bool :=
 inB q.client 1 4 && (inB q.kind 1 8 && (areB 0 1099511627776 [q.n, q.part, q.seq, q.max, q.gen] && (inB q.off (-1099511627776) 1099511627776 && (q.recs.all (fun x => decide (x.off = 0)) &&
  (decide (q.group.length ≤ 8) && (decide (q.member.length ≤ 8) && (decide (q.recs.length = 0) || Cr.fits q.recs)))))))
def risingB : Int → List Cr.Rec → Bool
 | _, [] => true
 | p, x :: r => inB x.off 0 1099511627776 && (Cr.fits [x] && (decide (p < x.off) && risingB x.off r))
def respB (a : Resp) : Bool :=
 inB a.client 1 4 && (inB a.code 0 99 && (areB 0 1099511627776 [a.n, a.off, a.high, a.gen] && (decide (a.parts.length ≤ 4) && (areB 0 3 a.parts && (decide (a.recs.length ≤ 16) && risingB (-1) a.recs)))))
def lifeB (x : Int × Int) : Bool := inB x.1 1 5 && inB x.2 0 1073741824
def placeB (m : Msg) : Bool :=
 inB m.pep 0 1073741824 && (inB m.learner 0 5 && (decide (m.chain.length ≤ 5) && (areB 1 5 m.chain && (decide (m.lives.length ≤ 5) && m.lives.all lifeB))))
def slotB (x : Slot) : Bool := Cr.isNum x.1 && (Cr.isNum x.2.1 && (Cr.isNum x.2.2 && decide (x.2.1 < x.2.2)))
def nextB (p : Option Slot) (x : Slot) : Bool := match p with
 | none => true
 | some y => decide (x.1 = y.1 + 1) && decide (y.2.2 ≤ x.2.1)
def rowB : Option Slot → List Slot → Bool
 | _, [] => true
 | p, x :: r => slotB x && (nextB p x && rowB (some x) r)
def slotsB (l : List Slot) : Bool := rowB none l && (decide (1 ≤ l.length) && decide (l.length ≤ 5))
def aboveB (p : Option Int) (x : Int) : Bool := match p with
 | none => true
 | some y => decide (y < x)
def seensB : Option Int → List Seen → Bool
 | _, [] => true
 | p, x :: r => Cr.isNum x.1 && (aboveB p x.1 && (slotsB x.2 && seensB (some x.1) r))
def tableB (t : List Seen) : Bool := seensB none t && decide (t.length ≤ 64)
def first (m : Msg) : Bool := inB m.kind 1 9 && (unitB m.frm && (unitB m.to && (inB m.part 0 3 && (areB 0 1073741824 [m.ep, m.life] && (areB (-1) 1099511627776 [m.off, m.high] && same m (only m))))))
def lastB (m : Msg) : Bool :=
 if m.kind = 1 ∨ m.kind = 7 then reqB m.req else if m.kind = 2 then respB m.resp else if m.kind = 4 then placeB m else if m.kind = 5 then Cr.good m.batch else if m.kind = 8 then tableB m.table else true
def good (m : Msg) : Bool := first m && lastB m
/-! ### Bytes -/
def encInts (l : List Int) : List UInt8 := (l.map bInt).flatten
def listB (b : List UInt8) : List UInt8 := 108 :: (b ++ [101])
def encRec (x : Cr.Rec) : List UInt8 := bInt x.off ++ (bText x.key ++ (bText x.val ++ bInt (Cr.flag x.gone)))
def encRecs (l : List Cr.Rec) : List UInt8 := listB (l.map encRec).flatten
def encSlot (y : Slot) : List UInt8 := listB (bInt y.1 ++ (bInt y.2.1 ++ bInt y.2.2))
def encSeen (x : Seen) : List UInt8 := listB (bInt x.1 ++ (x.2.map encSlot).flatten)
def encTable (t : List Seen) : List UInt8 := listB (t.map encSeen).flatten
def flatLives (l : List (Int × Int)) : List Int := l.flatMap fun x => [x.1, x.2]
def reqNumsL (q : Req) : List Int := [q.client, q.n, q.kind, q.part, q.seq, q.off, q.max, q.gen]
def respNumsL (a : Resp) : List Int := [a.client, a.n, a.code, a.off, a.high, a.gen]
def tailL (m : Msg) : List (List UInt8) :=
 if m.kind = 1 ∨ m.kind = 7 then (reqNumsL m.req).map bInt ++ [bText m.req.group, bText m.req.member, encRecs m.req.recs]
 else if m.kind = 2 then (respNumsL m.resp).map bInt ++ [listB (encInts m.resp.parts), encRecs m.resp.recs]
 else if m.kind = 3 then [bInt m.life]
 else if m.kind = 4 then [bInt m.pep, listB (encInts m.chain), bInt m.learner, listB (encInts (flatLives m.lives))]
 else if m.kind = 5 then [bText (Cr.enc m.batch)]
 else if m.kind = 6 then [bInt m.off, bInt m.high]
 else if m.kind = 8 then [bInt m.off, bText (encTable m.table)]
 else if m.kind = 9 then [bInt m.off] else []
def headL (m : Msg) : List (List UInt8) := [m.kind, m.frm, m.to].map bInt ++ (if 4 ≤ m.kind then [m.part, m.ep].map bInt else [])
def fieldsL (m : Msg) : List (List UInt8) := headL m ++ tailL m
def enc (m : Msg) : List UInt8 := listB (fieldsL m).flatten
def zMsg : Msg := ⟨0, 0, 0, 0, 0, 0, 0, 0, 0, [], 0, [], zBatch, [], zReq, zResp⟩
end Go.Proofs.YtjfpbeccpcbpcaaGreatDoor.Wi
namespace Go.Proofs.YtjfpbeccpcbpcaaGreatDoor
open Go.RowKit
theorem wwithin_any (n low high : Int) (w : World) : Calls Tryz.prog 31 #[.int .i64 n, .int .i64 low, .int .i64 high] w fun e w' => e = .returned (.bool (Wi.inB n low high)) ∧ w' = w := by
 unfold Wi.inB
 by_cases h0 : low ≤ n
 ·by_cases h1 : n ≤ high
  ·rw [show (decide (low ≤ n) && decide (n ≤ high)) = true by simp [h0, h1]]
   go_enter Tryz.func31, Tryz.ntmps31
   go_wp2
   go_ret
   exact ⟨by simp [h0, h1] <;> omega, rfl⟩
  ·rw [show (decide (low ≤ n) && decide (n ≤ high)) = false by simp [h0, h1]]
   go_enter Tryz.func31, Tryz.ntmps31
   go_wp2
   go_ret
   exact ⟨by simp [h0, h1] <;> omega, rfl⟩
 ·rw [show (decide (low ≤ n) && decide (n ≤ high)) = false by simp [h0]]
  go_enter Tryz.func31, Tryz.ntmps31
  go_wp2
  go_ret
  exact ⟨rfl, rfl⟩
theorem isUnit_any (n : Int) (w : World) : Calls Tryz.prog 32 #[.int .i64 n] w fun e w' => e = .returned (.bool (Wi.unitB n)) ∧ w' = w := by
 unfold Wi.unitB
 have H1 := Lib.hid (wwithin_any n 0 5 w)
 have H2 := Lib.hid (wwithin_any n 11 14 w)
 generalize Wi.inB n 0 5 = b1 at *
 generalize Wi.inB n 11 14 = b2 at *
 go_enter Tryz.func32, Tryz.ntmps32
 go_wp2_with fail
 refine H1.out.mono ?_
 rintro e w1 ⟨rfl, rfl⟩
 cases b1 with
 | true =>
  go_wp2
  go_ret
  exact ⟨rfl, rfl⟩
 | false =>
  go_wp2_with fail
  refine H2.out.mono ?_
  rintro e w2 ⟨rfl, rfl⟩
  go_wp2
  go_ret
  exact ⟨rfl, rfl⟩
def idxP {α : Type} (p : α → Bool) : Nat → List α → Int
 | _, [] => -1
 | k, x :: r => if p x then (k : Int) else idxP p (k + 1) r
theorem idxP_any {α : Type} (p : α → Bool) : ∀ (l : List α) (k : Nat), decide (0 ≤ idxP p k l) = l.any p
 | [], k => by simp [idxP]
 | x :: r, k => by
  unfold idxP
  cases h : p x with
  | true => simp [h]
  | false => simp only [Bool.false_eq_true, if_false, List.any_cons, h, Bool.false_or]; exact idxP_any p r (k + 1)
theorem idxP_step {α : Type} {p : α → Bool} {l : List α} {k : Nat} {x : α} (hx : l[k]? = some x) : idxP p k (l.drop k) = if p x then (k : Int) else idxP p (k + 1) (l.drop (k + 1)) := by
 obtain ⟨hk, rfl⟩ := List.getElem?_eq_some_iff.1 hx
 rw [List.drop_eq_getElem_cons hk]
 rfl
theorem are1_any (n lo hi : Int) (pl ph : Nat) (w : World) (h1 : Cl w pl [.int .i64 lo] 3) (h2 : Cl w ph [.int .i64 hi] 3) :
  Calls Tryz.prog 90 #[.int .i64 n, .pointer (some ⟨pl, 0, none⟩), .pointer (some ⟨ph, 0, none⟩)] w fun e w' => e = .returned (.bool (!Wi.inB n lo hi)) ∧ w' = w := by
 have H := Lib.hid (wwithin_any n lo hi w)
 have a0 := h1.cell 0
 have b0 := h2.cell 0
 simp only [List.getElem?_cons_zero, List.getElem?_cons_succ] at a0 b0
 generalize Wi.inB n lo hi = b1 at *
 clear h1 h2
 go_enter Tryz.func90, Tryz.ntmps90
 go_wp2_with fail
 refine H.out.mono ?_
 rintro e w1 ⟨rfl, rfl⟩
 cases b1 <;>
 ·go_wp2
  go_ret
  exact ⟨rfl, rfl⟩
set_option maxHeartbeats 800000 in
theorem idxInts_any (l : List Int) (hl : l.length ≤ maxLen) (v : Value) (lo hi : Int) (pl ph : Nat) (w : World) (h : Ints w v l) (h1 : Cl w pl [.int .i64 lo] 3) (h2 : Cl w ph [.int .i64 hi] 3) :
  Calls Tryz.prog 128 #[v, .func (.func 90) #[] #[.pointer (some ⟨pl, 0, none⟩), .pointer (some ⟨ph, 0, none⟩)]] w fun e w' => e = .returned (.int .i64 (idxP (fun n => !Wi.inB n lo hi) 0 l)) ∧ w' = w := by
 have HZ := Lib.hid h
 have H1 := Lib.hid h1
 have H2 := Lib.hid h2
 obtain ⟨a, cap, rfl⟩ := h.form
 unfold maxLen at hl
 clear h h1 h2
 go_enter Tryz.func128, Tryz.ntmps128
 go_wp2
 go_loop [8] (fun i => ∃ k : Nat, i = .int .i64 k ∧ k ≤ l.length ∧ idxP (fun n => !Wi.inB n lo hi) 0 l = idxP (fun n => !Wi.inB n lo hi) k (l.drop k)) (fun i => l.length - (intOf i).toNat)
 case atStart => exact ⟨0, rfl, by omega, rfl⟩
 case round =>
  obtain ⟨k, rfl, hk, hq⟩ := hrel
  have HQ := Lib.hid hq
  clear hq
  by_cases hlt : k < l.length
  ·obtain ⟨x, hx⟩ : ∃ x, l[k]? = some x := ⟨l[k], by simp [hlt]⟩
   have HS := Lib.hid (idxP_step (p := fun n => !Wi.inB n lo hi) hx)
   have HN := Lib.hid (are1_any x lo hi pl ph w H1.out H2.out)
   obtain ⟨g, off, cap', he, hg, p0⟩ := HZ.out.get (Below.refl _ _) hx
   injection he with he1 he2 he3
   subst he1 he3
   clear he2
   cases hb : Wi.inB x lo hi with
   | true =>
    rw [hb] at HN
    have HX : Hid (idxP (fun n => !Wi.inB n lo hi) 0 l = idxP (fun n => !Wi.inB n lo hi) (k + 1) (l.drop (k + 1))) := by rw [Hid, HQ.out, HS.out, hb]; rfl
    clear hb HS HQ
    go_wp2_with fail
    refine HN.out.mono ?_
    rintro e w5 ⟨rfl, rfl⟩
    go_wp2
    go_round
    case rel => exact ⟨k + 1, by go_num, by omega, HX.out⟩
    case measure => simp [intOf]; omega
   | false =>
    rw [hb] at HN
    have HX : Hid (idxP (fun n => !Wi.inB n lo hi) 0 l = (k : Int)) := by rw [Hid, HQ.out, HS.out, hb]; rfl
    clear hb HS HQ
    go_wp2_with fail
    refine HN.out.mono ?_
    rintro e w5 ⟨rfl, rfl⟩
    go_wp2
    go_ret
    exact ⟨by rw [HX.out]; rfl, rfl⟩
  ·obtain rfl : k = l.length := by omega
   have HX : Hid (idxP (fun n => !Wi.inB n lo hi) 0 l = -1) := by rw [Hid, HQ.out, List.drop_length]; rfl
   go_wp2
   go_ret
   exact ⟨by rw [HX.out]; rfl, rfl⟩
theorem any_not (low high : Int) (l : List Int) : (l.any fun n => !Wi.inB n low high) = !Wi.areB low high l := by
 unfold Wi.areB
 induction l with
 | nil => rfl
 | cons x r ih => rw [List.any_cons, List.all_cons, ih]; cases Wi.inB x low high <;> simp
theorem containsInts_any (l : List Int) (hl : l.length ≤ maxLen) (v : Value) (lo hi : Int) (pl ph : Nat) (w : World) (h : Ints w v l) (h1 : Cl w pl [.int .i64 lo] 3) (h2 : Cl w ph [.int .i64 hi] 3) :
  Calls Tryz.prog 89 #[v, .func (.func 90) #[] #[.pointer (some ⟨pl, 0, none⟩), .pointer (some ⟨ph, 0, none⟩)]] w fun e w' => e = .returned (.bool (!Wi.areB lo hi l)) ∧ w' = w := by
 have HI := Lib.hid (idxInts_any l hl v lo hi pl ph w h h1 h2)
 have hd := idxP_any (fun n => !Wi.inB n lo hi) l 0
 rw [any_not] at hd
 generalize idxP (fun n => !Wi.inB n lo hi) 0 l = r at *
 obtain ⟨a, cap, rfl⟩ := h.form
 have HD := Lib.hid hd
 clear h h1 h2 hl hd
 cases hb : Wi.areB lo hi l with
 | true =>
  rw [hb] at HD
  have hr : decide (0 ≤ r) = false := HD.out
  have hr2 : r < 0 := by simpa using hr
  go_enter Tryz.func89, Tryz.ntmps89
  go_wp2_with fail
  refine HI.out.mono ?_
  rintro e w1 ⟨rfl, rfl⟩
  go_wp2
  go_ret
  exact ⟨by simp [hr2], rfl⟩
 | false =>
  rw [hb] at HD
  have hr : decide (0 ≤ r) = true := HD.out
  have hr2 : 0 ≤ r := by simpa using hr
  go_enter Tryz.func89, Tryz.ntmps89
  go_wp2_with fail
  refine HI.out.mono ?_
  rintro e w1 ⟨rfl, rfl⟩
  go_wp2
  go_ret
  exact ⟨by simp [hr2], rfl⟩
theorem are_sz (l : List Int) (hl : l.length ≤ maxLen) (v : Value) (lo hi : Int) (w : World) (h : Ints w v l) :
  Calls Tryz.prog 33 #[.int .i64 lo, .int .i64 hi, v] w fun e w' => e = .returned (.bool (Wi.areB lo hi l)) ∧ Below w.heap.size w w' ∧ w'.heap.size = w.heap.size + 2 := by
 have C1 : Hid (Cl (w.alloc (.cells #[.int .i64 lo] 3)) w.heap.size [.int .i64 lo] 3) := Cl.new w _ _
 have C2 : Hid (Cl ((w.alloc (.cells #[.int .i64 lo] 3)).alloc (.cells #[.int .i64 hi] 3)) (w.heap.size + 1) [.int .i64 hi] 3) := by
  have h := Cl.new (w.alloc (.cells #[.int .i64 lo] 3)) [.int .i64 hi] 3
  rw [World.size_alloc] at h
  exact h
 have C3 : Hid (Cl ((w.alloc (.cells #[.int .i64 lo] 3)).alloc (.cells #[.int .i64 hi] 3)) w.heap.size [.int .i64 lo] 3) := C1.out.alloc _
 have B2 : Hid (Below w.heap.size w ((w.alloc (.cells #[.int .i64 lo] 3)).alloc (.cells #[.int .i64 hi] 3))) := ((Below.refl _ _).alloc (Nat.le_refl _) _).alloc (by simp) _
 have HC := Lib.hid (containsInts_any l hl v lo hi w.heap.size (w.heap.size + 1) _ (h.kept B2.out) C3.out C2.out)
 obtain ⟨a, cap, rfl⟩ := h.form
 generalize Wi.areB lo hi l = b at *
 clear h hl C1 C2 C3
 go_enter Tryz.func33, Tryz.ntmps33
 go_wp2_with fail
 refine HC.out.mono ?_
 rintro e w3 ⟨rfl, rfl⟩
 cases b <;>
 ·go_wp2
  go_ret
  exact ⟨rfl, B2.out, by simp⟩
theorem are_any (l : List Int) (hl : l.length ≤ maxLen) (v : Value) (lo hi : Int) (w : World) (h : Ints w v l) :
  Calls Tryz.prog 33 #[.int .i64 lo, .int .i64 hi, v] w fun e w' => e = .returned (.bool (Wi.areB lo hi l)) ∧ Below w.heap.size w w' :=
 (are_sz l hl v lo hi w h).mono fun e w' ⟨he, hb, _⟩ => ⟨he, hb⟩
end Go.Proofs.YtjfpbeccpcbpcaaGreatDoor
