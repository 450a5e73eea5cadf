/-
  Bwc / Bwd / Bwe / Bwx / Wq: texts of one proof, one behind the other.
  Conditions: none of its own.
-/
import Derived.Test.YtbljbdjmgogknaaGreatDoorZad
import Derived.Test.YtbljbdjmgogknaaGreatDoorZae
set_option linter.unusedVariables false
set_option linter.unusedSimpArgs false
set_option maxHeartbeats 400000
namespace Go.Proofs.YtbljbdjmgogknaaGreatDoor
open Go.RowKit
theorem cut_any (l : List UInt8) (c : UInt8) (hl : l.length < 4294967281) (w : World) (hw : Lw w) : Calls Tryz.prog 117 #[.string ⟨l.toArray⟩,.string ⟨#[c]⟩] w fun e w' =>
  e = .returned (.tuple #[.string ⟨(Lib.cut l [c]).1.toArray⟩,.string ⟨(Lib.cut l [c]).2.1.toArray⟩,.bool (Lib.cut l [c]).2.2]) ∧ Below w.heap.size w w' := by
 obtain ⟨m,hm⟩ := hw.mx
 refine (Tryz.strings_Cut ⟨l.toArray⟩ ⟨#[c]⟩ m w hl hm).mono ?_
 rintro e w' ⟨he,n,rfl⟩
 exact ⟨he,below_drewN (Below.refl _ _) n⟩
theorem atoi_ok (l : List UInt8) (v : Int) (h : Lib.atoiAll l = .ok v) (hl : l.length ≤ 281474976710656) (w : World) : Calls Tryz.prog 118 #[.string ⟨l.toArray⟩] w fun e w' =>
  e = .returned (.tuple #[.int .i64 v,.nilIface]) ∧ Below w.heap.size w w' := by
 refine (Tryz.strconv_Atoi_ok ⟨l.toArray⟩ (by show l.length ≤ _; omega) v h w).mono ?_
 rintro e w' ⟨he,rfl | ⟨t,rfl⟩⟩
 ·exact ⟨he,Below.refl _ _⟩
 ·exact ⟨he,below_bytesWorld _ _ _⟩
def AtoiNo (w : World) (e : Ending) (w' : World) : Prop := ∃ m N,e = .returned (.tuple #[.int .i64 m,.iface 187 (.pointer (some ⟨N,0,none⟩))]) ∧ Below w.heap.size w w'
theorem atoi_no (l : List UInt8) (h : ∀ v,Lib.atoiAll l ≠ .ok v) (hl : l.length ≤ 281474976710656) (w : World) (hw : Lw w) : Calls Tryz.prog 118 #[.string ⟨l.toArray⟩] w (AtoiNo w) := by
 obtain ⟨t2,p2,h2⟩ := hw.syn
 obtain ⟨t3,p3,h3⟩ := hw.rng
 cases hh : Lib.atoiAll l
 ·exact absurd hh (h _)
 ·refine (Any.strconv_Atoi_syntax_var Tryz.laysC172 ⟨l.toArray⟩ hl hh t2 p2 w h2).mono ?_
  rintro e w' ⟨N,he,_,_,hb⟩
  exact ⟨_,N,he,hb⟩
 ·refine (Any.strconv_Atoi_range_var Tryz.laysC172 ⟨l.toArray⟩ hl hh t3 p3 w h3).mono ?_
  rintro e w' ⟨N,he,_,_,hb⟩
  exact ⟨_,N,he,hb⟩
theorem int_bad (p : Nat) (s : List UInt8) (w : World) (h : Rd w p (s,true)) : Calls Tryz.prog 92 #[.pointer (some ⟨p,0,none⟩)] w fun e w' => e = .returned (.int .i64 0) ∧ w = w' := by
 have H := hq' h
 clear h
 go_enter Tryz.func92,Tryz.ntmps92
 go_wp2_with fail
 go_step3
 go_wp2_with fail
 refine (ready_any _ _ _ H.out).mono ?_
 rintro e w1 ⟨rfl,rfl⟩
 go_wp2
 rw [Exit.noGoto_ret]
 go_ret
 exact ⟨rfl,rfl⟩
theorem int_yes (p : Nat) (s r : List UInt8) (n : Int) (hn : Bd.inR n) (w : World) (h : Rd w p (s,false)) (hl : s.length < 4294967281) (hs : s = Bd.bInt n ++ r) (hw : Lw w) :
  Calls Tryz.prog 92 #[.pointer (some ⟨p,0,none⟩)] w (RdV (.int .i64 n) w p (r,false)) := by
 have H := hq' h
 have HW := hq' hw
 have HC := hq' (cut_any s 101 hl w hw)
 rw [hs,Bd.cut_int,← hs] at HC
 have hli : (Lib.itoa n).length ≤ 21 := Lib.itoa_length_le n hn.1 hn.2
 have hpre : Lib.hasPrefix (105::Lib.itoa n) [105] = true := by rw [Bd.pre_one]; simp
 have HP : Hid (∀ w,Calls Tryz.prog 116 #[.string ⟨(105::Lib.itoa n).toArray⟩,.string ⟨#[105]⟩] w fun e w' => e = .returned (.tuple #[.string ⟨(Lib.itoa n).toArray⟩,.bool true]) ∧ w = w') := fun w => by
  have := cutPrefix_any (105::Lib.itoa n) 105 w
  rwa [Bd.trim_hit,hpre] at this
 have HA : Hid (∀ w,Calls Tryz.prog 118 #[.string ⟨(Lib.itoa n).toArray⟩] w fun e w' => e = .returned (.tuple #[.int .i64 n,.nilIface]) ∧ Below w.heap.size w w') := fun w => atoi_ok _ n (Bd.atoi_itoa hn) (by omega) w
 have HI : Hid (∀ w,Lw w → Calls Tryz.prog 112 #[.int .i64 n] w fun e w' => e = .returned (.string ⟨(Lib.itoa n).toArray⟩) ∧ Below w.heap.size w w') := fun w hw => itoa_any n hn w hw
 obtain ⟨c0,c1⟩ := h.cells
 clear h hw hl hs hpre hli
 generalize Lib.itoa n = d at HC HP HA HI
 go_enter Tryz.func92,Tryz.ntmps92
 go_wp2_with fail
 go_step3
 go_wp2_with fail
 refine (ready_any _ _ _ H.out).mono ?_
 rintro e w1 ⟨rfl,rfl⟩
 go_wp2_with fail
 refine HC.out.mono ?_
 rintro e w1 ⟨rfl,hb1⟩
 have HB1 := hq' hb1
 clear hb1 c0 c1
 go_wp2_with fail
 refine (HP.out _).mono ?_
 rintro e w2 ⟨rfl,rfl⟩
 go_wp2_with fail
 refine (HA.out _).mono ?_
 rintro e w2 ⟨rfl,hb2⟩
 have HB2 := hq' (bt HB1.out hb2)
 clear hb2 HB1
 go_wp2_with fail
 refine (HI.out _ (HW.out.below HB2.out)).mono ?_
 rintro e w3 ⟨rfl,hb3⟩
 have HB3 := hq' (bt HB2.out hb3)
 clear hb3 HB2
 have HR := hq' (H.out.below HB3.out)
 obtain ⟨c0,c1⟩ := HR.out.cells
 obtain ⟨f0,f1⟩ := HR.out.free
 go_wp2
 rw [Exit.noGoto_ret]
 go_ret
 exact ⟨rfl,HR.out.set0 r,(Keeps.below _ HB3.out).trans (keepsP _ _ _ _)⟩
/-! ### Where it goes wrong -/
def AtoiAny (w : World) (e : Ending) (w' : World) : Prop := ∃ m ev,e = .returned (.tuple #[.int .i64 m,ev]) ∧ Below w.heap.size w w'
theorem atoi_any (l : List UInt8) (hl : l.length ≤ 281474976710656) (w : World) (hw : Lw w) : Calls Tryz.prog 118 #[.string ⟨l.toArray⟩] w (AtoiAny w) := by
 by_cases h : ∃ v,Lib.atoiAll l = .ok v
 ·obtain ⟨v,h⟩ := h
  exact (atoi_ok l v h hl w).mono fun e w' ⟨he,hb⟩ => ⟨_,_,he,hb⟩
 ·exact (atoi_no l (fun v hv => h ⟨v,hv⟩) hl w hw).mono fun e w' ⟨m,N,he,hb⟩ => ⟨_,_,he,hb⟩
theorem str_ne {a b : List UInt8} (h : a ≠ b) : (a == b) = false := beq_eq_false_iff_ne.2 h
theorem int_no1 (p : Nat) (s word rest d : List UInt8) (w : World) (h : Rd w p (s,false)) (hw : Lw w) (hd : d.length ≤ 281474976710656) (is : Bool)
  (HC : Hid (Calls Tryz.prog 117 #[.string ⟨s.toArray⟩,.string ⟨#[101]⟩] w fun e w' => e = .returned (.tuple #[.string ⟨word.toArray⟩,.string ⟨rest.toArray⟩,.bool false]) ∧ Below w.heap.size w w'))
  (HP : Hid (∀ w,Calls Tryz.prog 116 #[.string ⟨word.toArray⟩,.string ⟨#[105]⟩] w fun e w' => e = .returned (.tuple #[.string ⟨d.toArray⟩,.bool is]) ∧ w = w')) :
  Calls Tryz.prog 92 #[.pointer (some ⟨p,0,none⟩)] w (RdV (.int .i64 0) w p (s,true)) := by
 have H := hq' h
 have HW := hq' hw
 obtain ⟨c0,c1⟩ := h.cells
 clear h hw
 have HA : Hid (∀ w,Lw w → Calls Tryz.prog 118 #[.string ⟨d.toArray⟩] w (AtoiAny w)) := fun w hw => atoi_any d hd w hw
 go_enter Tryz.func92,Tryz.ntmps92
 go_wp2_with fail
 refine wp_scope_fwd 0 rfl ?_
 go_wp2_with fail
 refine (ready_any _ _ _ H.out).mono ?_
 rintro e w1 ⟨rfl,rfl⟩
 go_wp2_with fail
 refine HC.out.mono ?_
 rintro e w1 ⟨rfl,hb1⟩
 have HB1 := hq' hb1
 clear hb1 c0 c1
 go_wp2_with fail
 refine (HP.out _).mono ?_
 rintro e w2 ⟨rfl,rfl⟩
 go_wp2_with fail
 refine (HA.out _ (HW.out.below HB1.out)).mono ?_
 rintro e w2 ⟨m,ev,rfl,hb2⟩
 have HB2 := hq' (bt HB1.out hb2)
 clear hb2 HB1
 have HR := hq' (H.out.below HB2.out)
 obtain ⟨c0,c1⟩ := HR.out.cells
 obtain ⟨f0,f1⟩ := HR.out.free
 go_wp2
 go_step3
 refine ⟨rfl,?_⟩
 go_wp2
 rw [Exit.noGoto_ret]
 go_ret
 exact ⟨rfl,HR.out.set1 true,(Keeps.below _ HB2.out).trans (keepsP _ _ _ _)⟩
theorem int_no2 (p : Nat) (s word rest d : List UInt8) (w : World) (h : Rd w p (s,false)) (hw : Lw w) (hd : d.length ≤ 281474976710656)
  (HC : Hid (Calls Tryz.prog 117 #[.string ⟨s.toArray⟩,.string ⟨#[101]⟩] w fun e w' => e = .returned (.tuple #[.string ⟨word.toArray⟩,.string ⟨rest.toArray⟩,.bool true]) ∧ Below w.heap.size w w'))
  (HP : Hid (∀ w,Calls Tryz.prog 116 #[.string ⟨word.toArray⟩,.string ⟨#[105]⟩] w fun e w' => e = .returned (.tuple #[.string ⟨d.toArray⟩,.bool false]) ∧ w = w')) :
  Calls Tryz.prog 92 #[.pointer (some ⟨p,0,none⟩)] w (RdV (.int .i64 0) w p (s,true)) := by
 have H := hq' h
 have HW := hq' hw
 obtain ⟨c0,c1⟩ := h.cells
 clear h hw
 have HA : Hid (∀ w,Lw w → Calls Tryz.prog 118 #[.string ⟨d.toArray⟩] w (AtoiAny w)) := fun w hw => atoi_any d hd w hw
 go_enter Tryz.func92,Tryz.ntmps92
 go_wp2_with fail
 refine wp_scope_fwd 0 rfl ?_
 go_wp2_with fail
 refine (ready_any _ _ _ H.out).mono ?_
 rintro e w1 ⟨rfl,rfl⟩
 go_wp2_with fail
 refine HC.out.mono ?_
 rintro e w1 ⟨rfl,hb1⟩
 have HB1 := hq' hb1
 clear hb1 c0 c1
 go_wp2_with fail
 refine (HP.out _).mono ?_
 rintro e w2 ⟨rfl,rfl⟩
 go_wp2_with fail
 refine (HA.out _ (HW.out.below HB1.out)).mono ?_
 rintro e w2 ⟨m,ev,rfl,hb2⟩
 have HB2 := hq' (bt HB1.out hb2)
 clear hb2 HB1
 have HR := hq' (H.out.below HB2.out)
 obtain ⟨c0,c1⟩ := HR.out.cells
 obtain ⟨f0,f1⟩ := HR.out.free
 go_wp2
 go_step3
 refine ⟨rfl,?_⟩
 go_wp2
 rw [Exit.noGoto_ret]
 go_ret
 exact ⟨rfl,HR.out.set1 true,(Keeps.below _ HB2.out).trans (keepsP _ _ _ _)⟩
theorem int_no3 (p : Nat) (s word rest d : List UInt8) (w : World) (h : Rd w p (s,false)) (hw : Lw w) (hd : d.length ≤ 281474976710656) (hno : ∀ v,Lib.atoiAll d ≠ .ok v)
  (HC : Hid (Calls Tryz.prog 117 #[.string ⟨s.toArray⟩,.string ⟨#[101]⟩] w fun e w' => e = .returned (.tuple #[.string ⟨word.toArray⟩,.string ⟨rest.toArray⟩,.bool true]) ∧ Below w.heap.size w w'))
  (HP : Hid (∀ w,Calls Tryz.prog 116 #[.string ⟨word.toArray⟩,.string ⟨#[105]⟩] w fun e w' => e = .returned (.tuple #[.string ⟨d.toArray⟩,.bool true]) ∧ w = w')) :
  Calls Tryz.prog 92 #[.pointer (some ⟨p,0,none⟩)] w (RdV (.int .i64 0) w p (s,true)) := by
 have H := hq' h
 have HW := hq' hw
 obtain ⟨c0,c1⟩ := h.cells
 clear h hw
 have HA : Hid (∀ w,Lw w → Calls Tryz.prog 118 #[.string ⟨d.toArray⟩] w (AtoiNo w)) := fun w hw => atoi_no d hno hd w hw
 go_enter Tryz.func92,Tryz.ntmps92
 go_wp2_with fail
 refine wp_scope_fwd 0 rfl ?_
 go_wp2_with fail
 refine (ready_any _ _ _ H.out).mono ?_
 rintro e w1 ⟨rfl,rfl⟩
 go_wp2_with fail
 refine HC.out.mono ?_
 rintro e w1 ⟨rfl,hb1⟩
 have HB1 := hq' hb1
 clear hb1 c0 c1
 go_wp2_with fail
 refine (HP.out _).mono ?_
 rintro e w2 ⟨rfl,rfl⟩
 go_wp2_with fail
 refine (HA.out _ (HW.out.below HB1.out)).mono ?_
 rintro e w2 ⟨m,N,rfl,hb2⟩
 have HB2 := hq' (bt HB1.out hb2)
 clear hb2 HB1
 have HR := hq' (H.out.below HB2.out)
 obtain ⟨c0,c1⟩ := HR.out.cells
 obtain ⟨f0,f1⟩ := HR.out.free
 go_wp2
 go_step3
 refine ⟨rfl,?_⟩
 go_wp2
 rw [Exit.noGoto_ret]
 go_ret
 exact ⟨rfl,HR.out.set1 true,(Keeps.below _ HB2.out).trans (keepsP _ _ _ _)⟩
theorem int_no4 (p : Nat) (s word rest d : List UInt8) (w : World) (h : Rd w p (s,false)) (hw : Lw w) (hd : d.length ≤ 281474976710656) (v : Int) (hv : Lib.atoiAll d = .ok v) (hne : Lib.itoa v ≠ d)
  (HC : Hid (Calls Tryz.prog 117 #[.string ⟨s.toArray⟩,.string ⟨#[101]⟩] w fun e w' => e = .returned (.tuple #[.string ⟨word.toArray⟩,.string ⟨rest.toArray⟩,.bool true]) ∧ Below w.heap.size w w'))
  (HP : Hid (∀ w,Calls Tryz.prog 116 #[.string ⟨word.toArray⟩,.string ⟨#[105]⟩] w fun e w' => e = .returned (.tuple #[.string ⟨d.toArray⟩,.bool true]) ∧ w = w')) :
  Calls Tryz.prog 92 #[.pointer (some ⟨p,0,none⟩)] w (RdV (.int .i64 0) w p (s,true)) := by
 have H := hq' h
 have HW := hq' hw
 obtain ⟨c0,c1⟩ := h.cells
 clear h hw
 have hn := Lib.atoiAll_bounds hv
 have HA : Hid (∀ w,Calls Tryz.prog 118 #[.string ⟨d.toArray⟩] w fun e w' => e = .returned (.tuple #[.int .i64 v,.nilIface]) ∧ Below w.heap.size w w') := fun w => atoi_ok d v hv hd w
 have HI : Hid (∀ w,Lw w → Calls Tryz.prog 112 #[.int .i64 v] w fun e w' => e = .returned (.string ⟨(Lib.itoa v).toArray⟩) ∧ Below w.heap.size w w') := fun w hw => itoa_any v hn w hw
 have hne' := str_ne hne
 clear hv hn hne
 generalize Lib.itoa v = t at HI hne'
 go_enter Tryz.func92,Tryz.ntmps92
 go_wp2_with fail
 refine wp_scope_fwd 0 rfl ?_
 go_wp2_with fail
 refine (ready_any _ _ _ H.out).mono ?_
 rintro e w1 ⟨rfl,rfl⟩
 go_wp2_with fail
 refine HC.out.mono ?_
 rintro e w1 ⟨rfl,hb1⟩
 have HB1 := hq' hb1
 clear hb1 c0 c1
 go_wp2_with fail
 refine (HP.out _).mono ?_
 rintro e w2 ⟨rfl,rfl⟩
 go_wp2_with fail
 refine (HA.out _).mono ?_
 rintro e w2 ⟨rfl,hb2⟩
 have HB2 := hq' (bt HB1.out hb2)
 clear hb2 HB1
 go_wp2_with fail
 refine (HI.out _ (HW.out.below HB2.out)).mono ?_
 rintro e w3 ⟨rfl,hb3⟩
 have HB3 := hq' (bt HB2.out hb3)
 clear hb3 HB2
 have HB2 := HB3
 clear HB3
 have HR := hq' (H.out.below HB2.out)
 obtain ⟨c0,c1⟩ := HR.out.cells
 obtain ⟨f0,f1⟩ := HR.out.free
 go_wp2
 go_step3
 refine ⟨rfl,?_⟩
 go_wp2
 rw [Exit.noGoto_ret]
 go_ret
 exact ⟨rfl,HR.out.set1 true,(Keeps.below _ HB2.out).trans (keepsP _ _ _ _)⟩
theorem int_any (p : Nat) (q : Bd.St) (w : World) (h : Rd w p q) (hl : q.1.length < 4294967281) (hw : Lw w) :
  Calls Tryz.prog 92 #[.pointer (some ⟨p,0,none⟩)] w (RdV (.int .i64 (Bd.sInt q).1) w p (Bd.sInt q).2) := by
 obtain ⟨s,b⟩ := q
 cases b with
 | true => exact (int_bad p s w h).mono fun e w' ⟨he,hw'⟩ => ⟨he,hw' ▸ h,hw' ▸ Keeps.refl _ _⟩
 | false =>
  cases hr : Bd.rdInt s with
  | some x =>
   obtain ⟨n,r⟩ := x
   obtain ⟨hn,hs⟩ := Bd.rdInt_some hr
   have e : Bd.sInt (s,false) = (n,(r,false)) := by simp [Bd.sInt,hr]
   rw [e]
   exact int_yes p s r n hn w h hl hs hw
  | none =>
   have e : Bd.sInt (s,false) = (0,(s,true)) := by simp [Bd.sInt,hr]
   rw [e]
   have hl' : s.length < 4294967281 := hl
   have HC := hq' (cut_any s 101 hl w hw)
   have HP : Hid (∀ w,Calls Tryz.prog 116 #[.string ⟨((Lib.cut s [101]).1).toArray⟩,.string ⟨#[105]⟩] w fun e w' => e = .returned (.tuple #[.string ⟨(Lib.trimPrefix (Lib.cut s [101]).1 [105]).toArray⟩,.bool (Lib.hasPrefix (Lib.cut s [101]).1 [105])]) ∧ w = w') := fun w => cutPrefix_any _ 105 w
   have hd : (Lib.trimPrefix (Lib.cut s [101]).1 [105]).length ≤ 281474976710656 := by
    have h1 := Lib.trimPrefix_le (Lib.cut s [101]).1 [105]
    have h2 : (Lib.cut s [101]).1.length ≤ s.length := by
     rcases Bd.cut_cases s 101 with ⟨_,e⟩ | ⟨a,b,_,e1,e⟩
     ·rw [e]; exact Nat.le_refl _
     ·rw [e,e1]; simp
    omega
   unfold Bd.rdInt at hr
   generalize Lib.trimPrefix (Lib.cut s [101]).1 [105] = d at *
   generalize Lib.hasPrefix (Lib.cut s [101]).1 [105] = is at *
   generalize Lib.cut s [101] = k at *
   obtain ⟨word,rest,ok⟩ := k
   simp only at *
   cases ok with
   | false => exact int_no1 p s word rest d w h hw hd is HC HP
   | true =>
    cases is with
    | false => exact int_no2 p s word rest d w h hw hd HC HP
    | true =>
     by_cases hv : ∃ v,Lib.atoiAll d = .ok v
     ·obtain ⟨v,hv⟩ := hv
      rw [hv] at hr
      refine int_no4 p s word rest d w h hw hd v hv ?_ HC HP
      intro he
      simp [he] at hr
     ·exact int_no3 p s word rest d w h hw hd (fun v hv' => hv ⟨v,hv'⟩) HC HP
open Go.RowKit
theorem text_bad (p : Nat) (most : Int) (s : List UInt8) (w : World) (h : Rd w p (s,true)) :
  Calls Tryz.prog 97 #[.pointer (some ⟨p,0,none⟩),.int .i64 most] w fun e w' => e = .returned (.string ⟨([] : List UInt8).toArray⟩) ∧ w = w' := by
 have H := hq' h
 clear h
 go_enter Tryz.func97,Tryz.ntmps97
 go_wp2_with fail
 go_step3
 go_wp2_with fail
 refine (ready_any _ _ _ H.out).mono ?_
 rintro e w1 ⟨rfl,rfl⟩
 go_wp2
 rw [Exit.noGoto_ret]
 go_ret
 exact ⟨rfl,rfl⟩
theorem text_yes (p : Nat) (most : Int) (s rest d t r : List UInt8) (w : World) (h : Rd w p (s,false)) (hw : Lw w) (hd : d.length ≤ 281474976710656) (hv : Lib.atoiAll d = .ok (t.length : Int)) (hi : Lib.itoa (t.length : Int) = d) (hm : (t.length : Int) ≤ most) (hr : rest = t ++ r) (HC : Hid (Calls Tryz.prog 117 #[.string ⟨s.toArray⟩,.string ⟨#[58]⟩] w fun e w' => e = .returned (.tuple #[.string ⟨d.toArray⟩,.string ⟨rest.toArray⟩,.bool true]) ∧ Below w.heap.size w w')) :
  Calls Tryz.prog 97 #[.pointer (some ⟨p,0,none⟩),.int .i64 most] w (RdV (.string ⟨t.toArray⟩) w p (r,false)) := by
 have H := hq' h
 have HW := hq' hw
 obtain ⟨c0,c1⟩ := h.cells
 clear h hw
 have hn := Lib.atoiAll_bounds hv
 have HA : Hid (∀ w,Calls Tryz.prog 118 #[.string ⟨d.toArray⟩] w fun e w' => e = .returned (.tuple #[.int .i64 (t.length : Int),.nilIface]) ∧ Below w.heap.size w w') := fun w => atoi_ok d (t.length : Int) hv hd w
 have HI : Hid (∀ w,Lw w → Calls Tryz.prog 112 #[.int .i64 (t.length : Int)] w fun e w' => e = .returned (.string ⟨(Lib.itoa (t.length : Int)).toArray⟩) ∧ Below w.heap.size w w') := fun w hw => itoa_any (t.length : Int) hn w hw
 have hs1 := str_from (P := Tryz.prog) (t ++ r) t.length t.length rfl (by simp) 9 .i64 Tryz.underlying9
 have hs2 := str_to (P := Tryz.prog) (t ++ r) t.length t.length .i64 rfl (by simp) 9 Tryz.underlying9
 rw [List.drop_left] at hs1
 rw [List.take_left] at hs2
 rw [← hr] at hs1 hs2
 rw [hi] at HI
 have hle : t.length ≤ rest.length := by rw [hr]; simp
 have heq : (d == d) = true := by simp
 clear hv hi hn hr
 generalize t.length = k at *
 go_enter Tryz.func97,Tryz.ntmps97
 go_wp2_with fail
 go_step3
 go_wp2_with fail
 refine (ready_any _ _ _ H.out).mono ?_
 rintro e w1 ⟨rfl,rfl⟩
 go_wp2_with fail
 refine HC.out.mono ?_
 rintro e w1 ⟨rfl,hb1⟩
 have HB1 := hq' hb1
 clear hb1 c0 c1
 go_wp2_with fail
 refine (HA.out _).mono ?_
 rintro e w2 ⟨rfl,hb2⟩
 have HB2 := hq' (bt HB1.out hb2)
 clear hb2 HB1
 go_wp2_with fail
 refine (HI.out _ (HW.out.below HB2.out)).mono ?_
 rintro e w3 ⟨rfl,hb3⟩
 have HB3 := hq' (bt HB2.out hb3)
 clear hb3 HB2
 have HB2 := HB3
 clear HB3
 have HR := hq' (H.out.below HB2.out)
 obtain ⟨c0,c1⟩ := HR.out.cells
 obtain ⟨f0,f1⟩ := HR.out.free
 go_wp2
 rw [Exit.noGoto_ret]
 go_ret
 exact ⟨rfl,HR.out.set0 r,(Keeps.below _ HB2.out).trans (keepsP _ _ _ _)⟩
theorem text_no1 (p : Nat) (most : Int) (s rest d : List UInt8) (w : World) (h : Rd w p (s,false)) (hw : Lw w) (hd : d.length ≤ 281474976710656) (HC : Hid (Calls Tryz.prog 117 #[.string ⟨s.toArray⟩,.string ⟨#[58]⟩] w fun e w' => e = .returned (.tuple #[.string ⟨d.toArray⟩,.string ⟨rest.toArray⟩,.bool false]) ∧ Below w.heap.size w w')) :
  Calls Tryz.prog 97 #[.pointer (some ⟨p,0,none⟩),.int .i64 most] w (RdV (.string ⟨([] : List UInt8).toArray⟩) w p (s,true)) := by
 have H := hq' h
 have HW := hq' hw
 obtain ⟨c0,c1⟩ := h.cells
 clear h hw
 have HA : Hid (∀ w,Lw w → Calls Tryz.prog 118 #[.string ⟨d.toArray⟩] w (AtoiAny w)) := fun w hw => atoi_any d hd w hw
 go_enter Tryz.func97,Tryz.ntmps97
 go_wp2_with fail
 refine wp_scope_fwd 0 rfl ?_
 go_wp2_with fail
 refine (ready_any _ _ _ H.out).mono ?_
 rintro e w1 ⟨rfl,rfl⟩
 go_wp2_with fail
 refine HC.out.mono ?_
 rintro e w1 ⟨rfl,hb1⟩
 have HB1 := hq' hb1
 clear hb1 c0 c1
 go_wp2_with fail
 refine (HA.out _ (HW.out.below HB1.out)).mono ?_
 rintro e w2 ⟨m,ev,rfl,hb2⟩
 have HB2 := hq' (bt HB1.out hb2)
 clear hb2 HB1
 have HR := hq' (H.out.below HB2.out)
 obtain ⟨c0,c1⟩ := HR.out.cells
 obtain ⟨f0,f1⟩ := HR.out.free
 go_wp2
 go_step3
 refine ⟨rfl,?_⟩
 go_wp2
 rw [Exit.noGoto_ret]
 go_ret
 exact ⟨rfl,HR.out.set1 true,(Keeps.below _ HB2.out).trans (keepsP _ _ _ _)⟩
theorem text_no2 (p : Nat) (most : Int) (s rest d : List UInt8) (w : World) (h : Rd w p (s,false)) (hw : Lw w) (hd : d.length ≤ 281474976710656) (hno : ∀ v,Lib.atoiAll d ≠ .ok v) (HC : Hid (Calls Tryz.prog 117 #[.string ⟨s.toArray⟩,.string ⟨#[58]⟩] w fun e w' => e = .returned (.tuple #[.string ⟨d.toArray⟩,.string ⟨rest.toArray⟩,.bool true]) ∧ Below w.heap.size w w')) :
  Calls Tryz.prog 97 #[.pointer (some ⟨p,0,none⟩),.int .i64 most] w (RdV (.string ⟨([] : List UInt8).toArray⟩) w p (s,true)) := by
 have H := hq' h
 have HW := hq' hw
 obtain ⟨c0,c1⟩ := h.cells
 clear h hw
 have HA : Hid (∀ w,Lw w → Calls Tryz.prog 118 #[.string ⟨d.toArray⟩] w (AtoiNo w)) := fun w hw => atoi_no d hno hd w hw
 go_enter Tryz.func97,Tryz.ntmps97
 go_wp2_with fail
 refine wp_scope_fwd 0 rfl ?_
 go_wp2_with fail
 refine (ready_any _ _ _ H.out).mono ?_
 rintro e w1 ⟨rfl,rfl⟩
 go_wp2_with fail
 refine HC.out.mono ?_
 rintro e w1 ⟨rfl,hb1⟩
 have HB1 := hq' hb1
 clear hb1 c0 c1
 go_wp2_with fail
 refine (HA.out _ (HW.out.below HB1.out)).mono ?_
 rintro e w2 ⟨m,N,rfl,hb2⟩
 have HB2 := hq' (bt HB1.out hb2)
 clear hb2 HB1
 have HR := hq' (H.out.below HB2.out)
 obtain ⟨c0,c1⟩ := HR.out.cells
 obtain ⟨f0,f1⟩ := HR.out.free
 go_wp2
 go_step3
 refine ⟨rfl,?_⟩
 go_wp2
 rw [Exit.noGoto_ret]
 go_ret
 exact ⟨rfl,HR.out.set1 true,(Keeps.below _ HB2.out).trans (keepsP _ _ _ _)⟩
theorem text_no3 (p : Nat) (most : Int) (s rest d : List UInt8) (w : World) (h : Rd w p (s,false)) (hw : Lw w) (hd : d.length ≤ 281474976710656) (v : Int) (hv : Lib.atoiAll d = .ok v) (hne : Lib.itoa v ≠ d) (HC : Hid (Calls Tryz.prog 117 #[.string ⟨s.toArray⟩,.string ⟨#[58]⟩] w fun e w' => e = .returned (.tuple #[.string ⟨d.toArray⟩,.string ⟨rest.toArray⟩,.bool true]) ∧ Below w.heap.size w w')) :
  Calls Tryz.prog 97 #[.pointer (some ⟨p,0,none⟩),.int .i64 most] w (RdV (.string ⟨([] : List UInt8).toArray⟩) w p (s,true)) := by
 have H := hq' h
 have HW := hq' hw
 obtain ⟨c0,c1⟩ := h.cells
 clear h hw
 have hn := Lib.atoiAll_bounds hv
 have HA : Hid (∀ w,Calls Tryz.prog 118 #[.string ⟨d.toArray⟩] w fun e w' => e = .returned (.tuple #[.int .i64 v,.nilIface]) ∧ Below w.heap.size w w') := fun w => atoi_ok d v hv hd w
 have HI : Hid (∀ w,Lw w → Calls Tryz.prog 112 #[.int .i64 v] w fun e w' => e = .returned (.string ⟨(Lib.itoa v).toArray⟩) ∧ Below w.heap.size w w') := fun w hw => itoa_any v hn w hw
 have hne' := str_ne hne
 clear hv hn hne
 generalize Lib.itoa v = t at HI hne'
 go_enter Tryz.func97,Tryz.ntmps97
 go_wp2_with fail
 refine wp_scope_fwd 0 rfl ?_
 go_wp2_with fail
 refine (ready_any _ _ _ H.out).mono ?_
 rintro e w1 ⟨rfl,rfl⟩
 go_wp2_with fail
 refine HC.out.mono ?_
 rintro e w1 ⟨rfl,hb1⟩
 have HB1 := hq' hb1
 clear hb1 c0 c1
 go_wp2_with fail
 refine (HA.out _).mono ?_
 rintro e w2 ⟨rfl,hb2⟩
 have HB2 := hq' (bt HB1.out hb2)
 clear hb2 HB1
 go_wp2_with fail
 refine (HI.out _ (HW.out.below HB2.out)).mono ?_
 rintro e w3 ⟨rfl,hb3⟩
 have HB3 := hq' (bt HB2.out hb3)
 clear hb3 HB2
 have HB2 := HB3
 clear HB3
 have HR := hq' (H.out.below HB2.out)
 obtain ⟨c0,c1⟩ := HR.out.cells
 obtain ⟨f0,f1⟩ := HR.out.free
 go_wp2
 go_step3
 refine ⟨rfl,?_⟩
 go_wp2
 rw [Exit.noGoto_ret]
 go_ret
 exact ⟨rfl,HR.out.set1 true,(Keeps.below _ HB2.out).trans (keepsP _ _ _ _)⟩
theorem text_no4 (p : Nat) (most : Int) (s rest d : List UInt8) (w : World) (h : Rd w p (s,false)) (hw : Lw w) (hd : d.length ≤ 281474976710656) (v : Int) (hv : Lib.atoiAll d = .ok v) (hi : Lib.itoa v = d) (h0 : v < 0) (HC : Hid (Calls Tryz.prog 117 #[.string ⟨s.toArray⟩,.string ⟨#[58]⟩] w fun e w' => e = .returned (.tuple #[.string ⟨d.toArray⟩,.string ⟨rest.toArray⟩,.bool true]) ∧ Below w.heap.size w w')) :
  Calls Tryz.prog 97 #[.pointer (some ⟨p,0,none⟩),.int .i64 most] w (RdV (.string ⟨([] : List UInt8).toArray⟩) w p (s,true)) := by
 have H := hq' h
 have HW := hq' hw
 obtain ⟨c0,c1⟩ := h.cells
 clear h hw
 have hn := Lib.atoiAll_bounds hv
 have HA : Hid (∀ w,Calls Tryz.prog 118 #[.string ⟨d.toArray⟩] w fun e w' => e = .returned (.tuple #[.int .i64 v,.nilIface]) ∧ Below w.heap.size w w') := fun w => atoi_ok d v hv hd w
 have HI : Hid (∀ w,Lw w → Calls Tryz.prog 112 #[.int .i64 v] w fun e w' => e = .returned (.string ⟨(Lib.itoa v).toArray⟩) ∧ Below w.heap.size w w') := fun w hw => itoa_any v hn w hw
 rw [hi] at HI
 have heq : (d == d) = true := by simp
 clear hv hi hn
 go_enter Tryz.func97,Tryz.ntmps97
 go_wp2_with fail
 refine wp_scope_fwd 0 rfl ?_
 go_wp2_with fail
 refine (ready_any _ _ _ H.out).mono ?_
 rintro e w1 ⟨rfl,rfl⟩
 go_wp2_with fail
 refine HC.out.mono ?_
 rintro e w1 ⟨rfl,hb1⟩
 have HB1 := hq' hb1
 clear hb1 c0 c1
 go_wp2_with fail
 refine (HA.out _).mono ?_
 rintro e w2 ⟨rfl,hb2⟩
 have HB2 := hq' (bt HB1.out hb2)
 clear hb2 HB1
 go_wp2_with fail
 refine (HI.out _ (HW.out.below HB2.out)).mono ?_
 rintro e w3 ⟨rfl,hb3⟩
 have HB3 := hq' (bt HB2.out hb3)
 clear hb3 HB2
 have HB2 := HB3
 clear HB3
 have HR := hq' (H.out.below HB2.out)
 obtain ⟨c0,c1⟩ := HR.out.cells
 obtain ⟨f0,f1⟩ := HR.out.free
 go_wp2
 go_step3
 refine ⟨rfl,?_⟩
 go_wp2
 rw [Exit.noGoto_ret]
 go_ret
 exact ⟨rfl,HR.out.set1 true,(Keeps.below _ HB2.out).trans (keepsP _ _ _ _)⟩
theorem text_no5 (p : Nat) (most : Int) (s rest d : List UInt8) (w : World) (h : Rd w p (s,false)) (hw : Lw w) (hd : d.length ≤ 281474976710656) (v : Int) (hv : Lib.atoiAll d = .ok v) (hi : Lib.itoa v = d) (h0 : 0 ≤ v) (hm : most < v ∨ (rest.length : Int) < v) (HC : Hid (Calls Tryz.prog 117 #[.string ⟨s.toArray⟩,.string ⟨#[58]⟩] w fun e w' => e = .returned (.tuple #[.string ⟨d.toArray⟩,.string ⟨rest.toArray⟩,.bool true]) ∧ Below w.heap.size w w')) :
  Calls Tryz.prog 97 #[.pointer (some ⟨p,0,none⟩),.int .i64 most] w (RdV (.string ⟨([] : List UInt8).toArray⟩) w p (s,true)) := by
 have H := hq' h
 have HW := hq' hw
 obtain ⟨c0,c1⟩ := h.cells
 clear h hw
 have hn := Lib.atoiAll_bounds hv
 have HA : Hid (∀ w,Calls Tryz.prog 118 #[.string ⟨d.toArray⟩] w fun e w' => e = .returned (.tuple #[.int .i64 v,.nilIface]) ∧ Below w.heap.size w w') := fun w => atoi_ok d v hv hd w
 have HI : Hid (∀ w,Lw w → Calls Tryz.prog 112 #[.int .i64 v] w fun e w' => e = .returned (.string ⟨(Lib.itoa v).toArray⟩) ∧ Below w.heap.size w w') := fun w hw => itoa_any v hn w hw
 rw [hi] at HI
 have heq : (d == d) = true := by simp
 clear hv hi hn
 have hmm : min most (rest.length : Int) < v := by omega
 clear hm
 go_enter Tryz.func97,Tryz.ntmps97
 go_wp2_with fail
 refine wp_scope_fwd 0 rfl ?_
 go_wp2_with fail
 refine (ready_any _ _ _ H.out).mono ?_
 rintro e w1 ⟨rfl,rfl⟩
 go_wp2_with fail
 refine HC.out.mono ?_
 rintro e w1 ⟨rfl,hb1⟩
 have HB1 := hq' hb1
 clear hb1 c0 c1
 go_wp2_with fail
 refine (HA.out _).mono ?_
 rintro e w2 ⟨rfl,hb2⟩
 have HB2 := hq' (bt HB1.out hb2)
 clear hb2 HB1
 go_wp2_with fail
 refine (HI.out _ (HW.out.below HB2.out)).mono ?_
 rintro e w3 ⟨rfl,hb3⟩
 have HB3 := hq' (bt HB2.out hb3)
 clear hb3 HB2
 have HB2 := HB3
 clear HB3
 have HR := hq' (H.out.below HB2.out)
 obtain ⟨c0,c1⟩ := HR.out.cells
 obtain ⟨f0,f1⟩ := HR.out.free
 go_wp2
 go_step3
 refine ⟨rfl,?_⟩
 go_wp2
 rw [Exit.noGoto_ret]
 go_ret
 exact ⟨rfl,HR.out.set1 true,(Keeps.below _ HB2.out).trans (keepsP _ _ _ _)⟩
theorem text_any (p : Nat) (most : Int) (q : Bd.St) (w : World) (h : Rd w p q) (hl : q.1.length < 4294967281) (hw : Lw w) :
  Calls Tryz.prog 97 #[.pointer (some ⟨p,0,none⟩),.int .i64 most] w (RdV (.string ⟨(Bd.sText most q).1.toArray⟩) w p (Bd.sText most q).2) := by
 obtain ⟨s,b⟩ := q
 cases b with
 | true => exact (text_bad p most s w h).mono fun e w' ⟨he,hw'⟩ => ⟨he,hw' ▸ h,hw' ▸ Keeps.refl _ _⟩
 | false =>
  have hl' : s.length < 4294967281 := hl
  have HC := hq' (cut_any s 58 hl w hw)
  have hcc := Bd.cut_cases s 58
  cases hr : Bd.rdText most s with
  | some x =>
   obtain ⟨t,r⟩ := x
   obtain ⟨hm,hs⟩ := Bd.rdText_some hr
   have e : Bd.sText most (s,false) = (t,(r,false)) := by simp [Bd.sText,hr]
   rw [e]
   have htl : t.length ≤ s.length := by rw [hs]; simp [Bd.bText]; omega
   have hin : Bd.inR (t.length : Int) := by unfold Bd.inR; omega
   rw [hs,Bd.cut_text,← hs] at HC
   exact text_yes p most s (t ++ r) (Lib.itoa (t.length : Int)) t r w h hw (by have := Lib.itoa_length_le (t.length : Int) hin.1 hin.2; omega) (Bd.atoi_itoa hin) rfl hm rfl HC
  | none =>
   have e : Bd.sText most (s,false) = ([],(s,true)) := by simp [Bd.sText,hr]
   rw [e]
   have hd : (Lib.cut s [58]).1.length ≤ 281474976710656 := by
    have h2 : (Lib.cut s [58]).1.length ≤ s.length := by
     rcases hcc with ⟨_,e⟩ | ⟨a,b,_,e1,e⟩
     ·rw [e]; exact Nat.le_refl _
     ·rw [e,e1]; simp
    omega
   unfold Bd.rdText at hr
   clear hcc
   generalize Lib.cut s [58] = k at *
   obtain ⟨d,rest,ok⟩ := k
   simp only at *
   cases ok with
   | false => exact text_no1 p most s rest d w h hw hd HC
   | true =>
    by_cases hv : ∃ v,Lib.atoiAll d = .ok v
    ·obtain ⟨v,hv⟩ := hv
     rw [hv] at hr
     by_cases hi : Lib.itoa v = d
     ·by_cases h0 : v < 0
      ·exact text_no4 p most s rest d w h hw hd v hv hi h0 HC
      ·refine text_no5 p most s rest d w h hw hd v hv hi (by omega) ?_ HC
       by_cases h1 : v ≤ most
       ·by_cases h2 : v ≤ (rest.length : Int)
        ·simp [hi,h1,h2,show 0 ≤ v by omega] at hr
        ·exact .inr (by omega)
       ·exact .inl (by omega)
     ·exact text_no3 p most s rest d w h hw hd v hv hi HC
    ·exact text_no2 p most s rest d w h hw hd (fun v hv' => hv ⟨v,hv'⟩) HC
open Go.RowKit
theorem Rds.bel {w0 w w' : World} {p : Nat} {q : Bd.St} (h : Rds w p q w') (hb : Below w0.heap.size w0 w) (hp : w0.heap.size ≤ p) : Below w0.heap.size w0 w' :=
 hb.trans (h.2.toBelow hb.size (fun k hk e => by omega))
open Go.RowKit
theorem sInt_len (q : Bd.St) : (Bd.sInt q).2.1.length ≤ q.1.length := by
 obtain ⟨s,b⟩ := q
 cases b with
 | true => simp [Bd.sInt]
 | false =>
  cases hr : Bd.rdInt s with
  | none => simp [Bd.sInt,hr]
  | some x =>
   obtain ⟨n,r⟩ := x
   have h := (Bd.rdInt_some hr).2
   have := congrArg List.length h
   simp only [List.length_append] at this
   simp only [Bd.sInt,hr]
   show r.length ≤ s.length
   omega
theorem sText_len (m : Int) (q : Bd.St) : (Bd.sText m q).2.1.length ≤ q.1.length := by
 obtain ⟨s,b⟩ := q
 cases b with
 | true => simp [Bd.sText]
 | false =>
  cases hr : Bd.rdText m s with
  | none => simp [Bd.sText,hr]
  | some x =>
   obtain ⟨n,r⟩ := x
   have h := (Bd.rdText_some hr).2
   have := congrArg List.length h
   simp only [List.length_append] at this
   simp only [Bd.sText,hr]
   show r.length ≤ s.length
   omega
theorem sText_le (m : Int) (q : Bd.St) : (Bd.sText m q).1.length ≤ q.1.length := by
 obtain ⟨s,b⟩ := q
 cases b with
 | true => simp [Bd.sText]
 | false =>
  cases hr : Bd.rdText m s with
  | none => simp [Bd.sText,hr]
  | some x =>
   obtain ⟨n,r⟩ := x
   have h := (Bd.rdText_some hr).2
   have := congrArg List.length h
   simp only [Bd.bText,List.length_append,List.length_cons] at this
   simp only [Bd.sText,hr]
   show n.length ≤ s.length
   omega
theorem sInt_inR (q : Bd.St) : Bd.inR (Bd.sInt q).1 := by
 obtain ⟨s,b⟩ := q
 cases b with
 | true => simp [Bd.sInt,Bd.inR]
 | false =>
  cases hr : Bd.rdInt s with
  | none => simp [Bd.sInt,hr,Bd.inR]
  | some x =>
   obtain ⟨n,r⟩ := x
   simp only [Bd.sInt,hr]
   exact (Bd.rdInt_some hr).1
theorem sSign_len (c : UInt8) (q : Bd.St) : (Bd.sSign c q).1.length ≤ q.1.length := by
 obtain ⟨s,b⟩ := q
 cases b with
 | true => simp [Bd.sSign]
 | false =>
  by_cases h : s.head? = some c
  ·cases s with
   | nil => cases h
   | cons x r =>
    simp at h
    subst h
    rw [Bd.sSign_of]
    simp
  ·rw [Bd.sSign_no h]
   exact Nat.le_refl _
def Kp (w : World) (p : Nat) (W : World) : Prop := Keeps (fun k => k = p ∨ w.heap.size ≤ k) w W
def Rx (w : World) (p x : Nat) (W : World) (q : Bd.St) (cs : List Value) (t : TypeId) : Prop := Rd W p q ∧ Cl W x cs t ∧ x ≠ p ∧ w.heap.size ≤ x ∧ Kp w p W
theorem Kp.call {w W W' : World} {p : Nat} {q' : Bd.St} (h : Kp w p W) (k : Rds W p q' W') : Kp w p W' := h.trans (k.2.mono (fun j _ e => .inl e))
theorem Kp.below {w W W' : World} {p : Nat} (h : Kp w p W) (k : Below W.heap.size W W') : Kp w p W' := h.trans (Keeps.below _ k)
theorem Kp.store {w W : World} {p : Nat} (h : Kp w p W) (a : Addr) (u : Value) (ha : w.heap.size ≤ a.block) : Kp w p (W.setCell a u) := h.trans (Keeps.setCell _ _ _ _ (.inr ha))
theorem Rx.call {w W W' : World} {p x : Nat} {q q' : Bd.St} {cs : List Value} {t : TypeId} (h : Rx w p x W q cs t) (k : Rds W p q' W') : Rx w p x W' q' cs t :=
 ⟨k.1,h.2.1.keep k.2 h.2.2.1,h.2.2.1,h.2.2.2.1,h.2.2.2.2.call k⟩
theorem Rx.store {w W : World} {p x : Nat} {q : Bd.St} {cs : List Value} {t : TypeId} (h : Rx w p x W q cs t) (k : Nat) (u : Value) : Rx w p x (W.setCell ⟨x,k,none⟩ u) q (cs.set k u) t :=
 ⟨h.1.keep (Keeps.setCell (fun j => j = x) _ _ _ rfl) (fun e => h.2.2.1 e.symm),h.2.1.set k u,h.2.2.1,h.2.2.2.1,h.2.2.2.2.store _ _ h.2.2.2.1⟩
theorem Rx.drew {w W : World} {p x : Nat} {q : Bd.St} {cs : List Value} {t : TypeId} (h : Rx w p x W q cs t) : Rx w p x W.drew q cs t :=
 ⟨h.1,h.2.1,h.2.2.1,h.2.2.2.1,h.2.2.2.2.trans (Keeps.drew _ _)⟩
theorem Rx.done {w W : World} {p x : Nat} {q : Bd.St} {cs : List Value} {t : TypeId} (h : Rx w p x W q cs t) : Rds w p q W := ⟨h.1,h.2.2.2.2.mono (fun k hk e => e.resolve_right (by omega))⟩
theorem Rx.bel {w W : World} {p x : Nat} {q : Bd.St} {cs : List Value} {t : TypeId} (h : Rx w p x W q cs t) (hp : w.heap.size ≤ p) : Below w.heap.size w W := h.2.2.2.2.toBelow (Nat.le_refl _) (fun k hk e => by rcases e with e | e <;> omega)
theorem Rx.alloc {w W : World} {p x : Nat} {q : Bd.St} {cs : List Value} {t : TypeId} (h : Rx w p x W q cs t) (o : Obj) : Rx w p x (W.alloc o) q cs t :=
 ⟨h.1.keep (S := fun _ => False) (Keeps.alloc _ _ _) id,h.2.1.alloc _,h.2.2.1,h.2.2.2.1,h.2.2.2.2.trans (Keeps.alloc _ _ _)⟩
theorem Rx.below {w W W' : World} {p x : Nat} {q : Bd.St} {cs : List Value} {t : TypeId} (h : Rx w p x W q cs t) (k : Below W.heap.size W W') : Rx w p x W' q cs t :=
 ⟨h.1.below k,h.2.1.below k,h.2.2.1,h.2.2.2.1,h.2.2.2.2.below k⟩
theorem Rx.keeps {w W W' : World} {p x B : Nat} {q : Bd.St} {cs : List Value} {t : TypeId} (h : Rx w p x W q cs t) (k : Keeps (fun j => B ≤ j) W W') (hp : p < B) (hx : x < B) : Rx w p x W' q cs t :=
 ⟨h.1.keep k (by omega),h.2.1.keep k (by omega),h.2.2.1,h.2.2.2.1,h.2.2.2.2.trans (k.mono (fun j _ e => .inr (by have := h.2.2.2.1; omega)))⟩
theorem Rx.new {w : World} {p : Nat} {q : Bd.St} (h : Rd w p q) (cs : List Value) (t : TypeId) : Rx w p w.heap.size (w.alloc (.cells cs.toArray t)) q cs t :=
 ⟨h.keep (S := fun _ => False) (Keeps.alloc _ _ _) id,Cl.new _ _ _,fun e => by have := h.lt; omega,Nat.le_refl _,Keeps.alloc _ _ _⟩
theorem Kp.trans {w W W' : World} {p : Nat} (h : Kp w p W) (k : Kp W p W') : Kp w p W' := Keeps.trans h (Keeps.mono k (fun j hj e => e.elim .inl (fun e => .inr (Nat.le_trans h.size e))))
theorem Kp.lw {w W : World} {p : Nat} (h : Kp w p W) (hw : Lw w) (hp : w.heap.size ≤ p) : Lw W := hw.below (h.toBelow (Nat.le_refl _) (fun k hk e => by rcases e with e | e <;> omega))
end Go.Proofs.YtbljbdjmgogknaaGreatDoor
namespace Go.Proofs.YtbljbdjmgogknaaGreatDoor.Wi
open Bd (St bInt bText sInt sText sSign sMore sDone inR)
/-! ### Many of a kind, read -/
def sMany {α : Type} (f : St → α × St) : Nat → St → List α × St
 | 0,q => ([],q)
 | n + 1,q => if sMore q then ((f q).1::(sMany f n (f q).2).1,(sMany f n (f q).2).2) else ([],q)
def sAll {α : Type} (f : St → α × St) (q : St) : List α × St := sMany f (q.1.length + 1) q
def Shr {α : Type} (f : St → α × St) : Prop := ∀ q,sMore q = true → (f q).2.2 = true ∨ (f q).2.1.length < q.1.length
def At {α : Type} (f : St → α × St) (q0 : St) (acc : List α) (q : St) : Prop :=
 ∃ n,(q.2 = true ∨ q.1.length < n) ∧ sAll f q0 = (acc ++ (sMany f n q).1,(sMany f n q).2)
theorem At.start {α : Type} (f : St → α × St) (q : St) : At f q [] q := ⟨q.1.length + 1,.inr (by omega),by simp [sAll]⟩
theorem more_good {q : St} (h : sMore q = true) : q.2 = false ∧ q.1 ≠ [] ∧ q.1.head? ≠ some 101 := by
 obtain ⟨s,b⟩ := q
 cases b with
 | true => simp [sMore] at h
 | false =>
  cases s with
  | nil => simp [sMore] at h
  | cons c s => simpa [sMore] using h
theorem At.next {α : Type} {f : St → α × St} (hf : Shr f) {q0 q : St} {acc : List α} (h : At f q0 acc q) (hm : sMore q = true) : At f q0 (acc ++ [(f q).1]) (f q).2 := by
 obtain ⟨n,hn,he⟩ := h
 have hg := (more_good hm).1
 rw [hg] at hn
 have hl := hn.resolve_left (by simp)
 obtain ⟨m,rfl⟩ : ∃ m,n = m + 1 := ⟨n - 1,by omega⟩
 refine ⟨m,?_,?_⟩
 ·rcases hf q hm with h | h
  ·exact .inl h
  ·exact .inr (by omega)
 ·rw [he,sMany,if_pos hm]
  simp
theorem At.stop {α : Type} {f : St → α × St} {q0 q : St} {acc : List α} (h : At f q0 acc q) (hm : sMore q = false) : sAll f q0 = (acc,q) := by
 obtain ⟨n,hn,he⟩ := h
 rw [he]
 cases n with
 | zero => simp [sMany]
 | succ n => simp [sMany,hm]
theorem sMany_len {α : Type} {f : St → α × St} (hl : ∀ q,(f q).2.1.length ≤ q.1.length) : ∀ (n : Nat) (q : St),(sMany f n q).2.1.length ≤ q.1.length
 | 0,q => Nat.le_refl _
 | n + 1,q => by
  rw [sMany]
  split
  ·exact Nat.le_trans (sMany_len hl n _) (hl q)
  ·exact Nat.le_refl _
theorem At.len {α : Type} {f : St → α × St} (hf : Shr f) {q0 q : St} {acc : List α} (h : At f q0 acc q) : acc.length ≤ (sAll f q0).1.length := by
 obtain ⟨n,hn,he⟩ := h
 rw [he]
 simp
theorem sMany_all {α : Type} {f : St → α × St} {P : α → Prop} (hp : ∀ q,P (f q).1) : ∀ (n : Nat) (q : St),∀ x ∈ (sMany f n q).1,P x
 | 0,q => by intro x hx; cases hx
 | n + 1,q => by
  rw [sMany]
  split
  ·intro x hx
   rcases List.mem_cons.1 hx with rfl | hx
   ·exact hp q
   ·exact sMany_all hp n _ x hx
  ·intro x hx; cases hx
theorem sMany_of {α : Type} {f : St → α × St} {e : α → List UInt8} (l : List α) (hx : ∀ x ∈ l,∀ r,sMore (e x ++ r,false) = true ∧ f (e x ++ r,false) = (x,(r,false))) :
  ∀ (n : Nat) (r : List UInt8),l.length < n → sMore (r,false) = false → sMany f n ((l.map e).flatten ++ r,false) = (l,(r,false)) := by
 induction l with
 | nil =>
  intro n r hn hr
  obtain ⟨m,rfl⟩ : ∃ m,n = m + 1 := ⟨n - 1,by simp at hn; omega⟩
  simp [sMany,hr]
 | cons x l ih =>
  intro n r hn hr
  obtain ⟨m,rfl⟩ : ∃ m,n = m + 1 := ⟨n - 1,by simp at hn; omega⟩
  simp only [List.length_cons] at hn
  have e1 : ((x::l).map e).flatten ++ r = e x ++ ((l.map e).flatten ++ r) := by simp
  obtain ⟨h1,h2⟩ := hx x (by simp) ((l.map e).flatten ++ r)
  rw [sMany,e1,if_pos h1,h2,ih (fun y hy => hx y (List.mem_cons_of_mem _ hy)) m r (by omega) hr]
theorem flat_len {α : Type} {e : α → List UInt8} (l : List α) (h : ∀ x ∈ l,0 < (e x).length) : l.length ≤ ((l.map e).flatten).length := by
 induction l with
 | nil => simp
 | cons x l ih =>
  have := h x (by simp)
  have := ih (fun y hy => h y (List.mem_cons_of_mem _ hy))
  simp only [List.map_cons,List.flatten_cons,List.length_append,List.length_cons]
  omega
theorem more_len {s r : List UInt8} (h : sMore (s ++ r,false) = true) (hr : sMore (r,false) = false) : s ≠ [] := by
 rintro rfl
 rw [List.nil_append,hr] at h
 cases h
theorem sAll_of {α : Type} {f : St → α × St} {e : α → List UInt8} (l : List α) (hx : ∀ x ∈ l,∀ r,sMore (e x ++ r,false) = true ∧ f (e x ++ r,false) = (x,(r,false))) (r : List UInt8) (hr : sMore (r,false) = false) :
  sAll f ((l.map e).flatten ++ r,false) = (l,(r,false)) := by
 refine sMany_of l hx _ r ?_ hr
 have := flat_len l (e := e) (fun x h => by
  have := more_len ((hx x h r).1) hr
  exact List.length_pos_iff.2 this)
 simp only [List.length_append]
 omega
theorem more_e (r : List UInt8) : sMore (101::r,false) = false := by simp [sMore]
/-! ### What can be -/
def reqB (q : Req) : Bool :=
 inB q.client 1 4 && (inB q.kind 1 8 && (areB 0 1099511627776 [q.n,q.part,q.seq,q.max,q.gen] && (inB q.off (-1099511627776) 1099511627776 && (q.recs.all (fun x => decide (x.off = 0)) &&
  (decide (q.group.length ≤ 8) && (decide (q.member.length ≤ 8) && (decide (q.recs.length = 0) || Cr.fits q.recs)))))))
def risingB : Int → List Cr.Rec → Bool
 | _,[] => true
 | p,x::r => inB x.off 0 1099511627776 && (Cr.fits [x] && (decide (p < x.off) && risingB x.off r))
def respB (a : Resp) : Bool :=
 inB a.client 1 4 && (inB a.code 0 99 && (areB 0 1099511627776 [a.n,a.off,a.high,a.gen] && (decide (a.parts.length ≤ 4) && (areB 0 3 a.parts && (decide (a.recs.length ≤ 16) && risingB (-1) a.recs)))))
def lifeB (x : Int × Int) : Bool := inB x.1 1 5 && inB x.2 0 1073741824
def placeB (m : Msg) : Bool :=
 inB m.pep 0 1073741824 && (inB m.learner 0 5 && (decide (m.chain.length ≤ 5) && (areB 1 5 m.chain && (decide (m.lives.length ≤ 5) && m.lives.all lifeB))))
def slotB (x : Slot) : Bool := Cr.isNum x.1 && (Cr.isNum x.2.1 && (Cr.isNum x.2.2 && decide (x.2.1 < x.2.2)))
def nextB (p : Option Slot) (x : Slot) : Bool := match p with
 | none => true
 | some y => decide (x.1 = y.1 + 1) && decide (y.2.2 ≤ x.2.1)
def rowB : Option Slot → List Slot → Bool
 | _,[] => true
 | p,x::r => slotB x && (nextB p x && rowB (some x) r)
def slotsB (l : List Slot) : Bool := rowB none l && (decide (1 ≤ l.length) && decide (l.length ≤ 5))
def aboveB (p : Option Int) (x : Int) : Bool := match p with
 | none => true
 | some y => decide (y < x)
def seensB : Option Int → List Seen → Bool
 | _,[] => true
 | p,x::r => Cr.isNum x.1 && (aboveB p x.1 && (slotsB x.2 && seensB (some x.1) r))
def tableB (t : List Seen) : Bool := seensB none t && decide (t.length ≤ 64)
def first (m : Msg) : Bool := inB m.kind 1 9 && (unitB m.frm && (unitB m.to && (inB m.part 0 3 && (areB 0 1073741824 [m.ep,m.life] && (areB (-1) 1099511627776 [m.off,m.high] && same m (only m))))))
def lastB (m : Msg) : Bool :=
 if m.kind = 1 ∨ m.kind = 7 then reqB m.req else if m.kind = 2 then respB m.resp else if m.kind = 4 then placeB m else if m.kind = 5 then Cr.good m.batch else if m.kind = 8 then tableB m.table else true
def good (m : Msg) : Bool := first m && lastB m
/-! ### Bytes -/
def encInts (l : List Int) : List UInt8 := (l.map bInt).flatten
def listB (b : List UInt8) : List UInt8 := 108::(b ++ [101])
def encRec (x : Cr.Rec) : List UInt8 := bInt x.off ++ (bText x.key ++ (bText x.val ++ bInt (Cr.flag x.gone)))
def encRecs (l : List Cr.Rec) : List UInt8 := listB (l.map encRec).flatten
def encSlot (y : Slot) : List UInt8 := listB (bInt y.1 ++ (bInt y.2.1 ++ bInt y.2.2))
def encSeen (x : Seen) : List UInt8 := listB (bInt x.1 ++ (x.2.map encSlot).flatten)
def encTable (t : List Seen) : List UInt8 := listB (t.map encSeen).flatten
def flatLives (l : List (Int × Int)) : List Int := l.flatMap fun x => [x.1,x.2]
def reqNumsL (q : Req) : List Int := [q.client,q.n,q.kind,q.part,q.seq,q.off,q.max,q.gen]
def respNumsL (a : Resp) : List Int := [a.client,a.n,a.code,a.off,a.high,a.gen]
def tailL (m : Msg) : List (List UInt8) :=
 if m.kind = 1 ∨ m.kind = 7 then (reqNumsL m.req).map bInt ++ [bText m.req.group,bText m.req.member,encRecs m.req.recs]
 else if m.kind = 2 then (respNumsL m.resp).map bInt ++ [listB (encInts m.resp.parts),encRecs m.resp.recs]
 else if m.kind = 3 then [bInt m.life]
 else if m.kind = 4 then [bInt m.pep,listB (encInts m.chain),bInt m.learner,listB (encInts (flatLives m.lives))]
 else if m.kind = 5 then [bText (Cr.enc m.batch)]
 else if m.kind = 6 then [bInt m.off,bInt m.high]
 else if m.kind = 8 then [bInt m.off,bText (encTable m.table)]
 else if m.kind = 9 then [bInt m.off] else []
def headL (m : Msg) : List (List UInt8) := [m.kind,m.frm,m.to].map bInt ++ (if 4 ≤ m.kind then [m.part,m.ep].map bInt else [])
def fieldsL (m : Msg) : List (List UInt8) := headL m ++ tailL m
def enc (m : Msg) : List UInt8 := listB (fieldsL m).flatten
/-! ### Reading -/
def sRec4 (q : St) : (Cr.Rec × Bool) × St :=
 let o := sInt q
 let k := sText 16 o.2
 let v := sText 64 k.2
 let g := sInt v.2
 ((⟨o.1,k.1,v.1,g.1 == 1⟩,g.1 == Cr.flag (g.1 == 1)),g.2)
def sInts (q : St) : List Int × St := let r := sAll sInt (sSign 108 q); (r.1,sSign 101 r.2)
def sRecs (q : St) : (List Cr.Rec × Bool) × St := let r := sAll sRec4 (sSign 108 q); ((r.1.map (·.1),r.1.all (·.2)),sSign 101 r.2)
def sReq (q : St) : (Req × Bool) × St :=
 let a := sInt q
 let b := sInt a.2
 let c := sInt b.2
 let d := sInt c.2
 let e := sInt d.2
 let f := sInt e.2
 let g := sInt f.2
 let h := sInt g.2
 let i := sText 8 h.2
 let j := sText 8 i.2
 let r := sRecs j.2
 ((⟨a.1,b.1,c.1,d.1,e.1,f.1,g.1,h.1,i.1,j.1,r.1.1⟩,r.1.2),r.2)
def sResp (q : St) : (Resp × Bool) × St :=
 let a := sInt q
 let b := sInt a.2
 let c := sInt b.2
 let d := sInt c.2
 let e := sInt d.2
 let f := sInt e.2
 let p := sInts f.2
 let r := sRecs p.2
 ((⟨a.1,b.1,c.1,d.1,e.1,f.1,p.1,r.1.1⟩,r.1.2),r.2)
def pairs : List Int → List (Int × Int)
 | x::y::r => (x,y)::pairs r
 | _ => []
def evenB (l : List Int) : Bool := l.length % 2 == 0
def sPlace (q : St) : ((Int × List Int × Int × List (Int × Int)) × Bool) × St :=
 let a := sInt q
 let c := sInts a.2
 let b := sInt c.2
 let l := sInts b.2
 (((a.1,c.1,b.1,if evenB l.1 then pairs l.1 else []),evenB l.1),l.2)
def sSlot (q : St) : Slot × St :=
 let a := sInt (sSign 108 q)
 let b := sInt a.2
 let c := sInt b.2
 ((a.1,b.1,c.1),sSign 101 c.2)
def sSeen (q : St) : Seen × St :=
 let a := sInt (sSign 108 q)
 let r := sAll sSlot a.2
 ((a.1,r.1),sSign 101 r.2)
def decTable (s : List UInt8) : Option (List Seen) :=
 let r := sAll sSeen (sSign 108 (s,false))
 if sDone (sSign 101 r.2) = 0 && tableB r.1 then some r.1 else none
def zMsg : Msg := ⟨0,0,0,0,0,0,0,0,0,[],0,[],zBatch,[],zReq,zResp⟩
def sTail (m : Msg) (q : St) : (Msg × Bool) × St :=
 if m.kind = 1 ∨ m.kind = 7 then let r := sReq q; (({ m with req := r.1.1 },r.1.2),r.2)
 else if m.kind = 2 then let r := sResp q; (({ m with resp := r.1.1 },r.1.2),r.2)
 else if m.kind = 3 then let r := sInt q; (({ m with life := r.1 },true),r.2)
 else if m.kind = 4 then let r := sPlace q; (({ m with pep := r.1.1.1,chain := r.1.1.2.1,learner := r.1.1.2.2.1,lives := r.1.1.2.2.2 },r.1.2),r.2)
 else if m.kind = 5 then let r := sText 16384 q; (({ m with batch := (Cr.dec r.1).getD zBatch },(Cr.dec r.1).isSome),r.2)
 else if m.kind = 6 then let r := sInt q; let h := sInt r.2; (({ m with off := r.1,high := h.1 },true),h.2)
 else if m.kind = 8 then let o := sInt q; let r := sText 16384 o.2; (({ m with off := o.1,table := (decTable r.1).getD [] },(decTable r.1).isSome),r.2)
 else if m.kind = 9 then let r := sInt q; (({ m with off := r.1 },true),r.2)
 else ((m,true),q)
def sHead (q : St) : Msg × St :=
 let a := sInt q
 let b := sInt a.2
 let c := sInt b.2
 if 4 ≤ a.1 then
  let d := sInt c.2
  let e := sInt d.2
  ({ zMsg with kind := a.1,frm := b.1,«to» := c.1,part := d.1,ep := e.1 },e.2)
 else ({ zMsg with kind := a.1,frm := b.1,«to» := c.1 },c.2)
def sMsg (q : St) : (Msg × Bool) × St := sTail (sHead q).1 (sHead q).2
end Go.Proofs.YtbljbdjmgogknaaGreatDoor.Wi
