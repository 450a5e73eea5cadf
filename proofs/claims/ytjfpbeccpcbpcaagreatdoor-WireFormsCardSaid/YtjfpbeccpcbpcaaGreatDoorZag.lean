/-
  Bwb / Bwc: texts of one proof, one behind the other.
  Conditions: none of its own.
-/
import Derived.Test.YtjfpbeccpcbpcaaGreatDoorZaf
import Derived.ScopeJumps
import Derived.WalkMore
import Derived.Shelf.Strconv.ErrVarAll
set_option linter.unusedVariables false
set_option linter.unusedSimpArgs false
namespace Go.Proofs.YtjfpbeccpcbpcaaGreatDoor
open Go.RowKit
def Rd (w : World) (p : Nat) (q : Bd.St) : Prop := w.heap[p]? = some (.cells #[.string ⟨q.1.toArray⟩, .bool q.2] 124 (0, 0))
theorem Rd.cells {w : World} {p : Nat} {q : Bd.St} (h : Rd w p q) : w.cell? ⟨p, 0, none⟩ = some (.string ⟨q.1.toArray⟩) ∧ w.cell? ⟨p, 1, none⟩ = some (.bool q.2) := by
  unfold Rd at h
  simp [World.cell?, h]
theorem Rd.free {w : World} {p : Nat} {q : Bd.St} (h : Rd w p q) : w.frozen? ⟨p, 0, none⟩ = false ∧ w.frozen? ⟨p, 1, none⟩ = false := by
  unfold Rd at h
  simp [World.frozen?, h]
theorem Rd.lt {w : World} {p : Nat} {q : Bd.St} (h : Rd w p q) : p < w.heap.size := (Array.getElem?_eq_some_iff.1 h).1
theorem Rd.keep {S : Nat → Prop} {w w' : World} {p : Nat} {q : Bd.St} (h : Rd w p q) (k : Keeps S w w') (hs : ¬ S p) : Rd w' p q := (k.block p h.lt hs).trans h
theorem Rd.below {w w' : World} {p : Nat} {q : Bd.St} (h : Rd w p q) (hb : Below w.heap.size w w') : Rd w' p q := (hb.block p h.lt).trans h
theorem Rd.set0 {w : World} {p : Nat} {q : Bd.St} (h : Rd w p q) (l : List UInt8) : Rd (w.setCell ⟨p, 0, none⟩ (.string ⟨l.toArray⟩)) p (l, q.2) := by
  unfold Rd at h ⊢
  simp [World.setCell, Array.getElem?_modify, h]
theorem Rd.set1 {w : World} {p : Nat} {q : Bd.St} (h : Rd w p q) (b : Bool) : Rd (w.setCell ⟨p, 1, none⟩ (.bool b)) p (q.1, b) := by
  unfold Rd at h ⊢
  simp [World.setCell, Array.getElem?_modify, h]
theorem keepsP (w : World) (p o : Nat) (u : Value) : Keeps (fun k => k = p) w (w.setCell ⟨p, o, none⟩ u) := Keeps.setCell _ _ _ _ rfl
def Rds (w : World) (p : Nat) (q : Bd.St) (w' : World) : Prop := Rd w' p q ∧ Keeps (fun k => k = p) w w'
def RdV (v : Value) (w : World) (p : Nat) (q : Bd.St) (e : Ending) (w' : World) : Prop := e = .returned v ∧ Rds w p q w'
theorem new_any (s : List UInt8) (w : World) : Calls Tryz.prog 61 #[.string ⟨s.toArray⟩] w fun e w' => e = .returned (.pointer (some ⟨w.heap.size, 0, none⟩)) ∧ w' = w.alloc (.cells #[.string ⟨s.toArray⟩, .bool false] 124) := by
  go_enter Tryz.func61, Tryz.ntmps61
  go_wp2
  go_ret
  exact ⟨rfl, rfl⟩
theorem Rd.new (s : List UInt8) (w : World) : Rd (w.alloc (.cells #[.string ⟨s.toArray⟩, .bool false] 124)) w.heap.size (s, false) := by
  unfold Rd
  rw [heap_alloc_new]
theorem ready_any (p : Nat) (q : Bd.St) (w : World) (h : Rd w p q) : Calls Tryz.prog 134 #[.pointer (some ⟨p, 0, none⟩)] w fun e w' => e = .returned (.bool (!q.2)) ∧ w = w' := by
  obtain ⟨c0, c1⟩ := h.cells
  clear h
  go_enter Tryz.func134, Tryz.ntmps134
  go_wp2
  go_ret
  exact ⟨rfl, rfl⟩
theorem done_any (p : Nat) (q : Bd.St) (w : World) (h : Rd w p q) : Calls Tryz.prog 65 #[.pointer (some ⟨p, 0, none⟩)] w fun e w' => e = .returned (.int .i64 (Bd.sDone q)) ∧ w = w' := by
  obtain ⟨c0, c1⟩ := h.cells
  clear h
  obtain ⟨s, b⟩ := q
  simp only at c0 c1
  cases b with
  | true =>
    go_enter Tryz.func65, Tryz.ntmps65
    go_wp2
    go_ret
    exact ⟨rfl, rfl⟩
  | false =>
    cases s with
    | nil =>
      go_enter Tryz.func65, Tryz.ntmps65
      go_wp2
      go_ret
      exact ⟨rfl, rfl⟩
    | cons x s =>
      go_enter Tryz.func65, Tryz.ntmps65
      go_wp2
      go_ret
      exact ⟨rfl, rfl⟩
theorem cutPrefix_any (l : List UInt8) (c : UInt8) (w : World) : Calls Tryz.prog 135 #[.string ⟨l.toArray⟩, .string ⟨#[c]⟩] w fun e w' =>
    e = .returned (.tuple #[.string ⟨(Lib.trimPrefix l [c]).toArray⟩, .bool (Lib.hasPrefix l [c])]) ∧ w = w' := by
  refine (Tryz.strings_CutPrefix ⟨l.toArray⟩ ⟨#[c]⟩ w).mono ?_
  rintro e w' ⟨he, hw⟩
  exact ⟨he, hw.symm⟩
set_option maxHeartbeats 400000 in
theorem sign_any (p : Nat) (q : Bd.St) (c : UInt8) (w : World) (h : Rd w p q) : Calls Tryz.prog 110 #[.pointer (some ⟨p, 0, none⟩), .string ⟨#[c]⟩] w fun e w' => e = .returned (.tuple #[]) ∧ Rds w p (Bd.sSign c q) w' := by
  have H := Lib.hid h
  obtain ⟨c0, c1⟩ := h.cells
  obtain ⟨f0, f1⟩ := h.free
  clear h
  obtain ⟨s, b⟩ := q
  simp only at c0 c1
  cases b with
  | true =>
    go_enter Tryz.func110, Tryz.ntmps110
    go_wp2_with fail
    refine (ready_any _ _ _ H.out).mono ?_
    rintro e w1 ⟨rfl, rfl⟩
    go_wp2
    go_end0
    exact ⟨rfl, H.out, Keeps.refl _ _⟩
  | false =>
    have HE : Hid (Rds w p (Bd.sSign c (s, false)) ((w.setCell ⟨p, 0, none⟩ (.string ⟨(Lib.trimPrefix s [c]).toArray⟩)).setCell ⟨p, 1, none⟩ (.bool (!Lib.hasPrefix s [c])))) :=
      ⟨(H.out.set0 (Lib.trimPrefix s [c])).set1 (!Lib.hasPrefix s [c]), (keepsP w p 0 _).trans (keepsP _ p 1 _)⟩
    have HC := Lib.hid (cutPrefix_any s c w)
    generalize Lib.trimPrefix s [c] = t at HE HC
    generalize Lib.hasPrefix s [c] = b at HE HC
    go_enter Tryz.func110, Tryz.ntmps110
    go_wp2_with fail
    refine (ready_any _ _ _ H.out).mono ?_
    rintro e w1 ⟨rfl, rfl⟩
    go_wp2_with fail
    refine HC.out.mono ?_
    rintro e w1 ⟨rfl, rfl⟩
    go_wp2
    go_end0
    exact ⟨rfl, HE.out⟩
theorem open_any (p : Nat) (q : Bd.St) (w : World) (h : Rd w p q) : Calls Tryz.prog 62 #[.pointer (some ⟨p, 0, none⟩)] w fun e w' => e = .returned (.tuple #[]) ∧ Rds w p (Bd.sSign 108 q) w' := by
  have H := Lib.hid h
  clear h
  go_enter Tryz.func62, Tryz.ntmps62
  go_wp2_with fail
  refine (sign_any _ _ _ _ H.out).mono ?_
  rintro e w1 ⟨rfl, h1⟩
  have H1 := Lib.hid h1
  clear h1
  go_wp2
  go_end0
  exact ⟨rfl, H1.out⟩
theorem close_any (p : Nat) (q : Bd.St) (w : World) (h : Rd w p q) : Calls Tryz.prog 64 #[.pointer (some ⟨p, 0, none⟩)] w fun e w' => e = .returned (.tuple #[]) ∧ Rds w p (Bd.sSign 101 q) w' := by
  have H := Lib.hid h
  clear h
  go_enter Tryz.func64, Tryz.ntmps64
  go_wp2_with fail
  refine (sign_any _ _ _ _ H.out).mono ?_
  rintro e w1 ⟨rfl, h1⟩
  have H1 := Lib.hid h1
  clear h1
  go_wp2
  go_end0
  exact ⟨rfl, H1.out⟩
set_option maxHeartbeats 400000 in
theorem more_any (p : Nat) (q : Bd.St) (w : World) (h : Rd w p q) : Calls Tryz.prog 141 #[.pointer (some ⟨p, 0, none⟩)] w fun e w' => e = .returned (.bool (Bd.sMore q)) ∧ w = w' := by
  have H := Lib.hid h
  obtain ⟨c0, c1⟩ := h.cells
  clear h
  obtain ⟨s, b⟩ := q
  simp only at c0 c1
  cases b with
  | true =>
    go_enter Tryz.func141, Tryz.ntmps141
    go_wp2_with fail
    refine (ready_any _ _ _ H.out).mono ?_
    rintro e w1 ⟨rfl, rfl⟩
    go_wp2
    go_ret
    exact ⟨rfl, rfl⟩
  | false =>
    cases s with
    | nil =>
      go_enter Tryz.func141, Tryz.ntmps141
      go_wp2_with fail
      refine (ready_any _ _ _ H.out).mono ?_
      rintro e w1 ⟨rfl, rfl⟩
      go_wp2
      go_ret
      exact ⟨rfl, rfl⟩
    | cons x s =>
      have hix := str_at (P := Tryz.prog) (x :: s) 0 0 rfl (by simp) 9 Tryz.underlying9
      simp only [List.getD_cons_zero] at hix
      have he : ((x.toNat : Int) != 101) = (!(x == 101)) := by
        by_cases hx : x = 101
        · subst hx; rfl
        · have : (x.toNat : Int) ≠ 101 := fun e => hx (UInt8.toNat_inj.1 (by have : (101 : UInt8).toNat = 101 := rfl; omega))
          rw [bne_iff_ne.2 this]
          simp [hx]
      have hm : Hid (Bd.sMore (x :: s, false) = !(x == 101)) := by simp [Hid, Bd.sMore]
      go_enter Tryz.func141, Tryz.ntmps141
      go_wp2_with fail
      refine (ready_any _ _ _ H.out).mono ?_
      rintro e w1 ⟨rfl, rfl⟩
      go_wp2
      go_ret
      exact ⟨by rw [hm.out]; rfl, rfl⟩
end Go.Proofs.YtjfpbeccpcbpcaaGreatDoor
namespace Go.Proofs.YtjfpbeccpcbpcaaGreatDoor
open Go.RowKit
theorem cut_any (l : List UInt8) (c : UInt8) (hl : l.length < 4294967281) (w : World) (hw : Lw w) : Calls Tryz.prog 136 #[.string ⟨l.toArray⟩, .string ⟨#[c]⟩] w fun e w' =>
    e = .returned (.tuple #[.string ⟨(Lib.cut l [c]).1.toArray⟩, .string ⟨(Lib.cut l [c]).2.1.toArray⟩, .bool (Lib.cut l [c]).2.2]) ∧ Below w.heap.size w w' := by
  obtain ⟨m, hm⟩ := hw.mx
  refine (Tryz.strings_Cut ⟨l.toArray⟩ ⟨#[c]⟩ m w hl hm).mono ?_
  rintro e w' ⟨he, n, rfl⟩
  exact ⟨he, below_drewN (Below.refl _ _) n⟩
theorem atoi_ok (l : List UInt8) (v : Int) (h : Lib.atoiAll l = .ok v) (hl : l.length ≤ 281474976710656) (w : World) : Calls Tryz.prog 137 #[.string ⟨l.toArray⟩] w fun e w' =>
    e = .returned (.tuple #[.int .i64 v, .nilIface]) ∧ Below w.heap.size w w' := by
  refine (Tryz.strconv_Atoi_ok ⟨l.toArray⟩ (by show l.length ≤ _; omega) v h w).mono ?_
  rintro e w' ⟨he, rfl | ⟨t, rfl⟩⟩
  · exact ⟨he, Below.refl _ _⟩
  · exact ⟨he, below_bytesWorld _ _ _⟩
def AtoiNo (w : World) (e : Ending) (w' : World) : Prop := ∃ m N, e = .returned (.tuple #[.int .i64 m, .iface 175 (.pointer (some ⟨N, 0, none⟩))]) ∧ Below w.heap.size w w'
theorem atoi_no (l : List UInt8) (h : ∀ v, Lib.atoiAll l ≠ .ok v) (hl : l.length ≤ 281474976710656) (w : World) (hw : Lw w) : Calls Tryz.prog 137 #[.string ⟨l.toArray⟩] w (AtoiNo w) := by
  obtain ⟨t2, p2, h2⟩ := hw.syn
  obtain ⟨t3, p3, h3⟩ := hw.rng
  cases hh : Lib.atoiAll l
  · exact absurd hh (h _)
  · refine (Any.strconv_Atoi_syntax_var Tryz.laysC172 ⟨l.toArray⟩ hl hh t2 p2 w h2).mono ?_
    rintro e w' ⟨N, he, _, _, hb⟩
    exact ⟨_, N, he, hb⟩
  · refine (Any.strconv_Atoi_range_var Tryz.laysC172 ⟨l.toArray⟩ hl hh t3 p3 w h3).mono ?_
    rintro e w' ⟨N, he, _, _, hb⟩
    exact ⟨_, N, he, hb⟩
set_option maxHeartbeats 400000 in
theorem int_bad (p : Nat) (s : List UInt8) (w : World) (h : Rd w p (s, true)) : Calls Tryz.prog 111 #[.pointer (some ⟨p, 0, none⟩)] w fun e w' => e = .returned (.int .i64 0) ∧ w = w' := by
  have H := Lib.hid h
  clear h
  go_enter Tryz.func111, Tryz.ntmps111
  go_wp2_with fail
  go_step3
  go_wp2_with fail
  refine (ready_any _ _ _ H.out).mono ?_
  rintro e w1 ⟨rfl, rfl⟩
  go_wp2
  rw [Exit.noGoto_ret]
  go_ret
  exact ⟨rfl, rfl⟩
set_option maxHeartbeats 400000 in
theorem int_yes (p : Nat) (s r : List UInt8) (n : Int) (hn : Bd.inR n) (w : World) (h : Rd w p (s, false)) (hl : s.length < 4294967281) (hs : s = Bd.bInt n ++ r) (hw : Lw w) :
    Calls Tryz.prog 111 #[.pointer (some ⟨p, 0, none⟩)] w (RdV (.int .i64 n) w p (r, false)) := by
  have H := Lib.hid h
  have HW := Lib.hid hw
  have HC := Lib.hid (cut_any s 101 hl w hw)
  rw [hs, Bd.cut_int, ← hs] at HC
  have hli : (Lib.itoa n).length ≤ 21 := Lib.itoa_length_le n hn.1 hn.2
  have hpre : Lib.hasPrefix (105 :: Lib.itoa n) [105] = true := by rw [Bd.pre_one]; simp
  have HP : Hid (∀ w, Calls Tryz.prog 135 #[.string ⟨(105 :: Lib.itoa n).toArray⟩, .string ⟨#[105]⟩] w fun e w' => e = .returned (.tuple #[.string ⟨(Lib.itoa n).toArray⟩, .bool true]) ∧ w = w') := fun w => by
    have := cutPrefix_any (105 :: Lib.itoa n) 105 w
    rwa [Bd.trim_hit, hpre] at this
  have HA : Hid (∀ w, Calls Tryz.prog 137 #[.string ⟨(Lib.itoa n).toArray⟩] w fun e w' => e = .returned (.tuple #[.int .i64 n, .nilIface]) ∧ Below w.heap.size w w') := fun w => atoi_ok _ n (Bd.atoi_itoa hn) (by omega) w
  have HI : Hid (∀ w, Lw w → Calls Tryz.prog 125 #[.int .i64 n] w fun e w' => e = .returned (.string ⟨(Lib.itoa n).toArray⟩) ∧ Below w.heap.size w w') := fun w hw => itoa_any n hn w hw
  obtain ⟨c0, c1⟩ := h.cells
  clear h hw hl hs hpre hli
  generalize Lib.itoa n = d at HC HP HA HI
  go_enter Tryz.func111, Tryz.ntmps111
  go_wp2_with fail
  go_step3
  go_wp2_with fail
  refine (ready_any _ _ _ H.out).mono ?_
  rintro e w1 ⟨rfl, rfl⟩
  go_wp2_with fail
  refine HC.out.mono ?_
  rintro e w1 ⟨rfl, hb1⟩
  have HB1 := Lib.hid hb1
  clear hb1 c0 c1
  go_wp2_with fail
  refine (HP.out _).mono ?_
  rintro e w2 ⟨rfl, rfl⟩
  go_wp2_with fail
  refine (HA.out _).mono ?_
  rintro e w2 ⟨rfl, hb2⟩
  have HB2 := Lib.hid (bt HB1.out hb2)
  clear hb2 HB1
  go_wp2_with fail
  refine (HI.out _ (HW.out.below HB2.out)).mono ?_
  rintro e w3 ⟨rfl, hb3⟩
  have HB3 := Lib.hid (bt HB2.out hb3)
  clear hb3 HB2
  have HR := Lib.hid (H.out.below HB3.out)
  obtain ⟨c0, c1⟩ := HR.out.cells
  obtain ⟨f0, f1⟩ := HR.out.free
  go_wp2
  rw [Exit.noGoto_ret]
  go_ret
  exact ⟨rfl, HR.out.set0 r, (Keeps.below _ HB3.out).trans (keepsP _ _ _ _)⟩
/-! ### Where it goes wrong -/
def AtoiAny (w : World) (e : Ending) (w' : World) : Prop := ∃ m ev, e = .returned (.tuple #[.int .i64 m, ev]) ∧ Below w.heap.size w w'
theorem atoi_any (l : List UInt8) (hl : l.length ≤ 281474976710656) (w : World) (hw : Lw w) : Calls Tryz.prog 137 #[.string ⟨l.toArray⟩] w (AtoiAny w) := by
  by_cases h : ∃ v, Lib.atoiAll l = .ok v
  · obtain ⟨v, h⟩ := h
    exact (atoi_ok l v h hl w).mono fun e w' ⟨he, hb⟩ => ⟨_, _, he, hb⟩
  · exact (atoi_no l (fun v hv => h ⟨v, hv⟩) hl w hw).mono fun e w' ⟨m, N, he, hb⟩ => ⟨_, _, he, hb⟩
theorem str_ne {a b : List UInt8} (h : a ≠ b) : (a == b) = false := beq_eq_false_iff_ne.2 h
set_option maxHeartbeats 400000 in
theorem int_no1 (p : Nat) (s word rest d : List UInt8) (w : World) (h : Rd w p (s, false)) (hw : Lw w) (hd : d.length ≤ 281474976710656) (is : Bool)
    (HC : Hid (Calls Tryz.prog 136 #[.string ⟨s.toArray⟩, .string ⟨#[101]⟩] w fun e w' => e = .returned (.tuple #[.string ⟨word.toArray⟩, .string ⟨rest.toArray⟩, .bool false]) ∧ Below w.heap.size w w'))
    (HP : Hid (∀ w, Calls Tryz.prog 135 #[.string ⟨word.toArray⟩, .string ⟨#[105]⟩] w fun e w' => e = .returned (.tuple #[.string ⟨d.toArray⟩, .bool is]) ∧ w = w')) :
    Calls Tryz.prog 111 #[.pointer (some ⟨p, 0, none⟩)] w (RdV (.int .i64 0) w p (s, true)) := by
  have H := Lib.hid h
  have HW := Lib.hid hw
  obtain ⟨c0, c1⟩ := h.cells
  clear h hw
  have HA : Hid (∀ w, Lw w → Calls Tryz.prog 137 #[.string ⟨d.toArray⟩] w (AtoiAny w)) := fun w hw => atoi_any d hd w hw
  go_enter Tryz.func111, Tryz.ntmps111
  go_wp2_with fail
  refine wp_scope_fwd 0 rfl ?_
  go_wp2_with fail
  refine (ready_any _ _ _ H.out).mono ?_
  rintro e w1 ⟨rfl, rfl⟩
  go_wp2_with fail
  refine HC.out.mono ?_
  rintro e w1 ⟨rfl, hb1⟩
  have HB1 := Lib.hid hb1
  clear hb1 c0 c1
  go_wp2_with fail
  refine (HP.out _).mono ?_
  rintro e w2 ⟨rfl, rfl⟩
  go_wp2_with fail
  refine (HA.out _ (HW.out.below HB1.out)).mono ?_
  rintro e w2 ⟨m, ev, rfl, hb2⟩
  have HB2 := Lib.hid (bt HB1.out hb2)
  clear hb2 HB1
  have HR := Lib.hid (H.out.below HB2.out)
  obtain ⟨c0, c1⟩ := HR.out.cells
  obtain ⟨f0, f1⟩ := HR.out.free
  go_wp2
  go_step3
  refine ⟨rfl, ?_⟩
  go_wp2
  rw [Exit.noGoto_ret]
  go_ret
  exact ⟨rfl, HR.out.set1 true, (Keeps.below _ HB2.out).trans (keepsP _ _ _ _)⟩
set_option maxHeartbeats 400000 in
theorem int_no2 (p : Nat) (s word rest d : List UInt8) (w : World) (h : Rd w p (s, false)) (hw : Lw w) (hd : d.length ≤ 281474976710656)
    (HC : Hid (Calls Tryz.prog 136 #[.string ⟨s.toArray⟩, .string ⟨#[101]⟩] w fun e w' => e = .returned (.tuple #[.string ⟨word.toArray⟩, .string ⟨rest.toArray⟩, .bool true]) ∧ Below w.heap.size w w'))
    (HP : Hid (∀ w, Calls Tryz.prog 135 #[.string ⟨word.toArray⟩, .string ⟨#[105]⟩] w fun e w' => e = .returned (.tuple #[.string ⟨d.toArray⟩, .bool false]) ∧ w = w')) :
    Calls Tryz.prog 111 #[.pointer (some ⟨p, 0, none⟩)] w (RdV (.int .i64 0) w p (s, true)) := by
  have H := Lib.hid h
  have HW := Lib.hid hw
  obtain ⟨c0, c1⟩ := h.cells
  clear h hw
  have HA : Hid (∀ w, Lw w → Calls Tryz.prog 137 #[.string ⟨d.toArray⟩] w (AtoiAny w)) := fun w hw => atoi_any d hd w hw
  go_enter Tryz.func111, Tryz.ntmps111
  go_wp2_with fail
  refine wp_scope_fwd 0 rfl ?_
  go_wp2_with fail
  refine (ready_any _ _ _ H.out).mono ?_
  rintro e w1 ⟨rfl, rfl⟩
  go_wp2_with fail
  refine HC.out.mono ?_
  rintro e w1 ⟨rfl, hb1⟩
  have HB1 := Lib.hid hb1
  clear hb1 c0 c1
  go_wp2_with fail
  refine (HP.out _).mono ?_
  rintro e w2 ⟨rfl, rfl⟩
  go_wp2_with fail
  refine (HA.out _ (HW.out.below HB1.out)).mono ?_
  rintro e w2 ⟨m, ev, rfl, hb2⟩
  have HB2 := Lib.hid (bt HB1.out hb2)
  clear hb2 HB1
  have HR := Lib.hid (H.out.below HB2.out)
  obtain ⟨c0, c1⟩ := HR.out.cells
  obtain ⟨f0, f1⟩ := HR.out.free
  go_wp2
  go_step3
  refine ⟨rfl, ?_⟩
  go_wp2
  rw [Exit.noGoto_ret]
  go_ret
  exact ⟨rfl, HR.out.set1 true, (Keeps.below _ HB2.out).trans (keepsP _ _ _ _)⟩
set_option maxHeartbeats 400000 in
theorem int_no3 (p : Nat) (s word rest d : List UInt8) (w : World) (h : Rd w p (s, false)) (hw : Lw w) (hd : d.length ≤ 281474976710656) (hno : ∀ v, Lib.atoiAll d ≠ .ok v)
    (HC : Hid (Calls Tryz.prog 136 #[.string ⟨s.toArray⟩, .string ⟨#[101]⟩] w fun e w' => e = .returned (.tuple #[.string ⟨word.toArray⟩, .string ⟨rest.toArray⟩, .bool true]) ∧ Below w.heap.size w w'))
    (HP : Hid (∀ w, Calls Tryz.prog 135 #[.string ⟨word.toArray⟩, .string ⟨#[105]⟩] w fun e w' => e = .returned (.tuple #[.string ⟨d.toArray⟩, .bool true]) ∧ w = w')) :
    Calls Tryz.prog 111 #[.pointer (some ⟨p, 0, none⟩)] w (RdV (.int .i64 0) w p (s, true)) := by
  have H := Lib.hid h
  have HW := Lib.hid hw
  obtain ⟨c0, c1⟩ := h.cells
  clear h hw
  have HA : Hid (∀ w, Lw w → Calls Tryz.prog 137 #[.string ⟨d.toArray⟩] w (AtoiNo w)) := fun w hw => atoi_no d hno hd w hw
  go_enter Tryz.func111, Tryz.ntmps111
  go_wp2_with fail
  refine wp_scope_fwd 0 rfl ?_
  go_wp2_with fail
  refine (ready_any _ _ _ H.out).mono ?_
  rintro e w1 ⟨rfl, rfl⟩
  go_wp2_with fail
  refine HC.out.mono ?_
  rintro e w1 ⟨rfl, hb1⟩
  have HB1 := Lib.hid hb1
  clear hb1 c0 c1
  go_wp2_with fail
  refine (HP.out _).mono ?_
  rintro e w2 ⟨rfl, rfl⟩
  go_wp2_with fail
  refine (HA.out _ (HW.out.below HB1.out)).mono ?_
  rintro e w2 ⟨m, N, rfl, hb2⟩
  have HB2 := Lib.hid (bt HB1.out hb2)
  clear hb2 HB1
  have HR := Lib.hid (H.out.below HB2.out)
  obtain ⟨c0, c1⟩ := HR.out.cells
  obtain ⟨f0, f1⟩ := HR.out.free
  go_wp2
  go_step3
  refine ⟨rfl, ?_⟩
  go_wp2
  rw [Exit.noGoto_ret]
  go_ret
  exact ⟨rfl, HR.out.set1 true, (Keeps.below _ HB2.out).trans (keepsP _ _ _ _)⟩
set_option maxHeartbeats 400000 in
theorem int_no4 (p : Nat) (s word rest d : List UInt8) (w : World) (h : Rd w p (s, false)) (hw : Lw w) (hd : d.length ≤ 281474976710656) (v : Int) (hv : Lib.atoiAll d = .ok v) (hne : Lib.itoa v ≠ d)
    (HC : Hid (Calls Tryz.prog 136 #[.string ⟨s.toArray⟩, .string ⟨#[101]⟩] w fun e w' => e = .returned (.tuple #[.string ⟨word.toArray⟩, .string ⟨rest.toArray⟩, .bool true]) ∧ Below w.heap.size w w'))
    (HP : Hid (∀ w, Calls Tryz.prog 135 #[.string ⟨word.toArray⟩, .string ⟨#[105]⟩] w fun e w' => e = .returned (.tuple #[.string ⟨d.toArray⟩, .bool true]) ∧ w = w')) :
    Calls Tryz.prog 111 #[.pointer (some ⟨p, 0, none⟩)] w (RdV (.int .i64 0) w p (s, true)) := by
  have H := Lib.hid h
  have HW := Lib.hid hw
  obtain ⟨c0, c1⟩ := h.cells
  clear h hw
  have hn := Lib.atoiAll_bounds hv
  have HA : Hid (∀ w, Calls Tryz.prog 137 #[.string ⟨d.toArray⟩] w fun e w' => e = .returned (.tuple #[.int .i64 v, .nilIface]) ∧ Below w.heap.size w w') := fun w => atoi_ok d v hv hd w
  have HI : Hid (∀ w, Lw w → Calls Tryz.prog 125 #[.int .i64 v] w fun e w' => e = .returned (.string ⟨(Lib.itoa v).toArray⟩) ∧ Below w.heap.size w w') := fun w hw => itoa_any v hn w hw
  have hne' := str_ne hne
  clear hv hn hne
  generalize Lib.itoa v = t at HI hne'
  go_enter Tryz.func111, Tryz.ntmps111
  go_wp2_with fail
  refine wp_scope_fwd 0 rfl ?_
  go_wp2_with fail
  refine (ready_any _ _ _ H.out).mono ?_
  rintro e w1 ⟨rfl, rfl⟩
  go_wp2_with fail
  refine HC.out.mono ?_
  rintro e w1 ⟨rfl, hb1⟩
  have HB1 := Lib.hid hb1
  clear hb1 c0 c1
  go_wp2_with fail
  refine (HP.out _).mono ?_
  rintro e w2 ⟨rfl, rfl⟩
  go_wp2_with fail
  refine (HA.out _).mono ?_
  rintro e w2 ⟨rfl, hb2⟩
  have HB2 := Lib.hid (bt HB1.out hb2)
  clear hb2 HB1
  go_wp2_with fail
  refine (HI.out _ (HW.out.below HB2.out)).mono ?_
  rintro e w3 ⟨rfl, hb3⟩
  have HB3 := Lib.hid (bt HB2.out hb3)
  clear hb3 HB2
  have HB2 := HB3
  clear HB3
  have HR := Lib.hid (H.out.below HB2.out)
  obtain ⟨c0, c1⟩ := HR.out.cells
  obtain ⟨f0, f1⟩ := HR.out.free
  go_wp2
  go_step3
  refine ⟨rfl, ?_⟩
  go_wp2
  rw [Exit.noGoto_ret]
  go_ret
  exact ⟨rfl, HR.out.set1 true, (Keeps.below _ HB2.out).trans (keepsP _ _ _ _)⟩
theorem int_any (p : Nat) (q : Bd.St) (w : World) (h : Rd w p q) (hl : q.1.length < 4294967281) (hw : Lw w) :
    Calls Tryz.prog 111 #[.pointer (some ⟨p, 0, none⟩)] w (RdV (.int .i64 (Bd.sInt q).1) w p (Bd.sInt q).2) := by
  obtain ⟨s, b⟩ := q
  cases b with
  | true => exact (int_bad p s w h).mono fun e w' ⟨he, hw'⟩ => ⟨he, hw' ▸ h, hw' ▸ Keeps.refl _ _⟩
  | false =>
    cases hr : Bd.rdInt s with
    | some x =>
      obtain ⟨n, r⟩ := x
      obtain ⟨hn, hs⟩ := Bd.rdInt_some hr
      have e : Bd.sInt (s, false) = (n, (r, false)) := by simp [Bd.sInt, hr]
      rw [e]
      exact int_yes p s r n hn w h hl hs hw
    | none =>
      have e : Bd.sInt (s, false) = (0, (s, true)) := by simp [Bd.sInt, hr]
      rw [e]
      have hl' : s.length < 4294967281 := hl
      have HC := Lib.hid (cut_any s 101 hl w hw)
      have HP : Hid (∀ w, Calls Tryz.prog 135 #[.string ⟨((Lib.cut s [101]).1).toArray⟩, .string ⟨#[105]⟩] w fun e w' => e = .returned (.tuple #[.string ⟨(Lib.trimPrefix (Lib.cut s [101]).1 [105]).toArray⟩, .bool (Lib.hasPrefix (Lib.cut s [101]).1 [105])]) ∧ w = w') := fun w => cutPrefix_any _ 105 w
      have hd : (Lib.trimPrefix (Lib.cut s [101]).1 [105]).length ≤ 281474976710656 := by
        have h1 := Lib.trimPrefix_le (Lib.cut s [101]).1 [105]
        have h2 : (Lib.cut s [101]).1.length ≤ s.length := by
          rcases Bd.cut_cases s 101 with ⟨_, e⟩ | ⟨a, b, _, e1, e⟩
          · rw [e]; exact Nat.le_refl _
          · rw [e, e1]; simp
        omega
      unfold Bd.rdInt at hr
      generalize Lib.trimPrefix (Lib.cut s [101]).1 [105] = d at *
      generalize Lib.hasPrefix (Lib.cut s [101]).1 [105] = is at *
      generalize Lib.cut s [101] = k at *
      obtain ⟨word, rest, ok⟩ := k
      simp only at *
      cases ok with
      | false => exact int_no1 p s word rest d w h hw hd is HC HP
      | true =>
        cases is with
        | false => exact int_no2 p s word rest d w h hw hd HC HP
        | true =>
          by_cases hv : ∃ v, Lib.atoiAll d = .ok v
          · obtain ⟨v, hv⟩ := hv
            rw [hv] at hr
            refine int_no4 p s word rest d w h hw hd v hv ?_ HC HP
            intro he
            simp [he] at hr
          · exact int_no3 p s word rest d w h hw hd (fun v hv' => hv ⟨v, hv'⟩) HC HP
end Go.Proofs.YtjfpbeccpcbpcaaGreatDoor
