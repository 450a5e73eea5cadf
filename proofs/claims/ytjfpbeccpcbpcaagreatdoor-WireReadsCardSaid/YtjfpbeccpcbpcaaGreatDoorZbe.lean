/-
  Brs / Brt / Bru: texts of one proof, one behind the other.
  Conditions: none of its own.
-/
import Derived.Test.YtjfpbeccpcbpcaaGreatDoorZbd
import Derived.Deep.QuietTactic
set_option linter.unusedVariables false
set_option linter.unusedSimpArgs false
set_option maxHeartbeats 6400000
set_option maxRecDepth 20000
namespace Go.Proofs.YtjfpbeccpcbpcaaGreatDoor
open Go.RowKit
def RR (w : World) (p : Nat) (l : List UInt8) (k : Int) (b : Bool) : Prop := w.heap[p]? = some (.cells #[.string ⟨l.toArray⟩, .int .i64 k, .bool b] 93 (0, 0))
theorem RR.cells {w : World} {p : Nat} {l : List UInt8} {k : Int} {b : Bool} (h : RR w p l k b) : w.cell? ⟨p, 0, none⟩ = some (.string ⟨l.toArray⟩) ∧ w.cell? ⟨p, 1, none⟩ = some (.int .i64 k) ∧ w.cell? ⟨p, 2, none⟩ = some (.bool b) := by
 unfold RR at h
 simp [World.cell?, h]
theorem RR.free {w : World} {p : Nat} {l : List UInt8} {k : Int} {b : Bool} (h : RR w p l k b) : w.frozen? ⟨p, 1, none⟩ = false ∧ w.frozen? ⟨p, 2, none⟩ = false := by
 unfold RR at h
 simp [World.frozen?, h]
theorem RR.lt {w : World} {p : Nat} {l : List UInt8} {k : Int} {b : Bool} (h : RR w p l k b) : p < w.heap.size := by
 unfold RR at h
 obtain ⟨h1, _⟩ := Array.getElem?_eq_some_iff.1 h
 exact h1
theorem RR.setAt {w : World} {p : Nat} {l : List UInt8} {k : Int} {b : Bool} (h : RR w p l k b) (k' : Int) : RR (w.setCell ⟨p, 1, none⟩ (.int .i64 k')) p l k' b := by
 unfold RR at h ⊢
 simp [World.setCell, Array.getElem?_modify, h]
theorem RR.setBad {w : World} {p : Nat} {l : List UInt8} {k : Int} {b : Bool} (h : RR w p l k b) (b' : Bool) : RR (w.setCell ⟨p, 2, none⟩ (.bool b')) p l k b' := by
 unfold RR at h ⊢
 simp [World.setCell, Array.getElem?_modify, h]
def RU (w : World) (p : Nat) (l : List UInt8) (q : Bd.St) : Prop := ∃ k : Nat, k ≤ l.length ∧ RR w p l k q.2 ∧ (q.2 = false → q.1 = l.drop k)
def RUs (w : World) (p : Nat) (l : List UInt8) (q : Bd.St) (w' : World) : Prop := RU w' p l q ∧ Keeps (fun k => k = p) w w'
theorem RU.keep {S : Nat → Prop} {w w' : World} {p : Nat} {l : List UInt8} {q : Bd.St} (h : RU w p l q) (kp : Keeps S w w') (hs : ¬ S p) : RU w' p l q := by
 obtain ⟨k, hk, hr, hq⟩ := h
 exact ⟨k, hk, (kp.block p hr.lt hs).trans hr, hq⟩
theorem RU.below {w w' : World} {p : Nat} {l : List UInt8} {q : Bd.St} (h : RU w p l q) (hb : Below w.heap.size w w') : RU w' p l q := by
 obtain ⟨k, hk, hr, hq⟩ := h
 exact ⟨k, hk, (hb.block p hr.lt).trans hr, hq⟩
theorem RU.lt {w : World} {p : Nat} {l : List UInt8} {q : Bd.St} (h : RU w p l q) : p < w.heap.size := by
 obtain ⟨k, hk, hr, hq⟩ := h
 exact hr.lt
theorem RU.new (l : List UInt8) (w : World) : RU (w.alloc (.cells #[.string ⟨l.toArray⟩, .int .i64 0, .bool false] 93)) w.heap.size l (l, false) := by
 refine ⟨0, Nat.zero_le _, ?_, fun _ => rfl⟩
 unfold RR
 rw [heap_alloc_new]
 rfl
theorem drop_getD {l : List UInt8} {k : Nat} (h : k < l.length) : (l.drop k).head? = some (l.getD k 0) := by
 rw [List.head?_drop]
 simp [List.getD, h]
theorem done_drop (l : List UInt8) (k : Nat) (hk : k ≤ l.length) : Bd.sDone (l.drop k, false) = if k < l.length then 3 else 0 := by
 by_cases h : k < l.length
 ·rw [if_pos h]
  have : l.drop k ≠ [] := fun e => by rw [List.drop_eq_nil_iff] at e; omega
  cases hd : l.drop k with
  | nil => exact absurd hd this
  | cons c r => rfl
 ·rw [if_neg h, show k = l.length by omega, List.drop_length]
  rfl
theorem more_drop (l : List UInt8) (k : Nat) (h : k < l.length) : Bd.sMore (l.drop k, false) = !decide ((l.getD k 0).toNat = 101) := by
 have hh := drop_getD h
 cases hd : l.drop k with
 | nil => rw [hd] at hh; cases hh
 | cons c r =>
  rw [hd] at hh
  simp only [List.head?_cons, Option.some.injEq] at hh
  subst hh
  simp only [Bd.sMore, List.isEmpty_cons, List.head?_cons, Bool.not_false, Bool.true_and]
  congr 1
  rw [Bool.eq_iff_iff]
  simp only [beq_iff_eq, Option.some.injEq, decide_eq_true_eq]
  exact ⟨fun e => by rw [e]; rfl, fun e => UInt8.toNat_inj.1 e⟩
theorem sign_drop (c : UInt8) (l : List UInt8) (k : Nat) (hk : k ≤ l.length) : Bd.sSign c (l.drop k, false) = if k < l.length ∧ (l.getD k 0).toNat = c.toNat then (l.drop (k + 1), false) else (l.drop k, true) := by
 by_cases h : k < l.length ∧ (l.getD k 0).toNat = c.toNat
 ·rw [if_pos h]
  have hc : l.getD k 0 = c := UInt8.toNat_inj.1 h.2
  have hh := drop_getD h.1
  rw [hc] at hh
  rw [Bd.drop_head hh]
  exact Bd.sSign_of c _
 ·rw [if_neg h]
  refine Bd.sSign_no fun e => h ?_
  have hlt : k < l.length := by
   rcases Nat.lt_or_ge k l.length with h1 | h1
   ·exact h1
   ·rw [List.drop_eq_nil_iff.2 h1] at e; cases e
  rw [drop_getD hlt] at e
  exact ⟨hlt, by rw [Option.some.inj e]⟩
theorem refdone_any (p : Nat) (l : List UInt8) (q : Bd.St) (w : World) (hl : l.length ≤ 4294967296) (h : RU w p l q) :
  Calls Tryz.prog 76 #[.pointer (some ⟨p, 0, none⟩)] w fun e w' => e = .returned (.int .i64 (Bd.sDone q)) ∧ ∃ n, w' = w.drewN n := by
 obtain ⟨k, hk, hr, hq⟩ := h
 obtain ⟨c0, c1, c2⟩ := hr.cells
 clear hr
 obtain ⟨t, b⟩ := q
 simp only at c2 hq
 cases b with
 | true =>
  clear hq
  go_enter Tryz.func76, Tryz.ntmps76
  go_wp2_with fail
  go_quiet (fail)
  go_wp2
  go_ret
  exact ⟨rfl, _, rfl⟩
 | false =>
  obtain rfl := hq rfl
  have hd := done_drop l k hk
  clear hq
  by_cases hlt : k < l.length
  ·rw [if_pos hlt] at hd
   generalize Bd.sDone (l.drop k, false) = d at *
   subst hd
   go_enter Tryz.func76, Tryz.ntmps76
   go_wp2_with fail
   go_quiet (fail)
   go_wp2
   go_ret
   exact ⟨rfl, _, rfl⟩
  ·rw [if_neg hlt] at hd
   generalize Bd.sDone (l.drop k, false) = d at *
   subst hd
   go_enter Tryz.func76, Tryz.ntmps76
   go_wp2_with fail
   go_quiet (fail)
   go_wp2
   go_ret
   exact ⟨rfl, _, rfl⟩
theorem refmore_any (p : Nat) (l : List UInt8) (q : Bd.St) (w : World) (hl : l.length ≤ 4294967296) (h : RU w p l q) :
  Calls Tryz.prog 121 #[.pointer (some ⟨p, 0, none⟩)] w fun e w' => e = .returned (.bool (Bd.sMore q)) ∧ ∃ n, w' = w.drewN n := by
 obtain ⟨k, hk, hr, hq⟩ := h
 obtain ⟨c0, c1, c2⟩ := hr.cells
 clear hr
 obtain ⟨t, b⟩ := q
 simp only at c2 hq
 cases b with
 | true =>
  clear hq
  go_enter Tryz.func121, Tryz.ntmps121
  go_wp2_with fail
  go_quiet (fail)
  go_wp2
  go_ret
  exact ⟨rfl, _, rfl⟩
 | false =>
  obtain rfl := hq rfl
  clear hq
  by_cases hlt : k < l.length
  ·have hd := more_drop l k hlt
   have hix := str_at (P := Tryz.prog) l k k rfl hlt 9 Tryz.underlying9
   have hc256 := UInt8.toNat_lt (l.getD k 0)
   generalize (l.getD k 0).toNat = c at *
   by_cases hc : c = 101
   ·rw [decide_eq_true hc] at hd
    generalize Bd.sMore (l.drop k, false) = d at *
    subst hd hc
    go_enter Tryz.func121, Tryz.ntmps121
    go_wp2_with fail
    go_quiet (fail)
    go_wp2
    go_ret
    exact ⟨rfl, _, rfl⟩
   ·rw [decide_eq_false hc] at hd
    generalize Bd.sMore (l.drop k, false) = d at *
    subst hd
    have hc' : ((c : Int) != 101) = true := bne_iff_ne.2 (by omega)
    go_enter Tryz.func121, Tryz.ntmps121
    go_wp2_with fail
    go_quiet (fail)
    go_wp2
    go_ret
    exact ⟨rfl, _, rfl⟩
  ·have hd : Bd.sMore (l.drop k, false) = false := by rw [show k = l.length by omega, List.drop_length]; rfl
   generalize Bd.sMore (l.drop k, false) = d at *
   subst hd
   go_enter Tryz.func121, Tryz.ntmps121
   go_wp2_with fail
   go_quiet (fail)
   go_wp2
   go_ret
   exact ⟨rfl, _, rfl⟩
theorem refsign_any (p : Nat) (l : List UInt8) (q : Bd.St) (c : UInt8) (w : World) (hl : l.length ≤ 4294967296) (h : RU w p l q) :
  Calls Tryz.prog 119 #[.pointer (some ⟨p, 0, none⟩), .int .u8 c.toNat] w fun e w' => e = .returned (.tuple #[]) ∧ RUs w p l (Bd.sSign c q) w' := by
 have H := hq' h
 obtain ⟨k, hk, hr, hq⟩ := h
 obtain ⟨c0, c1, c2⟩ := hr.cells
 obtain ⟨f1, f2⟩ := hr.free
 have HR := hq' hr
 clear hr
 obtain ⟨t, b⟩ := q
 simp only at c2 hq HR
 cases b with
 | true =>
  clear hq
  go_enter Tryz.func119, Tryz.ntmps119
  go_wp2
  (first | go_end0 | ((try simp only [Exit.inBlock, Exit.then]); refine bodyPost_ret (results_none rfl _ _ _) rfl ?_))
  exact ⟨rfl, H.out, Keeps.refl _ _⟩
 | false =>
  obtain rfl := hq rfl
  clear hq H
  have hd := sign_drop c l k hk
  have HB : Hid (∀ n, RUs w p l (l.drop k, true) ((w.drewN n).setCell ⟨p, 2, none⟩ (.bool true))) := fun n => ⟨⟨k, hk, RR.setBad (w := w.drewN n) HR.out true, fun h => by cases h⟩, (Keeps.drewN _ w n).trans (keepsP _ _ _ _)⟩
  by_cases hlt : k < l.length
  ·have HG : Hid (∀ n, RUs w p l (l.drop (k + 1), false) ((w.drewN n).setCell ⟨p, 1, none⟩ (.int .i64 ((k : Int) + 1)))) := fun n => ⟨⟨k + 1, hlt, RR.setAt (w := w.drewN n) HR.out _, fun h => rfl⟩, (Keeps.drewN _ w n).trans (keepsP _ _ _ _)⟩
   have hix := str_at (P := Tryz.prog) l k k rfl hlt 9 Tryz.underlying9
   have hc256 := UInt8.toNat_lt (l.getD k 0)
   have hd256 := UInt8.toNat_lt c
   generalize (l.getD k 0).toNat = x at *
   by_cases hx : x = c.toNat
   ·rw [if_pos ⟨hlt, hx⟩] at hd
    rw [hd]
    clear hd
    subst hx
    go_enter Tryz.func119, Tryz.ntmps119
    go_wp2_with fail
    go_quiet (fail)
    go_wp2
    (first | go_end0 | ((try simp only [Exit.inBlock, Exit.then]); refine bodyPost_ret (results_none rfl _ _ _) rfl ?_))
    exact ⟨rfl, HG.out _⟩
   ·rw [if_neg (fun h => hx h.2)] at hd
    rw [hd]
    clear hd
    generalize c.toNat = y at *
    go_enter Tryz.func119, Tryz.ntmps119
    go_wp2_with fail
    go_quiet (fail)
    go_wp2
    (first | go_end0 | ((try simp only [Exit.inBlock, Exit.then]); refine bodyPost_ret (results_none rfl _ _ _) rfl ?_))
    exact ⟨rfl, HB.out _⟩
  ·rw [if_neg (fun h => hlt h.1)] at hd
   rw [hd]
   clear hd
   generalize c.toNat = y at *
   go_enter Tryz.func119, Tryz.ntmps119
   go_wp2_with fail
   go_quiet (fail)
   go_wp2
   (first | go_end0 | ((try simp only [Exit.inBlock, Exit.then]); refine bodyPost_ret (results_none rfl _ _ _) rfl ?_))
   exact ⟨rfl, HB.out _⟩
theorem refopen_any (p : Nat) (l : List UInt8) (q : Bd.St) (w : World) (hl : l.length ≤ 4294967296) (h : RU w p l q) :
  Calls Tryz.prog 67 #[.pointer (some ⟨p, 0, none⟩)] w fun e w' => e = .returned (.tuple #[]) ∧ RUs w p l (Bd.sSign 108 q) w' := by
 have HC := hq' (refsign_any p l q 108 w hl h)
 clear h
 go_enter Tryz.func67, Tryz.ntmps67
 go_wp2_with fail
 refine HC.out.mono ?_
 rintro e w' ⟨rfl, h⟩
 go_wp2
 go_end0
 exact ⟨rfl, h⟩
theorem refclose_any (p : Nat) (l : List UInt8) (q : Bd.St) (w : World) (hl : l.length ≤ 4294967296) (h : RU w p l q) :
  Calls Tryz.prog 75 #[.pointer (some ⟨p, 0, none⟩)] w fun e w' => e = .returned (.tuple #[]) ∧ RUs w p l (Bd.sSign 101 q) w' := by
 have HC := hq' (refsign_any p l q 101 w hl h)
 clear h
 go_enter Tryz.func75, Tryz.ntmps75
 go_wp2_with fail
 refine HC.out.mono ?_
 rintro e w' ⟨rfl, h⟩
 go_wp2
 go_end0
 exact ⟨rfl, h⟩
theorem NumV.get (l : List UInt8) (a : Nat) (ha : a ≤ l.length) : ∃ (k : Nat) (u : Int), NumV l a = .tuple #[.int .i64 k, .int .u64 u] ∧ a + k ≤ l.length ∧ 0 ≤ u ∧ u ≤ 18446744073709551615 ∧ Bd.numP (l.drop a) = (k, u.toNat) := by
 obtain ⟨h1, h2⟩ := Bd.numP_le (l.drop a)
 rw [List.length_drop] at h1
 refine ⟨(Bd.numP (l.drop a)).1, ((Bd.numP (l.drop a)).2 : Nat), rfl, by omega, by omega, by omega, by simp⟩
theorem head_at (l : List UInt8) (a k : Nat) (c : UInt8) : ((l.drop a).drop k).head? = some c ↔ a + k < l.length ∧ (l.getD (a + k) 0).toNat = c.toNat := by
 rw [List.drop_drop]
 constructor
 ·intro h
  have hlt : a + k < l.length := by
   rcases Nat.lt_or_ge (a + k) l.length with h1 | h1
   ·exact h1
   ·rw [List.drop_eq_nil_iff.2 h1] at h; cases h
  rw [drop_getD hlt] at h
  exact ⟨hlt, by rw [Option.some.inj h]⟩
 ·rintro ⟨h1, h2⟩
  rw [drop_getD h1, UInt8.toNat_inj.1 h2]
theorem drop_at {l : List UInt8} {a : Nat} {c : UInt8} (h : a < l.length) (hc : (l.getD a 0).toNat = c.toNat) : l.drop a = c :: l.drop (a + 1) := by
 have := drop_getD h
 rw [UInt8.toNat_inj.1 hc] at this
 exact Bd.drop_head this
theorem sInt_is (l : List UInt8) (a a2 : Nat) (neg : Bool) (h : l.drop a = 105 :: (Bd.sg neg ++ l.drop a2)) (hn : neg = false → (l.drop a2).head? ≠ some 45) (k : Nat) (u : Int) (hu : 0 ≤ u) (hnum : Bd.numP (l.drop a2) = (k, u.toNat)) :
  (0 < k ∧ a2 + k < l.length ∧ (l.getD (a2 + k) 0).toNat = 101 ∧ Bd.fits neg u.toNat → Bd.sInt (l.drop a, false) = (Bd.sv neg u.toNat, (l.drop (a2 + k + 1), false))) ∧
  (¬(0 < k ∧ a2 + k < l.length ∧ (l.getD (a2 + k) 0).toNat = 101 ∧ Bd.fits neg u.toNat) → Bd.sInt (l.drop a, false) = (0, (l.drop a, true))) := by
 have hr := Bd.rdInt_ref neg (l.drop a2) hn
 rw [← h] at hr
 have hg : Bd.goodI neg (l.drop a2) ↔ 0 < k ∧ a2 + k < l.length ∧ (l.getD (a2 + k) 0).toNat = 101 ∧ Bd.fits neg u.toNat := by
  unfold Bd.goodI
  rw [hnum, head_at l a2 k 101]
  exact ⟨fun ⟨h1, h2, h3⟩ => ⟨h1, h2.1, h2.2, h3⟩, fun ⟨h1, h2, h3, h4⟩ => ⟨h1, ⟨h2, h3⟩, h4⟩⟩
 refine ⟨fun hc => ?_, fun hc => ?_⟩
 ·rw [if_pos (hg.2 hc), hnum, List.drop_drop] at hr
  simp only [Bd.sInt, hr, Bool.false_eq_true, if_false]
  rfl
 ·rw [if_neg (fun x => hc (hg.1 x))] at hr
  simp only [Bd.sInt, hr, Bool.false_eq_true, if_false]
theorem sInt_pos (l : List UInt8) (a : Nat) (ha : a < l.length) (h5 : (l.getD a 0).toNat = 105) (hn : a + 1 < l.length → (l.getD (a + 1) 0).toNat ≠ 45) :
  ∃ (k : Nat) (u : Int), NumV l (a + 1) = .tuple #[.int .i64 k, .int .u64 u] ∧ a + 1 + k ≤ l.length ∧ 0 ≤ u ∧ u ≤ 18446744073709551615 ∧
   (0 < k ∧ a + 1 + k < l.length ∧ (l.getD (a + 1 + k) 0).toNat = 101 ∧ u < 9223372036854775808 → Bd.sInt (l.drop a, false) = (u, (l.drop (a + 1 + k + 1), false))) ∧
   (¬(0 < k ∧ a + 1 + k < l.length ∧ (l.getD (a + 1 + k) 0).toNat = 101 ∧ u < 9223372036854775808) → Bd.sInt (l.drop a, false) = (0, (l.drop a, true))) := by
 obtain ⟨k, u, h1, h2, h3, h4, h6⟩ := NumV.get l (a + 1) ha
 obtain ⟨e1, e2⟩ := sInt_is l a (a + 1) false (drop_at ha h5) (fun _ e => by
  have hlt : a + 1 < l.length := by
   rcases Nat.lt_or_ge (a + 1) l.length with h1 | h1
   ·exact h1
   ·rw [List.drop_eq_nil_iff.2 h1] at e; cases e
  rw [drop_getD hlt] at e
  exact hn hlt (by rw [Option.some.inj e]; rfl)) k u h3 h6
 have hf : Bd.fits false u.toNat ↔ u < 9223372036854775808 := by simp [Bd.fits] <;> omega
 have hs : Bd.sv false u.toNat = u := by simp [Bd.sv] <;> omega
 rw [hs] at e1
 rw [hf] at e1 e2
 exact ⟨k, u, h1, h2, h3, h4, e1, e2⟩
theorem sInt_neg (l : List UInt8) (a : Nat) (ha : a + 1 < l.length) (h5 : (l.getD a 0).toNat = 105) (hn : (l.getD (a + 1) 0).toNat = 45) :
  ∃ (k : Nat) (u : Int), NumV l (a + 1 + 1) = .tuple #[.int .i64 k, .int .u64 u] ∧ a + 1 + 1 + k ≤ l.length ∧ 0 ≤ u ∧ u ≤ 18446744073709551615 ∧
   (0 < k ∧ a + 1 + 1 + k < l.length ∧ (l.getD (a + 1 + 1 + k) 0).toNat = 101 ∧ 0 < u ∧ u ≤ 9223372036854775808 → Bd.sInt (l.drop a, false) = (-u, (l.drop (a + 1 + 1 + k + 1), false))) ∧
   (¬(0 < k ∧ a + 1 + 1 + k < l.length ∧ (l.getD (a + 1 + 1 + k) 0).toNat = 101 ∧ 0 < u ∧ u ≤ 9223372036854775808) → Bd.sInt (l.drop a, false) = (0, (l.drop a, true))) := by
 obtain ⟨k, u, h1, h2, h3, h4, h6⟩ := NumV.get l (a + 1 + 1) ha
 obtain ⟨e1, e2⟩ := sInt_is l a (a + 1 + 1) true (by rw [drop_at (c := 105) (by omega) h5, drop_at (c := 45) ha hn]; rfl) (fun e => by cases e) k u h3 h6
 have hf : Bd.fits true u.toNat ↔ 0 < u ∧ u ≤ 9223372036854775808 := by simp [Bd.fits] <;> omega
 have hs : Bd.sv true u.toNat = -u := by simp [Bd.sv] <;> omega
 rw [hs] at e1
 rw [hf] at e1 e2
 exact ⟨k, u, h1, h2, h3, h4, e1, e2⟩
theorem sInt_off (l : List UInt8) (a : Nat) (h : ¬(a < l.length ∧ (l.getD a 0).toNat = 105)) : Bd.sInt (l.drop a, false) = (0, (l.drop a, true)) := by
 cases hr : Bd.rdInt (l.drop a) with
 | none => simp [Bd.sInt, hr]
 | some x =>
  exfalso
  obtain ⟨n, r⟩ := x
  have hh := Bd.rdInt_head hr
  exact h ((head_at l a 0 105).1 (by simpa using hh))
def RIV (w : World) (p : Nat) (l : List UInt8) (q : Bd.St) (e : Ending) (w' : World) : Prop := e = .returned (.int .i64 (Bd.sInt q).1) ∧ RUs w p l (Bd.sInt q).2 w'
theorem refint_bad (p : Nat) (l s : List UInt8) (w : World) (hl : l.length ≤ 4294967296) (h : RU w p l (s, true)) : Calls Tryz.prog 68 #[.pointer (some ⟨p, 0, none⟩)] w (RIV w p l (s, true)) := by
 have H := hq' h
 obtain ⟨k, hk, hr, hq⟩ := h
 obtain ⟨c0, c1, c2⟩ := hr.cells
 clear hr hq
 go_enter Tryz.func68, Tryz.ntmps68
 go_wp2
 go_ret
 exact ⟨rfl, H.out, Keeps.refl _ _⟩
theorem refint_off0 (p : Nat) (l : List UInt8) (a : Nat) (w : World) (hl : l.length ≤ 4294967296) (hk : a ≤ l.length) (hr : RR w p l a false) (h : ¬ a < l.length) : Calls Tryz.prog 68 #[.pointer (some ⟨p, 0, none⟩)] w (RIV w p l (l.drop a, false)) := by
 have HE := hq' (sInt_off l a (fun x => h x.1))
 obtain ⟨c0, c1, c2⟩ := hr.cells
 obtain ⟨f1, f2⟩ := hr.free
 have HR := hq' hr
 clear hr
 have HB : Hid (∀ n, Bd.sInt (l.drop a, false) = (0, (l.drop a, true)) → ∀ v : Int, v = 0 → RIV w p l (l.drop a, false) (.returned (.int .i64 v)) ((w.drewN n).setCell ⟨p, 2, none⟩ (.bool true))) := fun n e v hv => by
  rw [RIV, e, hv]
  exact ⟨rfl, ⟨a, hk, RR.setBad (w := w.drewN n) HR.out true, fun h => by cases h⟩, (Keeps.drewN _ w n).trans (keepsP _ _ _ _)⟩
 go_enter Tryz.func68, Tryz.ntmps68
 go_wp2
 go_ret
 exact HB.out 0 HE.out 0 rfl
theorem refint_off1 (p : Nat) (l : List UInt8) (a : Nat) (w : World) (hl : l.length ≤ 4294967296) (hk : a ≤ l.length) (hr : RR w p l a false) (h : a < l.length) (h5 : (l.getD a 0).toNat ≠ 105) : Calls Tryz.prog 68 #[.pointer (some ⟨p, 0, none⟩)] w (RIV w p l (l.drop a, false)) := by
 have HE := hq' (sInt_off l a (fun x => h5 x.2))
 obtain ⟨c0, c1, c2⟩ := hr.cells
 obtain ⟨f1, f2⟩ := hr.free
 have HR := hq' hr
 clear hr
 have HB : Hid (∀ n, Bd.sInt (l.drop a, false) = (0, (l.drop a, true)) → ∀ v : Int, v = 0 → RIV w p l (l.drop a, false) (.returned (.int .i64 v)) ((w.drewN n).setCell ⟨p, 2, none⟩ (.bool true))) := fun n e v hv => by
  rw [RIV, e, hv]
  exact ⟨rfl, ⟨a, hk, RR.setBad (w := w.drewN n) HR.out true, fun h => by cases h⟩, (Keeps.drewN _ w n).trans (keepsP _ _ _ _)⟩
 have hix := str_at (P := Tryz.prog) l a a rfl h 9 Tryz.underlying9
 have hc256 := UInt8.toNat_lt (l.getD a 0)
 generalize (l.getD a 0).toNat = x at *
 go_enter Tryz.func68, Tryz.ntmps68
 go_wp2
 go_ret
 exact HB.out 0 HE.out 0 rfl
theorem refint_p0 (p : Nat) (l : List UInt8) (a : Nat) (w : World) (hl : l.length ≤ 4294967296) (hk : a ≤ l.length) (hr : RR w p l a false) (h : a < l.length) (h5 : (l.getD a 0).toNat = 105) (h1 : ¬ a + 1 < l.length) : Calls Tryz.prog 68 #[.pointer (some ⟨p, 0, none⟩)] w (RIV w p l (l.drop a, false)) := by
 have hs := sInt_pos l a h h5 (fun x => absurd x h1)
 obtain ⟨k, u, hN, hak, hu0, hu1, hgood, hbad⟩ := hs
 obtain ⟨c0, c1, c2⟩ := hr.cells
 obtain ⟨f1, f2⟩ := hr.free
 have HR := hq' hr
 clear hr
 have HB : Hid (∀ n, Bd.sInt (l.drop a, false) = (0, (l.drop a, true)) → ∀ v : Int, v = 0 → RIV w p l (l.drop a, false) (.returned (.int .i64 v)) ((w.drewN n).setCell ⟨p, 2, none⟩ (.bool true))) := fun n e v hv => by
  rw [RIV, e, hv]
  exact ⟨rfl, ⟨a, hk, RR.setBad (w := w.drewN n) HR.out true, fun h => by cases h⟩, (Keeps.drewN _ w n).trans (keepsP _ _ _ _)⟩
 have HN : Hid (∀ (b : Int) w, b = (a : Int) + 1 → Calls Tryz.prog 120 #[.string ⟨l.toArray⟩, .int .i64 b] w fun e w' => e = .returned (.tuple #[.int .i64 k, .int .u64 u]) ∧ w' = w) := fun b w hb => by
  have := bnumber_any l (a + 1) (by omega) hl w
  rw [hN] at this
  rw [hb]
  exact this
 have HG : Hid (∀ n, Bd.sInt (l.drop a, false) = (u, (l.drop (a + 1 + k + 1), false)) → a + 1 + k + 1 ≤ l.length → ∀ v b : Int, v = u → b = (a : Int) + 1 + k + 1 → RIV w p l (l.drop a, false) (.returned (.int .i64 v)) ((w.drewN n).setCell ⟨p, 1, none⟩ (.int .i64 b))) := fun n e hle v b hv hb => by
  rw [RIV, e, hv, hb]
  exact ⟨rfl, ⟨a + 1 + k + 1, hle, RR.setAt (w := w.drewN n) HR.out _, fun h => rfl⟩, (Keeps.drewN _ w n).trans (keepsP _ _ _ _)⟩
 have hix := str_at (P := Tryz.prog) l a a rfl h 9 Tryz.underlying9
 rw [h5] at hix
 clear hN
 by_cases h3 : a + 1 + k < l.length
 ·exfalso; omega
 ·have HE := hq' (hbad (fun hg => h3 hg.2.1))
  clear hgood hbad
  go_enter Tryz.func68, Tryz.ntmps68
  go_wp2_with fail
  refine (HN.out _ _ rfl).mono ?_
  rintro e w1 ⟨rfl, rfl⟩
  go_wp2
  all_goals first
   | (exfalso; omega)
   | (go_ret; exact HB.out 0 HE.out 0 rfl)
theorem refint_p1 (p : Nat) (l : List UInt8) (a : Nat) (w : World) (hl : l.length ≤ 4294967296) (hk : a ≤ l.length) (hr : RR w p l a false) (h : a < l.length) (h5 : (l.getD a 0).toNat = 105) (h1 : a + 1 < l.length) (h4 : (l.getD (a + 1) 0).toNat ≠ 45) : Calls Tryz.prog 68 #[.pointer (some ⟨p, 0, none⟩)] w (RIV w p l (l.drop a, false)) := by
 have hs := sInt_pos l a h h5 (fun _ => h4)
 have hix1 := str_at (P := Tryz.prog) l (a + 1) ((a : Int) + 1) (by omega) h1 9 Tryz.underlying9
 have hc1256 := UInt8.toNat_lt (l.getD (a + 1) 0)
 generalize (l.getD (a + 1) 0).toNat = x1 at h4 hix1 hc1256
 obtain ⟨k, u, hN, hak, hu0, hu1, hgood, hbad⟩ := hs
 obtain ⟨c0, c1, c2⟩ := hr.cells
 obtain ⟨f1, f2⟩ := hr.free
 have HR := hq' hr
 clear hr
 have HB : Hid (∀ n, Bd.sInt (l.drop a, false) = (0, (l.drop a, true)) → ∀ v : Int, v = 0 → RIV w p l (l.drop a, false) (.returned (.int .i64 v)) ((w.drewN n).setCell ⟨p, 2, none⟩ (.bool true))) := fun n e v hv => by
  rw [RIV, e, hv]
  exact ⟨rfl, ⟨a, hk, RR.setBad (w := w.drewN n) HR.out true, fun h => by cases h⟩, (Keeps.drewN _ w n).trans (keepsP _ _ _ _)⟩
 have HN : Hid (∀ (b : Int) w, b = (a : Int) + 1 → Calls Tryz.prog 120 #[.string ⟨l.toArray⟩, .int .i64 b] w fun e w' => e = .returned (.tuple #[.int .i64 k, .int .u64 u]) ∧ w' = w) := fun b w hb => by
  have := bnumber_any l (a + 1) (by omega) hl w
  rw [hN] at this
  rw [hb]
  exact this
 have HG : Hid (∀ n, Bd.sInt (l.drop a, false) = (u, (l.drop (a + 1 + k + 1), false)) → a + 1 + k + 1 ≤ l.length → ∀ v b : Int, v = u → b = (a : Int) + 1 + k + 1 → RIV w p l (l.drop a, false) (.returned (.int .i64 v)) ((w.drewN n).setCell ⟨p, 1, none⟩ (.int .i64 b))) := fun n e hle v b hv hb => by
  rw [RIV, e, hv, hb]
  exact ⟨rfl, ⟨a + 1 + k + 1, hle, RR.setAt (w := w.drewN n) HR.out _, fun h => rfl⟩, (Keeps.drewN _ w n).trans (keepsP _ _ _ _)⟩
 have hix := str_at (P := Tryz.prog) l a a rfl h 9 Tryz.underlying9
 rw [h5] at hix
 clear hN
 by_cases h3 : a + 1 + k < l.length
 ·have hix3 := str_at (P := Tryz.prog) l (a + 1 + k) ((a : Int) + 1 + k) (by omega) h3 9 Tryz.underlying9
  have hc256 := UInt8.toNat_lt (l.getD (a + 1 + k) 0)
  generalize (l.getD (a + 1 + k) 0).toNat = x at *
  by_cases hg : 0 < k ∧ a + 1 + k < l.length ∧ x = 101 ∧ u < 9223372036854775808
  ·have HE := hq' (hgood hg)
   obtain ⟨g1, g2, rfl, g3⟩ := hg
   clear hgood hbad
   go_enter Tryz.func68, Tryz.ntmps68
   go_wp2_with fail
   refine (HN.out _ _ rfl).mono ?_
   rintro e w1 ⟨rfl, rfl⟩
   go_wp2
   go_ret
   exact HG.out 0 HE.out (by omega) _ _ (by omega) (by omega)
  ·have HE := hq' (hbad hg)
   clear hgood hbad
   go_enter Tryz.func68, Tryz.ntmps68
   go_wp2_with fail
   refine (HN.out _ _ rfl).mono ?_
   rintro e w1 ⟨rfl, rfl⟩
   go_wp2
   all_goals first
    | (exfalso; omega)
    | (go_ret; exact HB.out 0 HE.out 0 rfl)
    | (exfalso; simp only [beq_iff_eq] at *; omega)
 ·have HE := hq' (hbad (fun hg => h3 hg.2.1))
  clear hgood hbad
  go_enter Tryz.func68, Tryz.ntmps68
  go_wp2_with fail
  refine (HN.out _ _ rfl).mono ?_
  rintro e w1 ⟨rfl, rfl⟩
  go_wp2
  all_goals first
   | (exfalso; omega)
   | (go_ret; exact HB.out 0 HE.out 0 rfl)
theorem refint_n (p : Nat) (l : List UInt8) (a : Nat) (w : World) (hl : l.length ≤ 4294967296) (hk : a ≤ l.length) (hr : RR w p l a false) (h : a < l.length) (h5 : (l.getD a 0).toNat = 105) (h1 : a + 1 < l.length) (h4 : (l.getD (a + 1) 0).toNat = 45) : Calls Tryz.prog 68 #[.pointer (some ⟨p, 0, none⟩)] w (RIV w p l (l.drop a, false)) := by
 have hs := sInt_neg l a h1 h5 h4
 have hix1 := str_at (P := Tryz.prog) l (a + 1) ((a : Int) + 1) (by omega) h1 9 Tryz.underlying9
 rw [h4] at hix1
 obtain ⟨k, u, hN, hak, hu0, hu1, hgood, hbad⟩ := hs
 obtain ⟨c0, c1, c2⟩ := hr.cells
 obtain ⟨f1, f2⟩ := hr.free
 have HR := hq' hr
 clear hr
 have HB : Hid (∀ n, Bd.sInt (l.drop a, false) = (0, (l.drop a, true)) → ∀ v : Int, v = 0 → RIV w p l (l.drop a, false) (.returned (.int .i64 v)) ((w.drewN n).setCell ⟨p, 2, none⟩ (.bool true))) := fun n e v hv => by
  rw [RIV, e, hv]
  exact ⟨rfl, ⟨a, hk, RR.setBad (w := w.drewN n) HR.out true, fun h => by cases h⟩, (Keeps.drewN _ w n).trans (keepsP _ _ _ _)⟩
 have HN : Hid (∀ (b : Int) w, b = (a : Int) + 1 + 1 → Calls Tryz.prog 120 #[.string ⟨l.toArray⟩, .int .i64 b] w fun e w' => e = .returned (.tuple #[.int .i64 k, .int .u64 u]) ∧ w' = w) := fun b w hb => by
  have := bnumber_any l (a + 1 + 1) (by omega) hl w
  rw [hN] at this
  rw [hb]
  exact this
 have HG : Hid (∀ n, Bd.sInt (l.drop a, false) = (-u, (l.drop (a + 1 + 1 + k + 1), false)) → a + 1 + 1 + k + 1 ≤ l.length → ∀ v b : Int, v = -u → b = (a : Int) + 1 + 1 + k + 1 → RIV w p l (l.drop a, false) (.returned (.int .i64 v)) ((w.drewN n).setCell ⟨p, 1, none⟩ (.int .i64 b))) := fun n e hle v b hv hb => by
  rw [RIV, e, hv, hb]
  exact ⟨rfl, ⟨a + 1 + 1 + k + 1, hle, RR.setAt (w := w.drewN n) HR.out _, fun h => rfl⟩, (Keeps.drewN _ w n).trans (keepsP _ _ _ _)⟩
 have hix := str_at (P := Tryz.prog) l a a rfl h 9 Tryz.underlying9
 rw [h5] at hix
 clear hN
 by_cases h3 : a + 1 + 1 + k < l.length
 ·have hix3 := str_at (P := Tryz.prog) l (a + 1 + 1 + k) ((a : Int) + 1 + 1 + k) (by omega) h3 9 Tryz.underlying9
  have hc256 := UInt8.toNat_lt (l.getD (a + 1 + 1 + k) 0)
  generalize (l.getD (a + 1 + 1 + k) 0).toNat = x at *
  by_cases hg : 0 < k ∧ a + 1 + 1 + k < l.length ∧ x = 101 ∧ 0 < u ∧ u ≤ 9223372036854775808
  ·have HE := hq' (hgood hg)
   obtain ⟨g1, g2, rfl, g3⟩ := hg
   clear hgood hbad
   go_enter Tryz.func68, Tryz.ntmps68
   go_wp2_with fail
   refine (HN.out _ _ rfl).mono ?_
   rintro e w1 ⟨rfl, rfl⟩
   go_wp2
   go_ret
   exact HG.out 0 HE.out (by omega) _ _ (by omega) (by omega)
  ·have HE := hq' (hbad hg)
   clear hgood hbad
   go_enter Tryz.func68, Tryz.ntmps68
   go_wp2_with fail
   refine (HN.out _ _ rfl).mono ?_
   rintro e w1 ⟨rfl, rfl⟩
   go_wp2
   all_goals first
    | (exfalso; omega)
    | (go_ret; exact HB.out 0 HE.out 0 rfl)
    | (exfalso; simp only [beq_iff_eq] at *; omega)
 ·have HE := hq' (hbad (fun hg => h3 hg.2.1))
  clear hgood hbad
  go_enter Tryz.func68, Tryz.ntmps68
  go_wp2_with fail
  refine (HN.out _ _ rfl).mono ?_
  rintro e w1 ⟨rfl, rfl⟩
  go_wp2
  all_goals first
   | (exfalso; omega)
   | (go_ret; exact HB.out 0 HE.out 0 rfl)
theorem refint_any (p : Nat) (l : List UInt8) (q : Bd.St) (w : World) (hl : l.length ≤ 4294967296) (h : RU w p l q) : Calls Tryz.prog 68 #[.pointer (some ⟨p, 0, none⟩)] w (RIV w p l q) := by
 obtain ⟨s, b⟩ := q
 cases b with
 | true => exact refint_bad p l s w hl h
 | false =>
  obtain ⟨a, ha, hr, hq⟩ := h
  obtain rfl := hq rfl
  by_cases h0 : a < l.length
  ·by_cases h5 : (l.getD a 0).toNat = 105
   ·by_cases h1 : a + 1 < l.length
    ·by_cases h4 : (l.getD (a + 1) 0).toNat = 45
     ·exact refint_n p l a w hl ha hr h0 h5 h1 h4
     ·exact refint_p1 p l a w hl ha hr h0 h5 h1 h4
    ·exact refint_p0 p l a w hl ha hr h0 h5 h1
   ·exact refint_off1 p l a w hl ha hr h0 h5
  ·exact refint_off0 p l a w hl ha hr h0
theorem sText_num (l : List UInt8) (a : Nat) (most : Int) (hm : most ≤ 9223372036854775807) (ha : a ≤ l.length) :
  ∃ (k : Nat) (u : Int), NumV l a = .tuple #[.int .i64 k, .int .u64 u] ∧ a + k ≤ l.length ∧ 0 ≤ u ∧ u ≤ 18446744073709551615 ∧
   (0 < k ∧ a + k < l.length ∧ (l.getD (a + k) 0).toNat = 58 ∧ 0 ≤ most ∧ u ≤ most ∧ u ≤ (l.length : Int) - a - k - 1 → Bd.sText most (l.drop a, false) = ((l.take (a + k + 1 + u.toNat)).drop (a + k + 1), (l.drop (a + k + 1 + u.toNat), false))) ∧
   (¬(0 < k ∧ a + k < l.length ∧ (l.getD (a + k) 0).toNat = 58 ∧ 0 ≤ most ∧ u ≤ most ∧ u ≤ (l.length : Int) - a - k - 1) → Bd.sText most (l.drop a, false) = ([], (l.drop a, true))) := by
 obtain ⟨k, u, h1, h2, h3, h4, h6⟩ := NumV.get l a ha
 have hr := Bd.rdText_ref most hm (l.drop a)
 have hg : Bd.goodT most (l.drop a) ↔ 0 < k ∧ a + k < l.length ∧ (l.getD (a + k) 0).toNat = 58 ∧ 0 ≤ most ∧ u ≤ most ∧ u ≤ (l.length : Int) - a - k - 1 := by
  unfold Bd.goodT
  rw [h6, head_at l a k 58, List.length_drop]
  simp only
  constructor
  ·rintro ⟨g1, ⟨g2, g3⟩, g4, g5⟩
   exact ⟨g1, g2, g3, by omega, by omega, by omega⟩
  ·rintro ⟨g1, g2, g3, g4, g5, g6⟩
   exact ⟨g1, ⟨g2, g3⟩, by omega, by omega⟩
 refine ⟨k, u, h1, h2, h3, h4, fun hc => ?_, fun hc => ?_⟩
 ·rw [if_pos (hg.2 hc), h6, List.drop_drop, List.drop_drop] at hr
  simp only [Bd.sText, hr, Bool.false_eq_true, if_false]
  have e : (l.take (a + k + 1 + u.toNat)).drop (a + k + 1) = (l.drop (a + k + 1)).take u.toNat := by
   rw [List.drop_take]
   congr 1
   omega
  rw [e, show a + (k + 1) = a + k + 1 by omega, show a + (k + 1 + u.toNat) = a + k + 1 + u.toNat by omega]
 ·rw [if_neg (fun x => hc (hg.1 x))] at hr
  simp only [Bd.sText, hr, Bool.false_eq_true, if_false]
def RTV (w : World) (p : Nat) (l : List UInt8) (most : Int) (q : Bd.St) (e : Ending) (w' : World) : Prop := e = .returned (.string ⟨(Bd.sText most q).1.toArray⟩) ∧ RUs w p l (Bd.sText most q).2 w'
theorem reftext_bad (p : Nat) (most : Int) (l s : List UInt8) (w : World) (hl : l.length ≤ 4294967296) (h : RU w p l (s, true)) : Calls Tryz.prog 73 #[.pointer (some ⟨p, 0, none⟩), .int .i64 most] w (RTV w p l most (s, true)) := by
 have H := hq' h
 obtain ⟨k, hk, hr, hq⟩ := h
 obtain ⟨c0, c1, c2⟩ := hr.cells
 clear hr hq
 go_enter Tryz.func73, Tryz.ntmps73
 go_wp2
 go_ret
 exact ⟨rfl, H.out, Keeps.refl _ _⟩
theorem reftext_ok (p : Nat) (most : Int) (l : List UInt8) (a : Nat) (w : World) (hl : l.length ≤ 4294967296) (hk : a ≤ l.length) (hm : most ≤ 9223372036854775807) (hm0 : -9223372036854775808 ≤ most) (hr : RR w p l a false) :
  Calls Tryz.prog 73 #[.pointer (some ⟨p, 0, none⟩), .int .i64 most] w (RTV w p l most (l.drop a, false)) := by
 obtain ⟨k, u, hN, hak, hu0, hu1, hgood, hbad⟩ := sText_num l a most hm hk
 obtain ⟨c0, c1, c2⟩ := hr.cells
 obtain ⟨f1, f2⟩ := hr.free
 have HR := hq' hr
 clear hr
 have HB : Hid (∀ n, Bd.sText most (l.drop a, false) = ([], (l.drop a, true)) → RTV w p l most (l.drop a, false) (.returned (.string ⟨#[]⟩)) ((w.drewN n).setCell ⟨p, 2, none⟩ (.bool true))) := fun n e => by
  rw [RTV, e]
  exact ⟨rfl, ⟨a, hk, RR.setBad (w := w.drewN n) HR.out true, fun h => by cases h⟩, (Keeps.drewN _ w n).trans (keepsP _ _ _ _)⟩
 have HN : Hid (∀ w, Calls Tryz.prog 120 #[.string ⟨l.toArray⟩, .int .i64 a] w fun e w' => e = .returned (.tuple #[.int .i64 k, .int .u64 u]) ∧ w' = w) := fun w => by
  have := bnumber_any l a (by omega) hl w
  rw [hN] at this
  exact this
 have HG : Hid (∀ n m, Bd.sText most (l.drop a, false) = ((l.take (a + k + 1 + u.toNat)).drop (a + k + 1), (l.drop (a + k + 1 + u.toNat), false)) → a + k + 1 + u.toNat ≤ l.length → ∀ b : Int, b = (a : Int) + k + 1 + u → RTV w p l most (l.drop a, false) (.returned (.string ⟨((l.take (a + k + 1 + u.toNat)).drop (a + k + 1)).toArray⟩)) (((w.drewN n).setCell ⟨p, 1, none⟩ (.int .i64 b)).drewN m)) := fun n m e hle b hb => by
  rw [RTV, e, hb]
  refine ⟨rfl, ⟨a + k + 1 + u.toNat, hle, ?_, fun h => rfl⟩, ((Keeps.drewN _ w n).trans (keepsP _ _ _ _)).trans (Keeps.drewN _ _ m)⟩
  have := RR.setAt (w := w.drewN n) HR.out ((a : Int) + k + 1 + u)
  rw [show ((a + k + 1 + u.toNat : Nat) : Int) = (a : Int) + k + 1 + u by omega]
  exact this
 clear hN
 by_cases h3 : a + k < l.length
 ·have hix3 := str_at (P := Tryz.prog) l (a + k) ((a : Int) + k) (by omega) h3 9 Tryz.underlying9
  have hc256 := UInt8.toNat_lt (l.getD (a + k) 0)
  generalize (l.getD (a + k) 0).toNat = x at *
  by_cases hg : 0 < k ∧ a + k < l.length ∧ x = 58 ∧ 0 ≤ most ∧ u ≤ most ∧ u ≤ (l.length : Int) - a - k - 1
  ·have HE := hq' (hgood hg)
   obtain ⟨g1, g2, rfl, g3, g4, g5⟩ := hg
   have hcut := str_cut (P := Tryz.prog) l (a + k + 1) (a + k + 1 + u.toNat) ((a : Int) + k + 1) ((a : Int) + k + 1 + u) .i64 .i64 (by omega) (by omega) (by omega) (by omega) 9 Tryz.underlying9
   clear hgood hbad
   generalize (l.take (a + k + 1 + u.toNat)).drop (a + k + 1) = t at *
   go_enter Tryz.func73, Tryz.ntmps73
   go_wp2_with fail
   go_quiet ((go_at_call 120; exact Calls.quiet_of_same (HN.out _)))
   go_wp2_with fail
   go_quiet (fail)
   go_wp2
   go_ret
   exact HG.out _ _ HE.out (by omega) _ (by omega)
  ·have HE := hq' (hbad hg)
   clear hgood hbad
   go_enter Tryz.func73, Tryz.ntmps73
   go_wp2_with fail
   go_quiet ((go_at_call 120; exact Calls.quiet_of_same (HN.out _)))
   go_wp2
   all_goals first
    | (exfalso; omega)
    | (go_ret; exact HB.out _ HE.out)
    | (exfalso; simp only [beq_iff_eq] at *; omega)
 ·have HE := hq' (hbad (fun hg => h3 hg.2.1))
  clear hgood hbad
  go_enter Tryz.func73, Tryz.ntmps73
  go_wp2_with fail
  go_quiet ((go_at_call 120; exact Calls.quiet_of_same (HN.out _)))
  go_wp2
  all_goals first
   | (exfalso; omega)
   | (go_ret; exact HB.out _ HE.out)
theorem reftext_any (p : Nat) (most : Int) (hm0 : -9223372036854775808 ≤ most) (hm : most ≤ 9223372036854775807) (l : List UInt8) (q : Bd.St) (w : World) (hl : l.length ≤ 4294967296) (h : RU w p l q) : Calls Tryz.prog 73 #[.pointer (some ⟨p, 0, none⟩), .int .i64 most] w (RTV w p l most q) := by
 obtain ⟨s, b⟩ := q
 cases b with
 | true => exact reftext_bad p most l s w hl h
 | false =>
  obtain ⟨a, ha, hr, hq⟩ := h
  obtain rfl := hq rfl
  exact reftext_ok p most l a w hl ha hm hm0 hr
end Go.Proofs.YtjfpbeccpcbpcaaGreatDoor
