/-
  Bra / Yi / Yf / Yj / Qh: texts of one proof, one behind the other.
  Conditions: none of its own.
-/
import Derived.Test.YtjfpbeccpcbpcaaGreatDoorZac
import Derived.Test.YtjfpbeccpcbpcaaGreatDoorZaf
import Derived.Test.YtjfpbeccpcbpcaaGreatDoorZag
import Derived.Test.YtjfpbeccpcbpcaaGreatDoorZak
import Derived.Test.YtjfpbeccpcbpcaaGreatDoorZaq
import Derived.Test.YtjfpbeccpcbpcaaGreatDoorZbh
import Derived.Test.YtjfpbeccpcbpcaaGreatDoorZbi
import Derived.Test.YtjfpbeccpcbpcaaGreatDoorZbj
import Derived.Deep.QuietTactic
import Derived.BigQuiet
import Derived.Deep.DeepCutAuto
import Derived.Deep.RegionHeld3
import Derived.Deep.RegionHeld
set_option linter.unusedVariables false
set_option linter.unusedSimpArgs false
namespace Go.Proofs.YtjfpbeccpcbpcaaGreatDoor
open Go.RowKit
theorem ten_at : ∀ u : Fin 10, ((([48, 49, 50, 51, 52, 53, 54, 55, 56, 57] : List UInt8).take (u.1 + 1)).drop u.1) = [UInt8.ofNat (48 + u.1)] := by decide
theorem ten_cut (u : Nat) (h : u < 10) (i j : Int) (hi : i = u) (hj : j = (u + 1 : Nat)) (w : World) :
  (Instr.slice 9 (.string ⟨([48, 49, 50, 51, 52, 53, 54, 55, 56, 57] : List UInt8).toArray⟩) (some (.int .u64 i)) (some (.int .u64 j)) none).run Tryz.prog w = .ok (.string ⟨[UInt8.ofNat (48 + u)].toArray⟩) w := by
 have h1 := str_cut (P := Tryz.prog) [48, 49, 50, 51, 52, 53, 54, 55, 56, 57] u (u + 1) i j .u64 .u64 hi hj (by omega) (by simp; omega) 9 Tryz.underlying9 w
 have h2 := ten_at ⟨u, h⟩
 simp only at h2
 rw [h2] at h1
 exact h1
def Digs (u : Nat) (w : World) (e : Ending) (w' : World) : Prop := e = .returned (.string ⟨(Lib.decDigits u).toArray⟩) ∧ ∃ n, w' = w.drewN n
theorem dec_len {u : Nat} (h : u < 18446744073709551616) : (Lib.decDigits u).length ≤ 20 := by
 have h1 := Lib.itoa_nonneg
 rw [Lib.decDigits_length]
 have key : ∀ (k u : Nat), u < 10 ^ (k + 1) → Lib.nDigits u ≤ k + 1 := by
  intro k
  induction k with
  | zero => intro u h; rw [Lib.nDigits_small (by simpa using h)]; exact Nat.le_refl _
  | succ k ih =>
   intro u h
   by_cases h10 : u < 10
   ·rw [Lib.nDigits_small h10]; omega
   ·rw [Lib.nDigits_big h10]
    have := ih (u / 10) (by rw [Nat.pow_succ] at h; omega)
    omega
 exact key 19 u (by have := (show (10 : Nat) ^ (19 + 1) = 100000000000000000000 by decide); omega)
set_option maxRecDepth 20000 in
set_option maxHeartbeats 800000 in
theorem refdigits_int (k : Nat) : ∀ (a : Int) (w : World), 0 ≤ a → a ≤ k → a ≤ 18446744073709551615 → Calls Tryz.prog 86 #[.int .u64 a] w (Digs a.toNat w) := by
 induction k with
 | zero =>
  intro a w h0 hk hu
  obtain rfl : a = 0 := by omega
  have hsl := ten_cut 0 (by decide) 0 1 rfl rfl
  have HE : Hid (Lib.decDigits (0 : Int).toNat = [UInt8.ofNat (48 + 0)]) := Bd.dec_small (by decide)
  generalize [UInt8.ofNat (48 + 0)] = t at hsl HE
  clear hu hk h0
  go_enter Tryz.func86, Tryz.ntmps86
  go_wp2_with fail
  go_ret
  exact ⟨by rw [HE.out]; rfl, 0, rfl⟩
 | succ k ih =>
  intro a w h0 hk hu
  by_cases h10 : a < 10
  ·have hsl := ten_cut a.toNat (by omega) a (a + 1) (by omega) (by omega)
   have HE : Hid (Lib.decDigits a.toNat = [UInt8.ofNat (48 + a.toNat)]) := Bd.dec_small (by omega)
   generalize [UInt8.ofNat (48 + a.toNat)] = t at hsl HE
   clear hu hk ih
   go_enter Tryz.func86, Tryz.ntmps86
   go_wp2_with fail
   go_ret
   exact ⟨by rw [HE.out]; rfl, 0, rfl⟩
  ·have hm10 : a.toNat % 10 < 10 := Nat.mod_lt _ (by decide)
   have hsl := ten_cut (a.toNat % 10) hm10 (a % 10) (a % 10 + 1) (by omega) (by omega)
   have HE : Hid (Lib.decDigits a.toNat = Lib.decDigits (a.toNat / 10) ++ [UInt8.ofNat (48 + a.toNat % 10)]) := Bd.dec_big (by omega)
   have HI : Hid (∀ w, Calls Tryz.prog 86 #[.int .u64 (a / 10)] w fun e w' => e = .returned (.string ⟨(Lib.decDigits (a.toNat / 10)).toArray⟩) ∧ ∃ n, w' = w.drewN n) := fun w => by
    have := ih (a / 10) w (by omega) (by omega) (by omega)
    rw [show (a / 10).toNat = a.toNat / 10 by omega] at this
    exact this
   have hl := dec_len (u := a.toNat / 10) (by omega)
   have hbig : (10 : Int) ≤ a := by omega
   have hg : ([UInt8.ofNat (48 + a.toNat % 10)] : List UInt8).length = 1 := rfl
   have hm0 : 0 ≤ a % 10 := by omega
   have hm1 : a % 10 ≤ 9 := by omega
   clear hk ih h10 hm10
   generalize [UInt8.ofNat (48 + a.toNat % 10)] = t2 at hsl HE hg
   generalize Lib.decDigits (a.toNat / 10) = t at HE hl HI
   go_enter Tryz.func86, Tryz.ntmps86
   go_wp2_with fail
   go_quiet ((go_at_call 86; exact Calls.quiet_of (HI.out _)))
   go_wp2_with fail
   go_ret
   exact ⟨by rw [HE.out]; rfl, nq, rfl⟩
theorem refdigits_any (a : Int) (h0 : 0 ≤ a) (h1 : a ≤ 18446744073709551615) (w : World) : Calls Tryz.prog 86 #[.int .u64 a] w fun e w' => e = .returned (.string ⟨(Lib.decDigits a.toNat).toArray⟩) ∧ ∃ n, w' = w.drewN n :=
 refdigits_int a.toNat a w h0 (by omega) h1
set_option maxRecDepth 20000 in
set_option maxHeartbeats 800000 in
theorem refInt_any (n : Int) (hn : Bd.inR n) (w : World) : Calls Tryz.prog 85 #[.int .i64 n] w fun e w' => e = .returned (.string ⟨(Bd.bInt n).toArray⟩) ∧ ∃ m, w' = w.drewN m := by
 obtain ⟨hn0, hn1⟩ := hn
 by_cases h0 : n < 0
 ·have HE : Hid (Bd.bInt n = [105, 45] ++ Lib.decDigits n.natAbs ++ [101]) := by simp [Hid, Bd.bInt, Lib.itoa, h0]
  have HI : Hid (∀ w, Calls Tryz.prog 86 #[.int .u64 (-(n + 1) + 1)] w fun e w' => e = .returned (.string ⟨(Lib.decDigits n.natAbs).toArray⟩) ∧ ∃ m, w' = w.drewN m) := fun w => by
   have := refdigits_any (-(n + 1) + 1) (by omega) (by omega) w
   rwa [show (-(n + 1) + 1).toNat = n.natAbs by omega] at this
  have hl := dec_len (u := n.natAbs) (by omega)
  generalize Lib.decDigits n.natAbs = t at HE hl HI
  go_enter Tryz.func85, Tryz.ntmps85
  go_wp2_with fail
  refine (HI.out _).mono ?_
  rintro e w1 ⟨rfl, m, rfl⟩
  go_wp2
  go_ret
  exact ⟨by rw [HE.out]; simp [bs_append], m, rfl⟩
 ·have HE : Hid (Bd.bInt n = [105] ++ Lib.decDigits n.toNat ++ [101]) := by simp [Hid, Bd.bInt, Lib.itoa, h0]
  have HI : Hid (∀ w, Calls Tryz.prog 86 #[.int .u64 n] w fun e w' => e = .returned (.string ⟨(Lib.decDigits n.toNat).toArray⟩) ∧ ∃ m, w' = w.drewN m) := fun w => refdigits_any n (by omega) (by omega) w
  have hl := dec_len (u := n.toNat) (by omega)
  have hge : 0 ≤ n := by omega
  generalize Lib.decDigits n.toNat = t at HE hl HI
  go_enter Tryz.func85, Tryz.ntmps85
  go_wp2_with fail
  refine (HI.out _).mono ?_
  rintro e w1 ⟨rfl, m, rfl⟩
  go_wp2
  go_ret
  exact ⟨by rw [HE.out]; simp [bs_append], m, rfl⟩
set_option maxRecDepth 20000 in
set_option maxHeartbeats 800000 in
theorem refText_any (s : List UInt8) (hs : s.length ≤ 140737488355328) (w : World) : Calls Tryz.prog 28 #[.string ⟨s.toArray⟩] w fun e w' => e = .returned (.string ⟨(Bd.bText s).toArray⟩) ∧ ∃ m, w' = w.drewN m := by
 have HE : Hid (Bd.bText s = Lib.decDigits s.length ++ [58] ++ s) := by simp [Hid, Bd.bText, Lib.itoa_nonneg]
 have HI : Hid (∀ w, Calls Tryz.prog 86 #[.int .u64 (s.length : Int)] w fun e w' => e = .returned (.string ⟨(Lib.decDigits s.length).toArray⟩) ∧ ∃ m, w' = w.drewN m) := fun w => by
  have := refdigits_any (s.length : Int) (by omega) (by omega) w
  rwa [Int.toNat_natCast] at this
 have hl := dec_len (u := s.length) (by omega)
 generalize Lib.decDigits s.length = t at HE hl HI
 go_enter Tryz.func28, Tryz.ntmps28
 go_wp2_with fail
 refine (HI.out _).mono ?_
 rintro e w1 ⟨rfl, m, rfl⟩
 go_wp2
 go_ret
 exact ⟨by rw [HE.out]; simp [bs_append], m, rfl⟩
end Go.Proofs.YtjfpbeccpcbpcaaGreatDoor
namespace Go.Proofs.YtjfpbeccpcbpcaaGreatDoor
open Go.RowKit
theorem encInts_take {l : List Int} {k : Nat} {x : Int} (h : l[k]? = some x) : Wi.encInts (l.take (k + 1)) = Wi.encInts (l.take k) ++ Bd.bInt x := by
 obtain ⟨hk, rfl⟩ := List.getElem?_eq_some_iff.1 h
 rw [Wi.encInts, Wi.encInts, List.take_succ_eq_append_getElem hk, List.map_append, List.flatten_append]
 simp
def Drw (w w' : World) : Prop := ∃ n, w' = w.drewN n
theorem Drw.refl (w : World) : Drw w w := ⟨0, rfl⟩
theorem Drw.more {w w' : World} (h : Drw w w') (n : Nat) : Drw w (w'.drewN n) := by
 obtain ⟨m, rfl⟩ := h
 exact ⟨m + n, World.drewN_drewN _ _ _⟩
theorem Drw.bel {w w' : World} (h : Drw w w') : Below w.heap.size w w' := by
 obtain ⟨m, rfl⟩ := h
 exact below_drewN (Below.refl _ _) m
def NumsOk (l : List Int) : Prop := l.length ≤ 20 ∧ ∀ x ∈ l, Bd.inR x ∧ (Bd.bInt x).length ≤ 16
theorem NumsOk.len {l : List Int} (h : NumsOk l) (k : Nat) : (Wi.encInts (l.take k)).length ≤ 320 := by
 have h1 := Wi.flat_le (e := Bd.bInt) (k := 16) (l.take k) (fun x hx => (h.2 x (List.mem_of_mem_take hx)).2)
 have h2 : (l.take k).length ≤ 20 := by rw [List.length_take]; have := h.1; omega
 unfold Wi.encInts
 omega
set_option maxRecDepth 20000 in
set_option maxHeartbeats 3200000 in
theorem refints14_any (l : List Int) (ho : NumsOk l) (lv : Value) (w : World) (h : Ints w lv l) :
  Calls Tryz.prog 24 #[lv] w fun e w' => e = .returned (.string ⟨(Wi.encInts l).toArray⟩) ∧ Drw w w' := by
 have H := Lib.hid h
 have HO := Lib.hid ho
 have HL := Lib.hid (fun k => ho.len k)
 have hl := ho.1
 obtain ⟨a, cap, rfl⟩ := h.form
 clear h ho
 go_enter Tryz.func24, Tryz.ntmps24
 go_wp2
 go_loopw [4, 3] (fun i s wr => ∃ (k : Nat) (t : List UInt8), i = .int .i64 k ∧ s = .string ⟨t.toArray⟩ ∧ k ≤ l.length ∧ t = Wi.encInts (l.take k) ∧ Drw w wr) (fun i _ _ => l.length - (intOf i).toNat)
 case atStart => exact ⟨0, [], rfl, rfl, by omega, rfl, Drw.refl w⟩
 case round =>
  obtain ⟨k, t, rfl, rfl, hk, ht, hwd⟩ := hrel
  have HD := Lib.hid hwd
  have BD := Lib.hid hwd.bel
  clear hwd
  have HT := Lib.hid ht
  have htl : t.length ≤ 320 := by rw [ht]; exact HL.out k
  clear ht
  by_cases hlt : k < l.length
  ·have hlti : (k : Int) < (l.length : Int) := by omega
   obtain ⟨x, hx⟩ : ∃ x, l[k]? = some x := ⟨l[k], by simp [hlt]⟩
   have HS := Lib.hid (encInts_take hx)
   have hxo := HO.out.2 x (List.mem_of_getElem? hx)
   obtain ⟨hx1, hx2⟩ := hxo
   obtain ⟨g, off, cap', he, hg, p0⟩ := H.out.get BD.out hx
   injection he with he1 he2 he3
   subst he1 he3
   have HN := Lib.hid (refInt_any x hx1 wr)
   clear he2 hx hx1
   generalize Bd.bInt x = b at HS HN hx2
   go_wp2_with fail
   refine HN.out.mono ?_
   rintro e w5 ⟨rfl, m, rfl⟩
   clear HN
   go_wp2
   go_roundw
   case rel => exact ⟨k + 1, t ++ b, by go_num, by first | rfl | simp [bs_append], by omega, by rw [HS.out, HT.out], HD.out.more m⟩
   case measure => simp [intOf]; omega
  ·obtain rfl : k = l.length := by omega
   have HF : Hid (t = Wi.encInts l) := by rw [Hid, HT.out, List.take_length]
   go_wp2
   go_ret
   exact ⟨by rw [← HF.out]; rfl, HD.out⟩
theorem encRecs_take {l : List Cr.Rec} {k : Nat} {x : Cr.Rec} (h : l[k]? = some x) : ((l.take (k + 1)).map Wi.encRec).flatten = ((l.take k).map Wi.encRec).flatten ++ Wi.encRec x := by
 obtain ⟨hk, rfl⟩ := List.getElem?_eq_some_iff.1 h
 rw [List.take_succ_eq_append_getElem hk, List.map_append, List.flatten_append]
 simp
def RecsGood (l : List Cr.Rec) : Prop := l.length ≤ 16 ∧ ∀ x ∈ l, Cr.isRec x = true ∧ (0 ≤ x.off ∧ x.off ≤ 1099511627776)
theorem RecsGood.len {l : List Cr.Rec} (h : RecsGood l) (k : Nat) : (((l.take k).map Wi.encRec).flatten).length ≤ 2080 := by
 have h1 := Wi.flat_le (e := Wi.encRec) (k := 130) (l.take k) (fun x hx => by
  obtain ⟨a, b, c⟩ := h.2 x (List.mem_of_mem_take hx)
  exact Wi.encRec_le a b c)
 have h2 : (l.take k).length ≤ 16 := by rw [List.length_take]; have := h.1; omega
 omega
set_option maxRecDepth 20000 in
set_option maxHeartbeats 6400000 in
theorem refrecs14_any (l : List Cr.Rec) (ho : RecsGood l) (lv : Value) (w : World) (h : Recs w lv l) :
  Calls Tryz.prog 26 #[lv] w fun e w' => e = .returned (.string ⟨(Wi.encRecs l).toArray⟩) ∧ Drw w w' := by
 have H := Lib.hid h
 have HO := Lib.hid ho
 have HL := Lib.hid (fun k => ho.len k)
 have hl := ho.1
 obtain ⟨a, cap, rfl⟩ := h.form
 clear h ho
 go_enter Tryz.func26, Tryz.ntmps26
 go_wp2
 go_loopw [4, 3] (fun i s wr => ∃ (k : Nat) (t : List UInt8), i = .int .i64 k ∧ s = .string ⟨t.toArray⟩ ∧ k ≤ l.length ∧ t = 108 :: ((l.take k).map Wi.encRec).flatten ∧ Drw w wr) (fun i _ _ => l.length - (intOf i).toNat)
 case atStart => exact ⟨0, [108], rfl, rfl, by omega, rfl, Drw.refl w⟩
 case round =>
  obtain ⟨k, t, rfl, rfl, hk, ht, hwd⟩ := hrel
  have HD := Lib.hid hwd
  have BD := Lib.hid hwd.bel
  clear hwd
  have HT := Lib.hid ht
  have htl : t.length ≤ 2081 := by rw [ht]; have := HL.out k; simp only [List.length_cons]; omega
  clear ht
  by_cases hlt : k < l.length
  ·have hlti : (k : Int) < (l.length : Int) := by omega
   obtain ⟨x, hx⟩ : ∃ x, l[k]? = some x := ⟨l[k], by simp [hlt]⟩
   have HS := Lib.hid (encRecs_take hx)
   have hxg := HO.out.2 x (List.mem_of_getElem? hx)
   have hxr := hxg.1
   simp only [Cr.isRec, Bool.and_eq_true, decide_eq_true_eq] at hxr
   have htl2 := Wi.encRec_le hxg.1 hxg.2.1 hxg.2.2
   have HEX : Hid (108 :: ((l.take (k + 1)).map Wi.encRec).flatten = t ++ Wi.encRec x) := by rw [Hid, HS.out, HT.out]; rfl
   obtain ⟨g, off, cap', he, hg, p0, p1, p2, p3⟩ := H.out.get BD.out hx
   injection he with he1 he2 he3
   subst he1 he3
   obtain ⟨x0, xk, xv, xg⟩ := x
   dsimp only at *
   obtain ⟨hk16, hv64, -⟩ := hxr
   have hxo : Bd.inR x0 := ⟨by omega, by omega⟩
   have I1 := Lib.hid (fun W => refInt_any x0 hxo W)
   have I2 := Lib.hid (fun W => refText_any xk (by omega) W)
   have I3 := Lib.hid (fun W => refText_any xv (by omega) W)
   unfold Wi.encRec at htl2 HEX
   dsimp only at htl2 HEX
   simp only [List.length_append] at htl2
   clear he2 hx hxg HS hxo
   cases xg with
   | true =>
    have I4 := Lib.hid (fun W => refInt_any 1 (Cr.inR_flag true) W)
    rw [show Cr.flag true = 1 from rfl] at htl2 HEX
    generalize Bd.bInt x0 = t1 at *
    generalize Bd.bText xk = t2 at *
    generalize Bd.bText xv = t3 at *
    generalize Bd.bInt 1 = t4 at *
    go_wp2
    refine wp_region_quiet_lit (by kernel_rfl) (by kernel_rfl) ?_
    repeat (go_big_quiet_step (fail))
    go_big_quiet_step ((exact Calls.quiet_of (I1.out _)))
    repeat (go_big_quiet_step (fail))
    go_big_quiet_step ((exact Calls.quiet_of (I2.out _)))
    repeat (go_big_quiet_step (fail))
    go_big_quiet_step ((exact Calls.quiet_of (I3.out _)))
    repeat (go_big_quiet_step (fail))
    go_big_quiet_step ((exact Calls.quiet_of (I4.out _)))
    repeat (go_big_quiet_step (fail))
    refine wpQuiet_nil ?_
    intro _ hw'
    obtain ⟨nq, rfl⟩ := hw'
    clear I1 I2 I3 I4
    go_wp2
    go_roundw
    case rel => exact ⟨k + 1, _, by go_num, rfl, by omega, HEX.out.symm, HD.out.more nq⟩
    case measure => simp [intOf]; omega
   | false =>
    have I4 := Lib.hid (fun W => refInt_any 0 (Cr.inR_flag false) W)
    rw [show Cr.flag false = 0 from rfl] at htl2 HEX
    generalize Bd.bInt x0 = t1 at *
    generalize Bd.bText xk = t2 at *
    generalize Bd.bText xv = t3 at *
    generalize Bd.bInt 0 = t4 at *
    go_wp2
    refine wp_region_quiet_lit (by kernel_rfl) (by kernel_rfl) ?_
    repeat (go_big_quiet_step (fail))
    go_big_quiet_step ((exact Calls.quiet_of (I1.out _)))
    repeat (go_big_quiet_step (fail))
    go_big_quiet_step ((exact Calls.quiet_of (I2.out _)))
    repeat (go_big_quiet_step (fail))
    go_big_quiet_step ((exact Calls.quiet_of (I3.out _)))
    repeat (go_big_quiet_step (fail))
    go_big_quiet_step ((exact Calls.quiet_of (I4.out _)))
    repeat (go_big_quiet_step (fail))
    refine wpQuiet_nil ?_
    intro _ hw'
    obtain ⟨nq, rfl⟩ := hw'
    clear I1 I2 I3 I4
    go_wp2
    go_roundw
    case rel => exact ⟨k + 1, _, by go_num, rfl, by omega, HEX.out.symm, HD.out.more nq⟩
    case measure => simp [intOf]; omega
  ·obtain rfl : k = l.length := by omega
   have HF : Hid (t ++ [101] = Wi.encRecs l) := by
    rw [Hid, HT.out, List.take_length, Wi.encRecs, Wi.listB]
    simp
   go_wp2
   go_ret
   exact ⟨by rw [← HF.out]; first | rfl | simp [bs_append], HD.out⟩
end Go.Proofs.YtjfpbeccpcbpcaaGreatDoor
namespace Go.Proofs.YtjfpbeccpcbpcaaGreatDoor
open Go.RowKit
def tabP (t : List Wi.Seen) (k : Nat) : List UInt8 := 108 :: ((t.take k).map Wi.encSeen).flatten
def rowP (s : List UInt8) (p : Int) (l : List Wi.Slot) (k : Nat) : List UInt8 := s ++ (108 :: (Bd.bInt p ++ ((l.take k).map Wi.encSlot).flatten))
theorem take_flat {α : Type} (f : α → List UInt8) {l : List α} {k : Nat} {x : α} (h : l[k]? = some x) : ((l.take (k + 1)).map f).flatten = ((l.take k).map f).flatten ++ f x := by
 obtain ⟨hk, rfl⟩ := List.getElem?_eq_some_iff.1 h
 rw [List.take_succ_eq_append_getElem hk, List.map_append, List.flatten_append]
 simp
theorem take_le {α : Type} (f : α → List UInt8) (l : List α) (k : Nat) : (((l.take k).map f).flatten).length ≤ ((l.map f).flatten).length := by
 conv => rhs; rw [← List.take_append_drop k l, List.map_append, List.flatten_append, List.length_append]
 omega
theorem tabP_len {t : List Wi.Seen} (h : Wi.tableB t = true) (k : Nat) : (tabP t k).length ≤ 16200 := by
 have h1 := Wi.encTable_le h
 have h2 := take_le Wi.encSeen t k
 unfold Wi.encTable at h1
 rw [Wi.listB_len] at h1
 simp only [tabP, List.length_cons]
 omega
theorem rowP_len {s : List UInt8} {x : Wi.Seen} (hs : s.length ≤ 16200) (h : (0 ≤ x.1 ∧ x.1 ≤ 1099511627776) ∧ x.2.length ≤ 5 ∧ ∀ y ∈ x.2, (0 ≤ y.1 ∧ y.1 ≤ 1099511627776) ∧ (0 ≤ y.2.1 ∧ y.2.1 ≤ 1099511627776) ∧ (0 ≤ y.2.2 ∧ y.2.2 ≤ 1099511627776)) (k : Nat) : (rowP s x.1 x.2 k).length ≤ 16700 := by
 have h1 := Wi.flat_le (e := Wi.encSlot) (k := 47) (x.2.take k) (fun y hy => by
  obtain ⟨a, b, c⟩ := h.2.2 y (List.mem_of_mem_take hy)
  exact Wi.encSlot_le a b c)
 have h2 : (x.2.take k).length ≤ 5 := by rw [List.length_take]; have := h.2.1; omega
 have h3 := Wi.bInt_le (n := x.1) (by omega) (by omega)
 simp only [rowP, List.length_append, List.length_cons]
 omega
set_option maxRecDepth 20000 in
set_option maxHeartbeats 12800000 in
theorem reflenc_yes (t : List Wi.Seen) (ok : TabOk t) (v : Value) (w : World) (h : Tbl w v t) (hg : Wi.tableB t = true) :
  Calls Tryz.prog 29 #[v] w fun e w' => e = .returned (.tuple #[.string ⟨(Wi.encTable t).toArray⟩, .int .i64 0]) ∧ Below w.heap.size w w' := by
 have HG := Lib.hid (refgood6_any t ok.1 (fun x hx => (ok.2 x hx).2.1) v w h)
 rw [hg] at HG
 have HTA := Lib.hid (Wi.tableB_all hg).2
 have htl := (Wi.tableB_all hg).1
 have HPL := Lib.hid (tabP_len hg)
 have HZ := Lib.hid h
 obtain ⟨ra, rc, hrv⟩ := h.form
 subst hrv
 clear hg h ok
 go_enter Tryz.func29, Tryz.ntmps29
 go_wp2_with fail
 refine HG.out.mono ?_
 rintro e w1 ⟨rfl, hb⟩
 have B1 := Lib.hid hb
 clear hb HG
 go_wp2
 go_loopw [5, 4] (fun i s wr => ∃ (k : Nat) (l : List UInt8), i = .int .i64 k ∧ s = .string ⟨l.toArray⟩ ∧ k ≤ t.length ∧ l = tabP t k ∧ Below w.heap.size w wr) (fun i _ _ => t.length - (intOf i).toNat)
 case atStart => exact ⟨0, [108], rfl, rfl, by omega, rfl, B1.out⟩
 case round =>
  obtain ⟨k, s, rfl, rfl, hk, hs, hb⟩ := hrel
  generalize wr = wo at *
  have HS := Lib.hid hs
  have BR := Lib.hid hb
  have hsl : s.length ≤ 16200 := by rw [hs]; exact HPL.out k
  clear hs hb
  by_cases hlt : k < t.length
  ·have hlti : (k : Int) < (t.length : Int) := by omega
   obtain ⟨x, hx⟩ : ∃ x, t[k]? = some x := ⟨t[k], by simp [hlt]⟩
   have HX := Lib.hid (show tabP t (k + 1) = tabP t k ++ Wi.encSeen x by rw [tabP, tabP, take_flat _ hx]; rfl)
   have HXA := Lib.hid (HTA.out x (List.mem_of_getElem? hx))
   have HRL := Lib.hid (rowP_len hsl HXA.out)
   obtain ⟨g, off, cap', sv, he, hg, p0, p1, hsv⟩ := HZ.out.getT BR.out hx
   injection he with he1 he2 he3
   subst he1 he3
   have hgr : g < wo.heap.size := Nat.lt_of_lt_of_le hg BR.out.size
   have F1 : Hid (∀ W, Below wo.heap.size wo W → W.cell? ⟨g, off + k * 2 + 1, none⟩ = some sv) := fun W hW => (hW.cell (p := ⟨g, off + k * 2 + 1, none⟩) hgr).trans p1
   obtain ⟨x0, xs⟩ := x
   dsimp only at *
   have HV := Lib.hid hsv
   obtain ⟨sa, sc, hsf⟩ := hsv.form
   subst hsf
   have hx5 := HXA.out.2.1
   have HI := Lib.hid (refInt_any x0 (Wi.inR_num HXA.out.1) wo)
   have hi16 := Wi.bInt_le (n := x0) (by have := HXA.out.1; omega) (by have := HXA.out.1; omega)
   have HRP : Hid (∀ j, rowP s x0 xs j = s ++ (108 :: (Bd.bInt x0 ++ ((xs.take j).map Wi.encSlot).flatten))) := fun j => rfl
   have HSE : Hid (Wi.encSeen (x0, xs) = 108 :: (Bd.bInt x0 ++ ((xs.map Wi.encSlot).flatten ++ [101]))) := by rw [Hid, Wi.encSeen, Wi.listB, List.append_assoc]
   clear he2 hsv hx p1
   generalize Bd.bInt x0 = b0 at *
   go_wp2_with fail
   refine HI.out.mono ?_
   rintro e w2 ⟨rfl, m, rfl⟩
   have BR2 := Lib.hid (below_drewN (Below.refl wo.heap.size wo) m)
   clear HI p0
   have p1 := F1.out _ BR2.out
   generalize wo.drewN m = w2 at *
   go_wp2
   go_loopw [6, 4] (fun i u wr => ∃ (j : Nat) (l : List UInt8), i = .int .i64 j ∧ u = .string ⟨l.toArray⟩ ∧ j ≤ xs.length ∧ l = rowP s x0 xs j ∧ Below wo.heap.size wo wr) (fun i _ _ => xs.length - (intOf i).toNat)
   case atStart => exact ⟨0, _, rfl, rfl, by omega, by rw [HRP.out]; simp, BR2.out⟩
   case round =>
    obtain ⟨j, u, rfl, rfl, hj, hu, hbq⟩ := hrel
    have HU := Lib.hid hu
    have BQ := Lib.hid hbq
    have hul : u.length ≤ 16700 := by rw [hu]; exact HRL.out j
    clear hu hbq p1
    have p1 := F1.out _ BQ.out
    by_cases hlt2 : j < xs.length
    ·have hlt2i : (j : Int) < (xs.length : Int) := by omega
     obtain ⟨y, hy⟩ : ∃ y, xs[j]? = some y := ⟨xs[j], by simp [hlt2]⟩
     have HY := Lib.hid (take_flat Wi.encSlot hy)
     have hyr := HXA.out.2.2 y (List.mem_of_getElem? hy)
     have hyl := Wi.encSlot_le hyr.1 hyr.2.1 hyr.2.2
     have HEX : Hid (rowP s x0 xs (j + 1) = u ++ Wi.encSlot y) := by
      rw [Hid, HRP.out, HY.out, HU.out, HRP.out]
      simp
     obtain ⟨g2, off2, cap2, he, hg2, q0, q1, q2⟩ := HV.out.getS BQ.out hy
     injection he with he1 he2 he3
     subst he1 he3
     obtain ⟨y0, y1, y2⟩ := y
     dsimp only at *
     have I1 := Lib.hid (fun W => refInt_any y0 (Wi.inR_num hyr.1) W)
     have I2 := Lib.hid (fun W => refInt_any y1 (Wi.inR_num hyr.2.1) W)
     have I3 := Lib.hid (fun W => refInt_any y2 (Wi.inR_num hyr.2.2) W)
     unfold Wi.encSlot Wi.listB at hyl HEX
     dsimp only at hyl HEX
     simp only [List.length_append, List.length_cons, List.length_nil] at hyl
     rw [List.append_assoc, List.append_assoc] at HEX
     have BA : Hid (Below wo.heap.size wo (wr.alloc (.cells #[.int .i64 y0, .int .i64 y1, .int .i64 y2] 113))) := BQ.out.alloc BQ.out.size _
     clear he2 hy hyr HY HU
     generalize Bd.bInt y0 = t1 at *
     generalize Bd.bInt y1 = t2 at *
     generalize Bd.bInt y2 = t3 at *
     go_wp2
     refine wp_region_quiet_lit (by kernel_rfl) (by kernel_rfl) ?_
     repeat (go_big_quiet_step (fail))
     go_big_quiet_step ((exact Calls.quiet_of (I1.out _)))
     repeat (go_big_quiet_step (fail))
     go_big_quiet_step ((exact Calls.quiet_of (I2.out _)))
     repeat (go_big_quiet_step (fail))
     go_big_quiet_step ((exact Calls.quiet_of (I3.out _)))
     repeat (go_big_quiet_step (fail))
     refine wpQuiet_nil ?_
     intro _ hw'
     obtain ⟨nq, rfl⟩ := hw'
     have BZ := Lib.hid (below_drewN BA.out nq)
     clear I1 I2 I3 BA
     go_wp2
     go_roundw
     case rel => exact ⟨j + 1, _, by go_num, rfl, by omega, HEX.out.symm, BZ.out⟩
     case measure => simp [intOf]; omega
    ·obtain rfl : j = xs.length := by omega
     have HF : Hid (u ++ [101] = tabP t (k + 1)) := by
      rw [Hid, HX.out, HU.out, HRP.out, List.take_length, HSE.out, ← HS.out]
      simp
     have BF := Lib.hid (bt BR.out BQ.out)
     clear HU HX HRP HSE
     go_wp2
     go_roundw
     case rel => exact ⟨k + 1, u ++ [101], by go_num, by first | rfl | simp [bs_append], by omega, HF.out, BF.out⟩
     case measure => simp [intOf]; omega
  ·obtain rfl : k = t.length := by omega
   have HF : Hid (s ++ [101] = Wi.encTable t) := by
    rw [Hid, HS.out, tabP, List.take_length, Wi.encTable, Wi.listB]
    rfl
   go_wp2
   go_ret2
   exact ⟨by rw [← HF.out]; first | rfl | simp [bs_append], BR.out⟩
end Go.Proofs.YtjfpbeccpcbpcaaGreatDoor
namespace Go.Proofs.YtjfpbeccpcbpcaaGreatDoor
open Go.RowKit
theorem numOk {n : Int} (h0 : -1099511627776 ≤ n) (h1 : n ≤ 1099511627776) : Bd.inR n ∧ (Bd.bInt n).length ≤ 16 := ⟨⟨by omega, by omega⟩, Wi.bInt_le (by omega) (by omega)⟩
theorem req_nums {q : Wi.Req} (h : Wi.reqB q = true) : NumsOk (Wi.reqNumsL q) ∧ q.group.length ≤ 8 ∧ q.member.length ≤ 8 ∧ RecsGood q.recs := by
 obtain ⟨h1, h2, h3, h4, h5, h6, h7, h8, h9, h10, h11, h12⟩ := Wi.reqB_parts h
 refine ⟨⟨by simp [Wi.reqNumsL], ?_⟩, h9, h10, by omega, fun x hx => ⟨(h12 x hx).2, by rw [(h12 x hx).1]; omega⟩⟩
 intro x hx
 simp only [Wi.reqNumsL, List.mem_cons, List.not_mem_nil, or_false] at hx
 rcases hx with rfl | rfl | rfl | rfl | rfl | rfl | rfl | rfl <;> exact numOk (by omega) (by omega)
theorem encInts_all {l : List Int} (h : NumsOk l) : (Wi.encInts l).length ≤ 320 := by
 have := h.len l.length
 rwa [List.take_length] at this
theorem encRecs_all {l : List Cr.Rec} (h : RecsGood l) : (Wi.encRecs l).length ≤ 2082 := by
 have := h.len l.length
 rw [List.take_length] at this
 rw [Wi.encRecs, Wi.listB_len]
 omega
theorem asked_flat (q : Wi.Req) : ((Wi.reqNumsL q).map Bd.bInt ++ [Bd.bText q.group, Bd.bText q.member, Wi.encRecs q.recs]).flatten = Wi.encInts (Wi.reqNumsL q) ++ (Bd.bText q.group ++ (Bd.bText q.member ++ Wi.encRecs q.recs)) := by
 simp [Wi.encInts]
set_option maxRecDepth 20000 in
set_option maxHeartbeats 12800000 in
theorem refasked_any (q : Wi.Req) (hq : Wi.reqB q = true) (rv : Value) (w : World) (h : Recs w rv q.recs) :
  Calls Tryz.prog 25 #[.agg (wreqC q rv).toArray] w fun e w' => e = .returned (.string ⟨(((Wi.reqNumsL q).map Bd.bInt ++ [Bd.bText q.group, Bd.bText q.member, Wi.encRecs q.recs]).flatten).toArray⟩) ∧ Below w.heap.size w w' := by
 obtain ⟨hn, hg8, hm8, hr⟩ := req_nums hq
 have HZ := Lib.hid h
 have HFL := Lib.hid (asked_flat q)
 rw [HFL.out]
 have J1 := Lib.hid (fun W v (hv : Ints W v (Wi.reqNumsL q)) => refints14_any (Wi.reqNumsL q) hn v W hv)
 have J2 := Lib.hid (fun W => refText_any q.group (by omega) W)
 have J3 := Lib.hid (fun W => refText_any q.member (by omega) W)
 have J4 := Lib.hid (fun W (hW : Below w.heap.size w W) => refrecs14_any q.recs hr rv W (HZ.out.kept hW))
 have l1 := encInts_all hn
 have l2 := Wi.bText_8 (t := q.group) (by omega)
 have l3 := Wi.bText_8 (t := q.member) (by omega)
 have l4 := encRecs_all hr
 have HQN : Hid (Wi.reqNumsL q = [q.client, q.n, q.kind, q.part, q.seq, q.off, q.max, q.gen]) := rfl
 unfold wreqC
 generalize Wi.encInts (Wi.reqNumsL q) = t1 at *
 rw [HQN.out] at J1
 generalize Bd.bText q.group = t2 at *
 generalize Bd.bText q.member = t3 at *
 generalize Wi.encRecs q.recs = t4 at *
 have f1 : ¬ 9223372036854775807 < t1.length + t2.length := by omega
 have f2 : ¬ 9223372036854775807 < t1.length + t2.length + t3.length := by omega
 have f3 : ¬ 9223372036854775807 < t1.length + t2.length + t3.length + t4.length := by omega
 have g1 : t1.length + t2.length ≤ 9223372036854775807 := by omega
 have g2 : t1.length + t2.length + t3.length ≤ 9223372036854775807 := by omega
 have f4 : ¬ 9223372036854775807 < t1.length + (t2.length + t3.length) + t4.length := by omega
 have g4 : t1.length + (t2.length + t3.length) + t4.length ≤ 9223372036854775807 := by omega
 have g3 : t1.length + t2.length + t3.length + t4.length ≤ 9223372036854775807 := by omega
 clear HQN HFL hq hn h hg8 hm8 hr HZ
 generalize q.client = x0 at *
 generalize q.n = x1 at *
 generalize q.kind = x2 at *
 generalize q.part = x3 at *
 generalize q.seq = x4 at *
 generalize q.off = x5 at *
 generalize q.max = x6 at *
 generalize q.gen = x7 at *
 generalize q.group = xg at *
 generalize q.member = xm at *
 go_enter Tryz.func25, Tryz.ntmps25
 obtain ⟨w1, hw1, CA, B1⟩ := oneBox (w := w) [.int .i64 x0, .int .i64 x1, .int .i64 x2, .int .i64 x3, .int .i64 x4, .int .i64 x5, .int .i64 x6, .int .i64 x7, .string ⟨xg.toArray⟩, .string ⟨xm.toArray⟩, rv] 31
 have HW1 := Lib.hid hw1
 clear hw1
 go_upto_region 1 with (fail)
 first | rw [HW1.out] | skip
 clear HW1
 generalize w.heap.size = pa at CA ⊢
 have hm0 : Hid (∀ W, Below w1.heap.size w1 W → W.cell? ⟨pa, 0, none⟩ = some (.int .i64 x0) ∧ W.cell? ⟨pa, 1, none⟩ = some (.int .i64 x1) ∧ W.cell? ⟨pa, 2, none⟩ = some (.int .i64 x2) ∧ W.cell? ⟨pa, 3, none⟩ = some (.int .i64 x3) ∧ W.cell? ⟨pa, 4, none⟩ = some (.int .i64 x4) ∧ W.cell? ⟨pa, 5, none⟩ = some (.int .i64 x5) ∧ W.cell? ⟨pa, 6, none⟩ = some (.int .i64 x6) ∧ W.cell? ⟨pa, 7, none⟩ = some (.int .i64 x7) ∧ W.cell? ⟨pa, 8, none⟩ = some (.string ⟨xg.toArray⟩) ∧ W.cell? ⟨pa, 9, none⟩ = some (.string ⟨xm.toArray⟩) ∧ W.cell? ⟨pa, 10, none⟩ = some (rv)) := fun W hW => ⟨(CA.out.below hW).cell 0, (CA.out.below hW).cell 1, (CA.out.below hW).cell 2, (CA.out.below hW).cell 3, (CA.out.below hW).cell 4, (CA.out.below hW).cell 5, (CA.out.below hW).cell 6, (CA.out.below hW).cell 7, (CA.out.below hW).cell 8, (CA.out.below hW).cell 9, (CA.out.below hW).cell 10⟩
 have T0 : Hid (Below w1.heap.size w1 w1.drew) := (Below.refl _ _).drew
 have HB : Hid (∀ W : World, W.heap.size = w1.heap.size → Ints (W.alloc (.cells #[.int .i64 x0, .int .i64 x1, .int .i64 x2, .int .i64 x3, .int .i64 x4, .int .i64 x5, .int .i64 x6, .int .i64 x7] 3)) (.slice (some ⟨w1.heap.size, 0, none⟩) 8 8) [x0, x1, x2, x3, x4, x5, x6, x7]) := fun W hW => by
  have := intsN_cl (l := [x0, x1, x2, x3, x4, x5, x6, x7]) (Cl.new W [.int .i64 x0, .int .i64 x1, .int .i64 x2, .int .i64 x3, .int .i64 x4, .int .i64 x5, .int .i64 x6, .int .i64 x7] 3)
  rwa [hW] at this
 have q0 := hm0.out _ (Below.refl _ _)
 have U1 : Hid (Below w1.heap.size w1 (w1.drew.alloc (.cells #[.int .i64 x0, .int .i64 x1, .int .i64 x2, .int .i64 x3, .int .i64 x4, .int .i64 x5, .int .i64 x6, .int .i64 x7] 3))) := T0.out.alloc T0.out.size _
 have I1 := Lib.hid (HB.out w1.drew rfl)
 go_region_held3 (fun W => W.cell? ⟨pa, 0, none⟩ = some (.int .i64 x0) ∧ W.cell? ⟨pa, 1, none⟩ = some (.int .i64 x1) ∧ W.cell? ⟨pa, 2, none⟩ = some (.int .i64 x2) ∧ W.cell? ⟨pa, 3, none⟩ = some (.int .i64 x3) ∧ W.cell? ⟨pa, 4, none⟩ = some (.int .i64 x4) ∧ W.cell? ⟨pa, 5, none⟩ = some (.int .i64 x5) ∧ W.cell? ⟨pa, 6, none⟩ = some (.int .i64 x6) ∧ W.cell? ⟨pa, 7, none⟩ = some (.int .i64 x7) ∧ W.cell? ⟨pa, 8, none⟩ = some (.string ⟨xg.toArray⟩) ∧ W.cell? ⟨pa, 9, none⟩ = some (.string ⟨xm.toArray⟩) ∧ W.cell? ⟨pa, 10, none⟩ = some (rv)) (first | assumption | exact hm0.out _ T0.out | exact hm0.out _ U1.out | exact S1.out | exact S2.out | exact S3.out | exact S4.out) (first
  | (go_at_call 26; refine (J4.out _ (bt B1.out T3.out)).mono ?_; rintro e w94 ⟨rfl, hb94⟩; have T4 := Lib.hid (bt T3.out hb94.bel); have S4 := Lib.hid (hm0.out _ T4.out); clear hb94)
  | (go_at_call 28; refine (J3.out w92).mono ?_; rintro e w93 ⟨rfl, hb93⟩; have T3 := Lib.hid (bt T2.out (Drw.bel hb93)); have S3 := Lib.hid (hm0.out _ T3.out); clear hb93)
  | (go_at_call 28; refine (J2.out w91).mono ?_; rintro e w92 ⟨rfl, hb92⟩; have T2 := Lib.hid (bt T1.out (Drw.bel hb92)); have S2 := Lib.hid (hm0.out _ T2.out); clear hb92)
  | (go_at_call 24; refine (J1.out _ _ I1.out).mono ?_; rintro e w91 ⟨rfl, hb91⟩; have T1 := Lib.hid (bt U1.out hb91.bel); have S1 := Lib.hid (hm0.out _ T1.out); clear hb91))
 all_goals
  have BF := Lib.hid (bt B1.out T4.out)
  first | (go_wp2; go_ret) | go_ret
  exact ⟨by first | rfl | simp [bs_append], BF.out⟩
end Go.Proofs.YtjfpbeccpcbpcaaGreatDoor
namespace Go.Proofs.YtjfpbeccpcbpcaaGreatDoor
open Go Go.RowKit
section
variable {P : Program} {ops : Array Oper} {md : Region.Mode} {S : World → Prop} {Q : Exit → Act → World → Prop}
theorem no_skip_v (s : Sem Value) (w w' : World) : (do pure (Next.value (← s)) : Sem Next).run P w ≠ .ok .skip w' := by
 simp only [Sem.run_bind, Sem.run_pure]
 cases s.run P w <;> simp [Result.andThen]
theorem v_ns {o : Oper} (h : vB o = true) (w w' : World) (a : Act) : (execOp a.eval o).run P w ≠ .ok .skip w' := by
 unfold vB at h
 unfold execOp
 cases ho : o.op <;> rw [ho] at h <;> try (cases h; done)
 case move x => simp [Sem.run_pure]
 case assign x => simp [Sem.run_pure]
 case load t x => exact no_skip_v _ _ _
 case fieldAddr t x k => exact no_skip_v _ _ _
 case indexAddr t x k => exact no_skip_v _ _ _
 case unOp u t x => exact no_skip_v _ _ _
 case binOp u t x y s => exact no_skip_v _ _ _
 case extract t i => exact no_skip_v _ _ _
 case pick c x y =>
  simp only [Sem.run_bind, Sem.run_pure]
  cases (asBool (a.eval c)).run P w <;> simp [Result.andThen]
theorem take_quiet {i : Nat} {oi : Oper} {r : List Oper} {fuel : Nat} {listed : Array Bool} {a : Act} {w : World} (hd : ops.toList.drop i = oi :: r) (hv : vB oi = true) (hw : Region.wanted oi (yielded ops a.tmps) = true)
  (hs : Region.noSelect ops = true) (hf : Region.free md ops listed i = true) (hr : (Region.ready md ops listed).contains i = true)
  (hQ : ∀ v c a w, Q (.panic c) (a.put oi.dst v) w → Q (.panic c) a w) (hS : S w)
  (h : oi.quiet P a S (fun a' => wpAnyH P md ops Q S fuel (listed.setIfInBounds i true) a' w)) : wpAnyH P md ops Q S (fuel + 1) listed a w := by
 have hi : ops[i]? = some oi := by
  have := congrArg (fun l : List Oper => l[0]?) hd
  simpa using this
 obtain ⟨v, h1, h2⟩ := h
 refine wpAnyH_take hi hs hf hr (hQ v) (.inl ⟨hw, fun W hW => ?_⟩) hS h2
 have h3 := h1 W hW
 unfold Oper.quietAt at h3
 have h4 := v_ne (P := P) hv
 have h5 := v_ns (P := P) hv
 generalize hx : (execOp a.eval oi).run P W = r at h3
 cases r with
 | ok n w' =>
  cases n <;> simp only [Oper.quietUpon] at h3
  case value u => obtain ⟨rfl, rfl⟩ := h3; rfl
  case skip => exact absurd hx (h5 W w' a)
  case enter f args => exact absurd hx (h4 f args W w' a)
 | halt x w' => simp only [Oper.quietUpon] at h3
theorem ready_cons {fuel : Nat} {listed : Array Bool} {a : Act} {w : World} {i : Nat} {o : Oper} {r : List Oper} {rs : List Nat} (hd : ops.toList.drop i = o :: r)
  (h : ∀ K' : Act → World → Prop, Shut (∀ a w, S w → (S w → wpAnyH P md ops Q S fuel (listed.setIfInBounds i true) a w) → K' a w) → if Region.wanted o (yielded ops a.tmps) = true then Oper.wp P o a w K' Q else K' (a.put o.dst undef) w)
  (hs : AllReadyH P md ops Q S fuel listed a w rs) : AllReadyH P md ops Q S fuel listed a w (i :: rs) :=
 AllReadyH.cons (by
  have := congrArg (fun l : List Oper => l[0]?) hd
  simpa using this) h hs
theorem branch_value {o : Oper} {a : Act} {w w' : World} {v : Value} {K : Act → World → Prop} (hw : Region.wanted o (yielded ops a.tmps) = true) (he : (execOp a.eval o).run P w = .ok (.value v) w') (hk : K (a.put o.dst v) w') :
  if Region.wanted o (yielded ops a.tmps) = true then Oper.wp P o a w K Q else K (a.put o.dst undef) w := by
 rw [if_pos hw]
 unfold Oper.wp
 rw [he]
 exact hk
theorem branch_call {o : Oper} {a : Act} {w : World} {f : FuncId} {args : Array Value} {K : Act → World → Prop} (hw : Region.wanted o (yielded ops a.tmps) = true) (he : (execOp a.eval o).run P w = .ok (.enter f args) w)
  (hc : Calls P f args w fun e w' => ∃ v, e = .returned v ∧ K (a.put o.dst v) w') :
  if Region.wanted o (yielded ops a.tmps) = true then Oper.wp P o a w K Q else K (a.put o.dst undef) w := by
 rw [if_pos hw]
 unfold Oper.wp
 rw [he]
 simp only [Oper.upon]
 exact hc.mono fun e w' ⟨v, he, hk⟩ => by subst he; exact hk
end
end Go.Proofs.YtjfpbeccpcbpcaaGreatDoor
