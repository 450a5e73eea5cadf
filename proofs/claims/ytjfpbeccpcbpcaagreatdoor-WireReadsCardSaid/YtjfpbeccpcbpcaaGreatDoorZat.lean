/-
  Walka / Frm / Walkb / Wf3 / Wl / Wf / Wf10 / Wf20 / Wf30 / Wf40 / Wf5 / Wf6 / Wf70 / Wf8 / Wf9 / Wfa: texts of one proof, one behind the other.
  Conditions: none of its own.
-/
import Derived.Test.YtjfpbeccpcbpcaaGreatDoorZas
import Derived.Deep.QuietTactic
import Derived.Deep.RegionWith
set_option linter.unusedVariables false
set_option linter.unusedSimpArgs false
set_option maxHeartbeats 6400000
set_option maxRecDepth 20000
namespace Go.Proofs.YtjfpbeccpcbpcaaGreatDoor
open Go.RowKit
theorem fold_take (r : BitVec 32) (l : List UInt8) (k : Nat) (h : k < l.length) : Crc.fold r (l.take (k + 1)) = Crc.upd (Crc.fold r (l.take k)) (l.getD k 0) := by
 rw [List.take_succ_eq_append_getElem h, Crc.fold_append]
 simp [Crc.fold, List.getD, h]
theorem sum_any (l : List UInt8) (w : World) (hs : l.length ≤ maxLen) :
  Calls Tryz.prog 78 #[.string ⟨l.toArray⟩] w fun e w' => e = .returned (.int .u32 (Crc.sum l).toNat) ∧ Below w.heap.size w w' := by
 unfold maxLen at hs
 have hconv := Lib.run_convert_string_bytes (P := Tryz.prog) w 9 49 5 ⟨l.toArray⟩ Tryz.underlying9 Tryz.underlying49 Tryz.underlying5
 have hcell := Lib.bytesWorld_cell w 5 ⟨l.toArray⟩
 have hb := hq' (below_bytesWorld w 5 ⟨l.toArray⟩)
 generalize hW1 : Lib.bytesWorld w 5 ⟨l.toArray⟩ = W1 at hconv hcell hb
 clear hW1
 have HC : ∀ k, k < l.length → W1.cell? ⟨w.heap.size, k, none⟩ = some (.int .u8 (l.getD k 0).toNat) := fun k hk => hcell k hk
 have HD := hq' HC
 clear hcell HC
 go_enter Tryz.func78, Tryz.ntmps78
 go_wp2
 clear hconv
 go_loop [3, 9] (fun r i => ∃ k : Nat, k ≤ l.length ∧ i = .int .i64 k ∧ r = .int .u32 (Crc.fold Crc.ones (l.take k)).toNat) (fun _ i => l.length - (intOf i).toNat)
 case atStart => exact ⟨0, by omega, rfl, rfl⟩
 case round =>
  obtain ⟨k, hk, rfl, rfl⟩ := hrel
  by_cases hlt : k < l.length
  ·have hck := HD.out k hlt
   have HF := hq' (fold_take Crc.ones l k hlt)
   generalize l.getD k 0 = b at hck HF
   generalize Crc.fold Crc.ones (l.take k) = r0 at HF
   go_wp2
   go_loop [3, 17] (fun r i => ∃ j : Nat, j ≤ 8 ∧ i = .int .i64 j ∧ r = .int .u32 (Crc.stps j (r0 ^^^ Crc.z b)).toNat) (fun _ i => 8 - (intOf i).toNat)
   case atStart => exact ⟨0, by omega, rfl, by rw [enter_num]; rfl⟩
   case round =>
    obtain ⟨j, hj, rfl, rfl⟩ := hrel
    by_cases hj8 : j < 8
    ·go_wp2
     go_round
     case rel => exact ⟨j + 1, by omega, by go_num, by rw [step_num]; rfl⟩
     case measure => simp [intOf]; omega
    ·obtain rfl : j = 8 := by omega
     go_wp2
     go_round
     case rel => exact ⟨k + 1, by omega, by go_num, by rw [HF.out]; rfl⟩
     case measure => simp [intOf]; omega
  ·obtain rfl : k = l.length := by omega
   go_wp2
   go_ret
   exact ⟨ret_int (by rw [not_num]; rfl), hb.out⟩
theorem refsum_any (l : List UInt8) (w : World) (hs : l.length ≤ maxLen) :
  Calls Tryz.prog 88 #[.string ⟨l.toArray⟩] w fun e w' => e = .returned (.int .u32 (Crc.sum l).toNat) ∧ w = w' := by
 unfold maxLen at hs
 go_enter Tryz.func88, Tryz.ntmps88
 go_wp2
 go_loop [3, 4] (fun r i => ∃ k : Nat, k ≤ l.length ∧ i = .int .i64 k ∧ r = .int .u32 (Crc.fold Crc.ones (l.take k)).toNat) (fun _ i => l.length - (intOf i).toNat)
 case atStart => exact ⟨0, by omega, rfl, rfl⟩
 case round =>
  obtain ⟨k, hk, rfl, rfl⟩ := hrel
  by_cases hlt : k < l.length
  ·have HF := hq' (fold_take Crc.ones l k hlt)
   have hix := str_at (P := Tryz.prog) l k k rfl hlt 9 Tryz.underlying9
   generalize Crc.fold Crc.ones (l.take k) = r0 at HF
   generalize l.getD k 0 = b at HF hix
   go_wp2
   go_loop [3, 5] (fun r i => ∃ j : Nat, j ≤ 8 ∧ i = .int .i64 j ∧ r = .int .u32 (part r0 b j).toNat) (fun _ i => 8 - (intOf i).toNat)
   case atStart => exact ⟨0, by omega, rfl, by rw [part_zero]⟩
   case round =>
    obtain ⟨j, hj, rfl, rfl⟩ := hrel
    by_cases hj8 : j < 8
    ·go_wp2
     ·have ht : (bits .and .u32 ((b.toNat : Int) / 2 ^ j % 4294967296) 1 != bits .and .u32 ((part r0 b j).toNat : Int) 1) = true := by assumption
      go_round
      case rel => exact ⟨j + 1, by omega, by go_num, by rw [part_yes _ _ _ ht]⟩
      case measure => simp [intOf]; omega
     ·have ht : (bits .and .u32 ((b.toNat : Int) / 2 ^ j % 4294967296) 1 != bits .and .u32 ((part r0 b j).toNat : Int) 1) = false := by assumption
      go_round
      case rel => exact ⟨j + 1, by omega, by go_num, by rw [part_no _ _ _ ht]⟩
      case measure => simp [intOf]; omega
    ·obtain rfl : j = 8 := by omega
     go_wp2
     go_round
     case rel => exact ⟨k + 1, by omega, by go_num, by rw [HF.out, part_eight]⟩
     case measure => simp [intOf]; omega
  ·obtain rfl : k = l.length := by omega
   go_wp2
   go_ret
   exact ⟨ret_int (by rw [not_num']; rfl), rfl⟩
theorem number_any (l : List UInt8) (w : World) (h4 : 4 ≤ l.length) (hs : l.length ≤ maxLen) :
  Calls Tryz.prog 109 #[.string ⟨l.toArray⟩] w fun e w' => e = .returned (.int .u32 (Crc.num l).toNat) ∧ w = w' := by
 unfold maxLen at hs
 have HG := hq' (or_num (l.getD 0 0) (l.getD 1 0) (l.getD 2 0) (l.getD 3 0))
 go_enter Tryz.func109, Tryz.ntmps109
 go_wp2
 go_rounds 5 <;> go_wp2
 go_ret
 refine ⟨ret_int ?_, rfl⟩
 rw [bs_getD, bs_getD, bs_getD, bs_getD, HG.out, ← getD_four]
theorem read_any (l : List UInt8) (w : World) (h4 : 4 ≤ l.length) (hs : l.length ≤ maxLen) :
  Calls Tryz.prog 118 #[.string ⟨l.toArray⟩] w fun e w' => e = .returned (.int .u32 (Crc.num l).toNat) ∧ ∃ n, w' = w.drewN n := by
 unfold maxLen at hs
 have h0 := str_at (P := Tryz.prog) l 0 0 rfl (by omega) 9 Tryz.underlying9
 have h1 := str_at (P := Tryz.prog) l 1 1 rfl (by omega) 9 Tryz.underlying9
 have h2 := str_at (P := Tryz.prog) l 2 2 rfl (by omega) 9 Tryz.underlying9
 have h3 := str_at (P := Tryz.prog) l 3 3 rfl (by omega) 9 Tryz.underlying9
 have HG := hq' ((getD_four l).symm ▸ num_toNat (l.getD 0 0) (l.getD 1 0) (l.getD 2 0) (l.getD 3 0))
 generalize l.getD 0 0 = b0 at h0 HG
 generalize l.getD 1 0 = b1 at h1 HG
 generalize l.getD 2 0 = b2 at h2 HG
 generalize l.getD 3 0 = b3 at h3 HG
 go_enter Tryz.func118, Tryz.ntmps118
 go_wp2
 go_quiet (fail)
 go_wp2
 go_ret
 have g0 := b0.toNat_lt
 have g1 := b1.toNat_lt
 have g2 := b2.toNat_lt
 have g3 := b3.toNat_lt
 exact ⟨ret_int (by rw [HG.out]; omega), nq, rfl⟩
theorem four_any (n : BitVec 32) (w : World) :
  Calls Tryz.prog 77 #[.int .u32 n.toNat] w fun e w' => e = .returned (.string ⟨(Crc.four n).toArray⟩) ∧ Below w.heap.size w w' := by
 have hconv := fun (a b c d : Int) => run_convert_bytes_arg (P := Tryz.prog) (w.alloc (.cells #[.int .u8 a, .int .u8 b, .int .u8 c, .int .u8 d] 47)) 49 5 Tryz.underlying49 Tryz.underlying5 w.heap.size 0 4 4 [a, b, c, d] rfl
  (fun i hi => by match i, hi with | 0, _ => simp [go_sem] | 1, _ => simp [go_sem] | 2, _ => simp [go_sem] | 3, _ => simp [go_sem]) 9 Tryz.underlying9
 go_enter Tryz.func77, Tryz.ntmps77
 go_wp2
 refine wp_loop_rounds 5 ?_
 rw [rounds_succ]; go_wp2
 rw [rounds_succ]; go_wp2
 rw [rounds_succ]; go_wp2
 rw [rounds_succ]; go_wp2
 rw [rounds_succ]; go_wp2
 go_ret
 exact ⟨ret_str (str_four n), by go_grown⟩
end Go.Proofs.YtjfpbeccpcbpcaaGreatDoor
namespace Go.Proofs.YtjfpbeccpcbpcaaGreatDoor.Frm
open Crc
def put (l : List UInt8) : List UInt8 := four (BitVec.ofNat 32 l.length) ++ (four (sum l) ++ l)
def next (l : List UInt8) (k : Int) : List UInt8 × Int × Int :=
 if k < 0 ∨ (l.length : Int) < k then ([], 0, 1) else
 let r := l.drop k.toNat
 if r.length < 8 then ([], 0, 5) else
 let n := (num r).toNat
 if 16384 < n then ([], 0, 4) else
 if r.length - 8 < n then ([], 0, 5) else
 let b := (r.take (8 + n)).drop 8
 if sum b ≠ num (r.drop 4) then ([], 0, 6) else (b, k + 8 + n, 0)
theorem next_arg {l : List UInt8} {k : Int} (h : k < 0 ∨ (l.length : Int) < k) : next l k = ([], 0, 1) := by unfold next; rw [if_pos h]
theorem next_short {l : List UInt8} {k : Nat} (h : k ≤ l.length) (h8 : l.length - k < 8) : next l k = ([], 0, 5) := by
 unfold next
 rw [if_neg (by omega)]
 simp only [Int.toNat_natCast]
 rw [if_pos (by simp; omega)]
theorem next_long {l : List UInt8} {k : Nat} (h : k ≤ l.length) (h8 : 8 ≤ l.length - k) (hn : 16384 < (num (l.drop k)).toNat) : next l k = ([], 0, 4) := by
 unfold next
 rw [if_neg (by omega)]
 simp only [Int.toNat_natCast]
 rw [if_neg (by simp; omega), if_pos hn]
theorem next_short2 {l : List UInt8} {k : Nat} (h : k ≤ l.length) (h8 : 8 ≤ l.length - k) (hn : (num (l.drop k)).toNat ≤ 16384) (hs : l.length - k - 8 < (num (l.drop k)).toNat) : next l k = ([], 0, 5) := by
 unfold next
 rw [if_neg (by omega)]
 simp only [Int.toNat_natCast]
 rw [if_neg (by simp; omega), if_neg (by omega), if_pos (by simp; omega)]
theorem next_sum {l : List UInt8} {k : Nat} (h : k ≤ l.length) (h8 : 8 ≤ l.length - k) (hn : (num (l.drop k)).toNat ≤ 16384) (hs : (num (l.drop k)).toNat ≤ l.length - k - 8)
  (hc : sum (((l.drop k).take (8 + (num (l.drop k)).toNat)).drop 8) ≠ num ((l.drop k).drop 4)) : next l k = ([], 0, 6) := by
 unfold next
 rw [if_neg (by omega)]
 simp only [Int.toNat_natCast]
 rw [if_neg (by simp; omega), if_neg (by omega), if_neg (by simp; omega), if_pos hc]
theorem next_ok {l : List UInt8} {k : Nat} (h : k ≤ l.length) (h8 : 8 ≤ l.length - k) (hn : (num (l.drop k)).toNat ≤ 16384) (hs : (num (l.drop k)).toNat ≤ l.length - k - 8)
  (hc : sum (((l.drop k).take (8 + (num (l.drop k)).toNat)).drop 8) = num ((l.drop k).drop 4)) :
  next l k = (((l.drop k).take (8 + (num (l.drop k)).toNat)).drop 8, (k : Int) + 8 + (num (l.drop k)).toNat, 0) := by
 unfold next
 rw [if_neg (by omega)]
 simp only [Int.toNat_natCast]
 rw [if_neg (by simp; omega), if_neg (by omega), if_neg (by simp; omega), if_neg (by simpa using hc)]
theorem next_zero {l : List UInt8} {k : Nat} (h : (next l k).2.2 = 0) :
  k + 8 + (num (l.drop k)).toNat ≤ l.length ∧ (num (l.drop k)).toNat ≤ 16384 ∧ (next l k).1 = ((l.drop k).take (8 + (num (l.drop k)).toNat)).drop 8 ∧
   (next l k).2.1 = (k : Int) + 8 + (num (l.drop k)).toNat ∧ sum (next l k).1 = num ((l.drop k).drop 4) ∧ (next l k).1.length = (num (l.drop k)).toNat := by
 by_cases h0 : (k : Int) < 0 ∨ (l.length : Int) < k
 ·rw [next_arg h0] at h; cases h
 ·have hk : k ≤ l.length := by omega
  by_cases h8 : l.length - k < 8
  ·rw [next_short hk h8] at h; cases h
  ·by_cases h1 : 16384 < (num (l.drop k)).toNat
   ·rw [next_long hk (by omega) h1] at h; cases h
   ·by_cases h2 : l.length - k - 8 < (num (l.drop k)).toNat
    ·rw [next_short2 hk (by omega) (by omega) h2] at h; cases h
    ·by_cases h3 : sum (((l.drop k).take (8 + (num (l.drop k)).toNat)).drop 8) = num ((l.drop k).drop 4)
     ·rw [next_ok hk (by omega) (by omega) (by omega) h3]
      refine ⟨by omega, by omega, rfl, rfl, h3, ?_⟩
      simp only [List.length_drop, List.length_take]
      omega
     ·rw [next_sum hk (by omega) (by omega) (by omega) h3] at h; cases h
end Go.Proofs.YtjfpbeccpcbpcaaGreatDoor.Frm
namespace Go.Proofs.YtjfpbeccpcbpcaaGreatDoor
open Go.RowKit
attribute [local go_sem] Crc.four_length
theorem ne_no {a b : BitVec 32} (h : a = b) : ((a.toNat : Int) != (b.toNat : Int)) = false := by rw [h]; simp
theorem ne_yes {a b : BitVec 32} (h : a ≠ b) : ((a.toNat : Int) != (b.toNat : Int)) = true := by
 rw [bne_iff_ne]
 intro e
 exact h (BitVec.eq_of_toNat_eq (by omega))
theorem four_int (n : Int) (w : World) (h0 : 0 ≤ n) (h1 : n < 4294967296) :
  Calls Tryz.prog 77 #[.int .u32 n] w fun e w' => e = .returned (.string ⟨(Crc.four (BitVec.ofNat 32 n.toNat)).toArray⟩) ∧ Below w.heap.size w w' := by
 have e : n = ((BitVec.ofNat 32 n.toNat).toNat : Int) := by rw [BitVec.toNat_ofNat]; omega
 have h := four_any (BitVec.ofNat 32 n.toNat) w
 rwa [← e] at h
theorem put_any (l : List UInt8) (w : World) (hs : l.length ≤ 16384) :
  Calls Tryz.prog 19 #[.string ⟨l.toArray⟩] w fun e w' => e = .returned (.tuple #[.string ⟨(Frm.put l).toArray⟩, .int .i64 0]) ∧ Below w.heap.size w w' := by
 go_enter Tryz.func19, Tryz.ntmps19
 go_wp2_with fail
 refine (four_int _ _ (by omega) (by omega)).mono ?_
 rintro e w1 ⟨rfl, hb1⟩
 have HB1 := hq' hb1
 clear hb1
 go_wp2_with fail
 refine (sum_any _ _ (by unfold maxLen; omega)).mono ?_
 rintro e w2 ⟨rfl, hb2⟩
 have HB2 := hq' hb2
 clear hb2
 go_wp2_with fail
 refine (four_any _ _).mono ?_
 rintro e w3 ⟨rfl, hb3⟩
 have HB3 := hq' hb3
 clear hb3
 go_wp2
 go_ret2
 exact ⟨rfl, bt (bt HB1.out HB2.out) HB3.out⟩
theorem next_arg (l : List UInt8) (k : Int) (w : World) (h : k < 0 ∨ (l.length : Int) < k) (hm : l.length ≤ maxLen) :
  Calls Tryz.prog 60 #[.string ⟨l.toArray⟩, .int .i64 k] w fun e w' => e = .returned (.tuple #[.string ⟨#[]⟩, .int .i64 0, .int .i64 1]) ∧ w = w' := by
 unfold maxLen at hm
 by_cases h0 : k < 0
 ·go_enter Tryz.func60, Tryz.ntmps60
  go_wp2
  go_ret3
  exact ⟨rfl, rfl⟩
 ·have h1 : (l.length : Int) < k := by omega
  clear h
  go_enter Tryz.func60, Tryz.ntmps60
  go_wp2
  go_ret3
  exact ⟨rfl, rfl⟩
theorem next_short (l : List UInt8) (k : Nat) (w : World) (h : k ≤ l.length) (h8 : l.length - k < 8) (hm : l.length ≤ maxLen) :
  Calls Tryz.prog 60 #[.string ⟨l.toArray⟩, .int .i64 k] w fun e w' => e = .returned (.tuple #[.string ⟨#[]⟩, .int .i64 0, .int .i64 5]) ∧ w = w' := by
 unfold maxLen at hm
 have hs := str_from (P := Tryz.prog) l k k rfl h 9 .i64 Tryz.underlying9
 have hl : (l.drop k).length < 8 := by simp; omega
 generalize l.drop k = r at hs hl
 go_enter Tryz.func60, Tryz.ntmps60
 go_wp2
 go_ret3
 exact ⟨rfl, rfl⟩
theorem next_rest (l : List UInt8) (k : Nat) (w : World) (h : k ≤ l.length) (h8 : 8 ≤ l.length - k) (hm : l.length ≤ maxLen) :
  Calls Tryz.prog 60 #[.string ⟨l.toArray⟩, .int .i64 k] w fun e w' => e = .returned (.tuple #[.string ⟨(Frm.next l k).1.toArray⟩, .int .i64 (Frm.next l k).2.1, .int .i64 (Frm.next l k).2.2]) ∧ Below w.heap.size w w' := by
 unfold maxLen at hm
 have hs := str_from (P := Tryz.prog) l k k rfl h 9 .i64 Tryz.underlying9
 have hl : 8 ≤ (l.drop k).length := by simp; omega
 have hl2 : (l.drop k).length + k ≤ 9223372036854775807 := by simp; omega
 have H1 := hq' (@Frm.next_long l k h h8)
 have H2 := hq' (@Frm.next_short2 l k h h8)
 have H3 := hq' (@Frm.next_sum l k h h8)
 have H4 := hq' (@Frm.next_ok l k h h8)
 have hlen : l.length - k - 8 = (l.drop k).length - 8 := by simp
 rw [hlen] at H2 H3 H4
 clear hlen
 generalize l.drop k = r at hs hl hl2 H1 H2 H3 H4
 generalize Frm.next l k = q at H1 H2 H3 H4
 obtain ⟨q1, q2, q3⟩ := q
 have hn := (Crc.num r).isLt
 go_enter Tryz.func60, Tryz.ntmps60
 go_wp2_with fail
 refine (number_any _ _ (by omega) (by unfold maxLen; omega)).mono ?_
 rintro e w1 ⟨rfl, rfl⟩
 by_cases c1 : 16384 < (Crc.num r).toNat
 ·have e1 := H1.out c1
  injection e1 with e1 e2
  injection e2 with e2 e3
  subst e1 e2 e3
  go_wp2
  go_ret3
  exact ⟨rfl, Below.refl _ _⟩
 ·by_cases c2 : r.length - 8 < (Crc.num r).toNat
  ·have e1 := H2.out (by omega) c2
   injection e1 with e1 e2
   injection e2 with e2 e3
   subst e1 e2 e3
   go_wp2
   go_ret3
   exact ⟨rfl, Below.refl _ _⟩
  ·have hc := str_cut (P := Tryz.prog) r 8 (8 + (Crc.num r).toNat) 8 (8 + (Crc.num r).toNat) .i64 .u32 rfl (by omega) (by omega) (by omega) 9 Tryz.underlying9
   have h4 := str_from (P := Tryz.prog) r 4 4 rfl (by omega) 9 .i64 Tryz.underlying9
   have hb : ((r.take (8 + (Crc.num r).toNat)).drop 8).length ≤ 16384 := by simp; omega
   have h4l : 4 ≤ (r.drop 4).length := by simp; omega
   have h4m : (r.drop 4).length ≤ 9223372036854775807 := by simp; omega
   generalize (r.take (8 + (Crc.num r).toNat)).drop 8 = b at hc hb H3 H4
   generalize r.drop 4 = r4 at h4 h4l h4m H3 H4
   by_cases c3 : Crc.sum b = Crc.num r4
   ·have e1 := H4.out (by omega) (by omega) c3
    injection e1 with e1 e2
    injection e2 with e2 e3
    subst e1 e2 e3
    have ht := ne_no c3
    clear hn c3
    go_wp2_with fail
    go_region_with (first | (go_at_call 78; refine (sum_any _ _ (by unfold maxLen; omega)).mono ?_; rintro e w2 ⟨rfl, hb2⟩) | (go_at_call 109; refine (number_any _ _ h4l (by unfold maxLen; omega)).mono ?_; rintro e w3 ⟨rfl, rfl⟩))
    all_goals
     have HB2 := hq' hb2
     clear hb2
     go_wp2
     go_ret3
     exact ⟨rfl, bd HB2.out⟩
   ·have e1 := H3.out (by omega) (by omega) c3
    injection e1 with e1 e2
    injection e2 with e2 e3
    subst e1 e2 e3
    have ht := ne_yes c3
    clear hn c3
    go_wp2_with fail
    go_region_with (first | (go_at_call 78; refine (sum_any _ _ (by unfold maxLen; omega)).mono ?_; rintro e w2 ⟨rfl, hb2⟩) | (go_at_call 109; refine (number_any _ _ h4l (by unfold maxLen; omega)).mono ?_; rintro e w3 ⟨rfl, rfl⟩))
    all_goals
     have HB2 := hq' hb2
     clear hb2
     go_wp2
     go_ret3
     exact ⟨rfl, bd HB2.out⟩
theorem next_any (l : List UInt8) (k : Int) (w : World) (hm : l.length ≤ maxLen) :
  Calls Tryz.prog 60 #[.string ⟨l.toArray⟩, .int .i64 k] w fun e w' => e = .returned (.tuple #[.string ⟨(Frm.next l k).1.toArray⟩, .int .i64 (Frm.next l k).2.1, .int .i64 (Frm.next l k).2.2]) ∧ Below w.heap.size w w' := by
 by_cases h : k < 0 ∨ (l.length : Int) < k
 ·rw [Frm.next_arg h]
  exact (next_arg l k w h hm).mono fun e w' ⟨he, hw⟩ => ⟨he, hw ▸ Below.refl _ _⟩
 ·obtain ⟨n, rfl⟩ := Int.eq_ofNat_of_zero_le (show 0 ≤ k by omega)
  by_cases h8 : l.length - n < 8
  ·rw [Frm.next_short (by omega) h8]
   exact (next_short l n w (by omega) h8 hm).mono fun e w' ⟨he, hw⟩ => ⟨he, hw ▸ Below.refl _ _⟩
  ·exact next_rest l n w (by omega) (by omega) hm
theorem refnext_arg (l : List UInt8) (k : Int) (w : World) (h : k < 0 ∨ (l.length : Int) < k) (hm : l.length ≤ maxLen) :
  Calls Tryz.prog 66 #[.string ⟨l.toArray⟩, .int .i64 k] w fun e w' => e = .returned (.tuple #[.string ⟨#[]⟩, .int .i64 0, .int .i64 1]) ∧ w = w' := by
 unfold maxLen at hm
 by_cases h0 : k < 0
 ·go_enter Tryz.func66, Tryz.ntmps66
  go_wp2
  go_ret3
  exact ⟨rfl, rfl⟩
 ·have h1 : (l.length : Int) < k := by omega
  clear h
  go_enter Tryz.func66, Tryz.ntmps66
  go_wp2
  go_ret3
  exact ⟨rfl, rfl⟩
theorem refnext_short (l : List UInt8) (k : Nat) (w : World) (h : k ≤ l.length) (h8 : l.length - k < 8) (hm : l.length ≤ maxLen) :
  Calls Tryz.prog 66 #[.string ⟨l.toArray⟩, .int .i64 k] w fun e w' => e = .returned (.tuple #[.string ⟨#[]⟩, .int .i64 0, .int .i64 5]) ∧ w = w' := by
 unfold maxLen at hm
 have h8' : (l.length : Int) - k < 8 := by omega
 go_enter Tryz.func66, Tryz.ntmps66
 go_wp2
 go_ret3
 exact ⟨rfl, rfl⟩
theorem refnext_rest (l : List UInt8) (k : Nat) (w : World) (h : k ≤ l.length) (h8 : 8 ≤ l.length - k) (hm : l.length ≤ maxLen) :
  Calls Tryz.prog 66 #[.string ⟨l.toArray⟩, .int .i64 k] w fun e w' => e = .returned (.tuple #[.string ⟨(Frm.next l k).1.toArray⟩, .int .i64 (Frm.next l k).2.1, .int .i64 (Frm.next l k).2.2]) ∧ Below w.heap.size w w' := by
 unfold maxLen at hm
 have hs := str_from (P := Tryz.prog) l k k rfl h 9 .i64 Tryz.underlying9
 have hl : 8 ≤ (l.drop k).length := by simp; omega
 have hl2 : ((l.drop k).length : Int) = (l.length : Int) - k := by simp; omega
 have H1 := hq' (@Frm.next_long l k h h8)
 have H2 := hq' (@Frm.next_short2 l k h h8)
 have H3 := hq' (@Frm.next_sum l k h h8)
 have H4 := hq' (@Frm.next_ok l k h h8)
 have hcut : ∀ n, n ≤ l.length - k - 8 → ∀ w, (Instr.slice 9 (.string ⟨l.toArray⟩) (some (.int .i64 ((k : Int) + 8))) (some (.int .i64 ((k : Int) + 8 + (n : Nat)))) none).run Tryz.prog w = .ok (.string ⟨(((l.drop k).take (8 + n)).drop 8).toArray⟩) w := by
  intro n hn w
  have := str_cut (P := Tryz.prog) l (k + 8) (k + 8 + n) (k + 8) (k + 8 + n) .i64 .i64 (by omega) (by omega) (by omega) (by omega) 9 Tryz.underlying9 w
  rw [this, List.take_drop, List.drop_drop, Nat.add_assoc]
 have h4 : ∀ w, (Instr.slice 9 (.string ⟨l.toArray⟩) (some (.int .i64 ((k : Int) + 4))) none none).run Tryz.prog w = .ok (.string ⟨((l.drop k).drop 4).toArray⟩) w := by
  intro w
  have := str_from (P := Tryz.prog) l (k + 4) (k + 4) (by omega) (by omega) 9 .i64 Tryz.underlying9 w
  rw [this, List.drop_drop]
 have HC := hq' hcut
 clear hcut
 have hl3 : (l.drop k).length = l.length - k := by simp
 have hlen : l.length - k - 8 = (l.drop k).length - 8 := by rw [hl3]
 rw [hlen] at H2 H3 H4
 clear hlen
 generalize l.drop k = r at hs hl hl2 H1 H2 H3 H4 HC h4 hl3
 have HL3 := hq' hl3
 clear hl3
 have hl4 : (r.length : Int) ≤ (l.length : Int) - k := by omega
 have hl5 : (l.length : Int) - k ≤ (r.length : Int) := by omega
 clear hl2
 generalize Frm.next l k = q at H1 H2 H3 H4
 obtain ⟨q1, q2, q3⟩ := q
 have hn := (Crc.num r).isLt
 go_enter Tryz.func66, Tryz.ntmps66
 go_wp2_with fail
 refine (read_any _ _ (by omega) (by unfold maxLen; omega)).mono ?_
 rintro e w1 ⟨rfl, n1, rfl⟩
 by_cases c1 : 16384 < (Crc.num r).toNat
 ·have e1 := H1.out c1
  injection e1 with e1 e2
  injection e2 with e2 e3
  subst e1 e2 e3
  go_wp2
  go_ret3
  exact ⟨rfl, below_drewN (Below.refl _ _) _⟩
 ·by_cases c2 : r.length - 8 < (Crc.num r).toNat
  ·have e1 := H2.out (by omega) c2
   injection e1 with e1 e2
   injection e2 with e2 e3
   subst e1 e2 e3
   have c2' : (l.length : Int) - k - 8 < (Crc.num r).toNat := by omega
   go_wp2
   go_ret3
   exact ⟨rfl, below_drewN (Below.refl _ _) _⟩
  ·have c2' : (Crc.num r).toNat ≤ (l.length : Int) - k - 8 := by omega
   have hc := HC.out (Crc.num r).toNat (by have := HL3.out; omega)
   have hb : ((r.take (8 + (Crc.num r).toNat)).drop 8).length ≤ 16384 := by simp; omega
   have h4l : 4 ≤ (r.drop 4).length := by simp; omega
   have h4m : (r.drop 4).length ≤ 9223372036854775807 := by simp; omega
   generalize (r.take (8 + (Crc.num r).toNat)).drop 8 = b at hc hb H3 H4
   generalize r.drop 4 = r4 at h4 h4l h4m H3 H4
   have hw4 := IntWalk.i64_in ((k : Int) + 4) (by omega)
   by_cases c3 : Crc.sum b = Crc.num r4
   ·have e1 := H4.out (by omega) (by omega) c3
    injection e1 with e1 e2
    injection e2 with e2 e3
    subst e1 e2 e3
    have ht := ne_no c3
    clear c3
    go_wp2_with fail
    go_region_with (first | (go_at_call 88; refine (refsum_any _ _ (by unfold maxLen; omega)).mono ?_; rintro e w2 ⟨rfl, rfl⟩) | (go_at_call 118; refine (read_any _ _ h4l (by unfold maxLen; omega)).mono ?_; rintro e w3 ⟨rfl, n2, rfl⟩))
    all_goals
     go_wp2
     go_ret3
     exact ⟨rfl, below_drewN (Below.refl _ _) _⟩
   ·have e1 := H3.out (by omega) (by omega) c3
    injection e1 with e1 e2
    injection e2 with e2 e3
    subst e1 e2 e3
    have ht := ne_yes c3
    clear c3
    go_wp2_with fail
    go_region_with (first | (go_at_call 88; refine (refsum_any _ _ (by unfold maxLen; omega)).mono ?_; rintro e w2 ⟨rfl, rfl⟩) | (go_at_call 118; refine (read_any _ _ h4l (by unfold maxLen; omega)).mono ?_; rintro e w3 ⟨rfl, n2, rfl⟩))
    all_goals
     go_wp2
     go_ret3
     exact ⟨rfl, below_drewN (Below.refl _ _) _⟩
theorem refnext_any (l : List UInt8) (k : Int) (w : World) (hm : l.length ≤ maxLen) :
  Calls Tryz.prog 66 #[.string ⟨l.toArray⟩, .int .i64 k] w fun e w' => e = .returned (.tuple #[.string ⟨(Frm.next l k).1.toArray⟩, .int .i64 (Frm.next l k).2.1, .int .i64 (Frm.next l k).2.2]) ∧ Below w.heap.size w w' := by
 by_cases h : k < 0 ∨ (l.length : Int) < k
 ·rw [Frm.next_arg h]
  exact (refnext_arg l k w h hm).mono fun e w' ⟨he, hw⟩ => ⟨he, hw ▸ Below.refl _ _⟩
 ·obtain ⟨n, rfl⟩ := Int.eq_ofNat_of_zero_le (show 0 ≤ k by omega)
  by_cases h8 : l.length - n < 8
  ·rw [Frm.next_short (by omega) h8]
   exact (refnext_short l n w (by omega) h8 hm).mono fun e w' ⟨he, hw⟩ => ⟨he, hw ▸ Below.refl _ _⟩
  ·exact refnext_rest l n w (by omega) (by omega) hm
open Go.RowKit
def WStrs (w : World) (ls : List (List UInt8)) (e : Ending) (w' : World) : Prop := ∃ v, e = .returned v ∧ w'.ownsRow w.heap.size 9 1 v ls.length (sv ls) ∧ Below w.heap.size w w'
theorem sv_append (a b : List (List UInt8)) : sv (a ++ b) = sv a ++ sv b := by simp [sv]
theorem ownsRow_weaken {w : World} {b b' : Nat} {e : TypeId} {size : Nat} {v : Value} {n : Nat} {xs : List Value} (h : w.ownsRow b e size v n xs) (hb : b' ≤ b) : w.ownsRow b' e size v n xs := by
 refine ⟨h.1, ?_⟩
 rcases h.2 with h2 | ⟨g, cap, cur, e1, hB, r⟩
 ·exact .inl h2
 ·exact .inr ⟨g, cap, cur, e1, Nat.le_trans hb hB, r⟩
theorem wints_any (l : List Int) (hl : l.length ≤ 100000) (hr : ∀ x ∈ l, Bd.inR x) (v : Value) (w : World) (h : Ints w v l) (hw : Lw w) :
  Calls Tryz.prog 80 #[v] w (WStrs w (l.map Bd.bInt)) := by
 have HZ := hq' h
 have HW := hq' hw
 have HR := hq' hr
 obtain ⟨a, cap, rfl⟩ := h.form
 obtain ⟨i0, hi, hz0, hz1, hz2⟩ := info_parts cinfoStr
 clear h hw hr
 go_enter Tryz.func80, Tryz.ntmps80
 go_wp2
 go_loopw [2, 7] (fun tv ti wr => ∃ k : Nat, ti = .int .i64 k ∧ k ≤ l.length ∧ wr.ownsRow w.heap.size 9 1 tv k (sv ((l.map Bd.bInt).take k)) ∧ Below w.heap.size w wr) (fun _ ti _ => l.length - (intOf ti).toNat)
 case atStart => exact ⟨0, rfl, by omega, ⟨by simp [sv], .inl ⟨rfl, rfl⟩⟩, Below.refl _ _⟩
 case round =>
  obtain ⟨k, rfl, hk, ho, hb⟩ := hrel
  have HO := hq' ho
  have HB := hq' hb
  clear ho hb
  by_cases hlt : k < l.length
  ·obtain ⟨x, hx⟩ : ∃ x, l[k]? = some x := ⟨l[k], by simp [hlt]⟩
   have HJ := hq' (beadInt_any x (HR.out x (List.mem_of_getElem? hx)) wr (HW.out.below HB.out))
   have HT : Hid (sv ((l.map Bd.bInt).take (k + 1)) = sv ((l.map Bd.bInt).take k) ++ sv [Bd.bInt x]) := by
    rw [Hid, ← sv_append]
    congr 1
    rw [List.take_succ_eq_append_getElem (by simpa using hlt)]
    obtain ⟨_, rfl⟩ := List.getElem?_eq_some_iff.1 hx
    simp
   obtain ⟨g, off, cap', he, hg, p0⟩ := HZ.out.get HB.out hx
   injection he with he1 he2 he3
   subst he1 he3
   clear he2
   generalize Bd.bInt x = bx at *
   go_wp2_with fail
   refine HJ.out.mono ?_
   rintro e w1 ⟨rfl, hb1⟩
   have HO1 := hq' (ownsRow_below HO.out hb1)
   have HB1 := hq' (bt HB.out hb1)
   have hsz := HB1.out.size
   clear hb1 HJ HO p0
   go_wp2_with (at_builtin; refine wpList_append_own _ rfl _ _ 51 rfl w.heap.size 9 i0 (.string ⟨#[]⟩) 1 16 Tryz.underlying51 hi hz0 hz1 hz2 rfl (by decide) _ _ _ rfl (World.ownsRow.alloc HO1.out _) ⟨w1.heap.size, 0, none⟩ 1 1 [.string ⟨bx.toArray⟩] rfl rfl (cell_one_new _ _ _) ?_ ?_ ?_ ?_ ?_)
   ·simp [Value.oneCell']
   ·unfold maxLen; omega
   ·omega
   ·simp; omega
   intro v' w2 hown2 hg2 _
   have HN : Hid (w2.ownsRow w.heap.size 9 1 v' (k + 1) (sv ((l.map Bd.bInt).take (k + 1)))) := by rw [Hid, HT.out]; exact hown2
   have HB2 : Hid (Below w.heap.size w w2) := (HB1.out.alloc hsz _).grown hg2 (by simp; omega) (fun kk hkk => (HO1.out.lt kk hkk).1)
   clear hown2 hg2
   go_wp2
   go_roundw
   case rel => exact ⟨k + 1, by go_num, by omega, HN.out, HB2.out⟩
   case measure => simp [intOf]; omega
  ·obtain rfl : k = l.length := by omega
   have h9 := HO.out
   rw [List.take_of_length_le (by simp), show l.length = (l.map Bd.bInt).length by simp] at h9
   have HF := hq' h9
   clear h9
   go_wp2
   go_ret
   exact ⟨_, rfl, HF.out, HB.out⟩
theorem ints3_cl {W : World} {g : Nat} {a b c : Int} {t : TypeId} (C : Cl W g [.int .i64 a, .int .i64 b, .int .i64 c] t) : Ints W (.slice (some ⟨g, 0, none⟩) 3 3) [a, b, c] := by
 refine ⟨_, 3, rfl, fun i hi => ⟨g, 0, rfl, C.lt, ?_⟩⟩
 rw [Nat.zero_add, Cl.cell C i]
 rcases (show i = 0 ∨ i = 1 ∨ i = 2 by simp at hi; omega) with rfl | rfl | rfl <;> rfl
open Go.RowKit
theorem wflag_any (b : Bool) (w : World) : Calls Tryz.prog 126 #[.bool b] w fun e w' => e = .returned (.int .i64 (Cr.flag b)) ∧ w = w' := by
 cases b <;>
 ·go_enter Tryz.func126, Tryz.ntmps126
  go_wp2
  go_ret
  exact ⟨rfl, rfl⟩
theorem cells_new (w : World) (ls : List (List UInt8)) (t : TypeId) : ∀ j u, (sv ls)[j]? = some u → (w.alloc (.cells (sv ls).toArray t)).cell? ((⟨w.heap.size, 0, none⟩ : Addr).add j) = some u := fun j u hu => by
 rw [Addr.add_mid, Nat.zero_add, row_cells w (sv ls) t _ (Below.refl _ _) j]
 exact hu
open Go.RowKit
theorem own_slice {w : World} {b : Nat} {e : TypeId} {v : Value} {n : Nat} {xs : List Value} (h : w.ownsRow b e 1 v n xs) (hn : 0 < n) :
  ∃ g cap, v = .slice (some ⟨g, 0, none⟩) n cap ∧ ∀ j u, xs[j]? = some u → w.cell? ((⟨g, 0, none⟩ : Addr).add j) = some u := by
 have hh := h
 rcases h.2 with ⟨_, rfl⟩ | ⟨g, cap, cur, rfl, _⟩
 ·omega
 ·exact ⟨g, cap, rfl, hh.cells (g := g) rfl⟩
def iv (l : List Int) : List Value := l.map fun n => .int .i64 n
theorem cinfoInt : (Tryz.prog.info? 3).map (fun i => (i.zero, i.size, i.bytes)) = some (some (.int .i64 0), 1, 8) := by kernel_rfl
theorem iv_append (a b : List Int) : iv (a ++ b) = iv a ++ iv b := by simp [iv]
theorem ints_own {w : World} {b : Nat} {e : TypeId} {v : Value} {n : Nat} {l : List Int} (h : w.ownsRow b e 1 v n (iv l)) : Ints w v l := by
 have hn : l.length = n := by simpa [iv] using h.1
 subst hn
 have hh := h
 rcases h.2 with ⟨rfl, hn⟩ | ⟨g, cap, cur, rfl, hB, hg, hn, hm, hs, ht⟩
 ·have e : l = [] := List.eq_nil_of_length_eq_zero (by simpa using hn)
  subst e
  exact ⟨none, 0, rfl, fun i hi => by simp at hi⟩
 ·refine ⟨_, cap, rfl, fun i hi => ⟨g, 0, rfl, (Array.getElem?_eq_some_iff.1 hg).1, ?_⟩⟩
  have := hh.cells (g := g) rfl i (.int .i64 (l.getD i 0)) (by simp [iv, hi])
  rwa [Addr.add_mid] at this
theorem icells_new (w : World) (l : List Int) (t : TypeId) : ∀ j u, (iv l)[j]? = some u → (w.alloc (.cells (iv l).toArray t)).cell? ((⟨w.heap.size, 0, none⟩ : Addr).add j) = some u := fun j u hu => by
 rw [Addr.add_mid, Nat.zero_add, row_cells w (iv l) t _ (Below.refl _ _) j]
 exact hu
open Go.RowKit
open Go.RowKit
open Go.RowKit
theorem wfields_k3 (m : Wi.Msg) (v : MsgV) (w : World) (h : MsgAt w m v) (ok : MsgOk m) (hk : m.kind = 3) (hg : Wi.good m = true) (hw : Lw w) :
  Calls Tryz.prog 23 #[msgV m v] w (WStrs w (Wi.fieldsL m)) := by
 have HW := hq' hw
 have HM := hq' h
 have HO := hq' ok
 have hn := ok.n
 simp only [List.mem_cons, List.not_mem_nil, or_false, forall_eq_or_imp, forall_eq] at hn
 obtain ⟨n0, n1, n2, n3, n4, n5, n6, n7, _⟩ := hn
 obtain ⟨i0, hi, hz0, hz1, hz2⟩ := info_parts cinfoStr
 obtain ⟨s0, c0, s1, c1, s2, c2, s3, c3, s4, c4, s5, c5, s6, c6, rfl⟩ := h.slices
 obtain ⟨x_kind, x_frm, x_to, x_part, x_ep, x_off, x_high, x_life, x_pep, x_chain, x_learner, x_lives, x_batch, x_table, x_req, x_resp⟩ := m
 dsimp only at *
 subst hk
 clear h ok hw hg
 have HFM : Hid (Wi.fieldsL ⟨3, x_frm, x_to, x_part, x_ep, x_off, x_high, x_life, x_pep, x_chain, x_learner, x_lives, x_batch, x_table, x_req, x_resp⟩ = [3, x_frm, x_to].map Bd.bInt ++ [Bd.bInt x_life]) := by rw [Hid]; simp [Wi.fieldsL, Wi.headL, Wi.tailL]
 unfold msgV msgC
 dsimp only
 go_enter Tryz.func23, Tryz.ntmps23
 obtain ⟨w1, hw1, CA, B1⟩ := oneBox (w := w) (.int .i64 3 :: .int .i64 x_frm :: .int .i64 x_to :: xt x_part x_ep x_off x_high x_life x_pep x_chain x_learner x_lives x_batch x_table x_req x_resp s0 c0 s1 c1 s2 c2 s3 c3 s4 c4 s5 c5 s6 c6) 36
 have HW1 := hq' hw1
 clear hw1
 go_upto_region 1 with (fail)
 first | rw [HW1.out] | skip
 clear HW1
 have hpa := CA.out.lt
 have HI : Hid (∀ W, Below w1.heap.size w1 W → w1.heap.size ≤ W.heap.size) := fun W h => h.size
 have BW : Hid (∀ W, Below w1.heap.size w1 W → Below w.heap.size w W) := fun W h => bt B1.out h
 have LW1 := hq' (HW.out.below B1.out)
 have HSW : Hid (w.heap.size ≤ w1.heap.size) := B1.out.size
 have B0 : Hid (Below w1.heap.size w1 w1) := Below.refl _ _
 obtain ⟨pa, hpa2⟩ : ∃ pa, pa = w.heap.size := ⟨_, rfl⟩
 rw [← hpa2] at CA ⊢
 have HPA := hq' hpa2
 clear hpa2 hpa
 have CX := hq' (CA.out.below B0.out)
 have a0 := CX.out.cell 0
 have a1 := CX.out.cell 1
 have a2 := CX.out.cell 2
 simp only [g0', gs'] at a0 a1 a2
 have C1 : Hid (Cl (w1.alloc (.cells #[.int .i64 3, .int .i64 x_frm, .int .i64 x_to] 3)) w1.heap.size [.int .i64 3, .int .i64 x_frm, .int .i64 x_to] 3) := Cl.new w1 _ _
 have D1 : Hid (Below w1.heap.size w1 (w1.alloc (.cells #[.int .i64 3, .int .i64 x_frm, .int .i64 x_to] 3))) := (Below.refl _ _).alloc (Nat.le_refl _) _
 have HC1 := hq' (wints_any [3, x_frm, x_to] (by simp) (by simp only [List.mem_cons, List.not_mem_nil, or_false, forall_eq_or_imp, forall_eq]; exact ⟨n0, n1, n2⟩) _ _ (ints3_cl C1.out) (LW1.out.below (bt B0.out D1.out)))
 go_wp2_with fail
 refine HC1.out.mono ?_
 rintro e w11 ⟨v11, rfl, ho1, hb1⟩
 have B10 := hq' (bt D1.out hb1)
 have B1 := hq' (bt B0.out B10.out)
 have hs1 := HI.out _ B1.out
 have HR1 := hq' (ownsRow_weaken ho1 (show w1.heap.size ≤ (w1.alloc (.cells #[.int .i64 3, .int .i64 x_frm, .int .i64 x_to] 3)).heap.size by have := HI.out _ (bt B0.out D1.out); exact this))
 clear hb1 ho1 HC1 C1 D1
 clear CX a0 a1 a2
 have kx := (CA.out.below B1.out).cell 0
 simp only [g0', gs'] at kx
 have CX := hq' (CA.out.below B1.out)
 have a7 := CX.out.cell 7
 simp only [g0', gs'] at a7
 have LW3 := hq' (LW1.out.below B1.out)
 have HJ3 := hq' (beadInt_any x_life n7 w11 LW3.out)
 generalize hbl3 : Bd.bInt x_life = bl3 at HJ3 HFM
 clear hbl3
 go_wp2_with fail
 refine HJ3.out.mono ?_
 rintro e w13 ⟨rfl, hb3⟩
 have HO3 := hq' (ownsRow_below HR1.out hb3)
 have B3 := hq' (bt B1.out hb3)
 have hs3 := HI.out _ B3.out
 clear hb3 HJ3 HR1
 clear CX a7
 go_wp2_with (at_builtin; refine wpList_append_own _ rfl _ _ 51 rfl w1.heap.size 9 i0 (.string ⟨#[]⟩) 1 16 Tryz.underlying51 hi hz0 hz1 hz2 rfl (by decide) _ _ _ rfl (World.ownsRow.alloc HO3.out _) ⟨w13.heap.size, 0, none⟩ 1 1 [.string ⟨bl3.toArray⟩] rfl rfl (cells_new _ [bl3] _) ?_ ?_ ?_ ?_ ?_)
 ·simp [Value.oneCell']
 ·unfold maxLen; simp
 ·simp
 ·simp; omega
 intro v22 w22 hown2 hg2 _
 have HO2 : Hid (w22.ownsRow w1.heap.size 9 1 v22 (([3, x_frm, x_to].map Bd.bInt) ++ [bl3]).length (sv (([3, x_frm, x_to].map Bd.bInt) ++ [bl3]))) := by rw [Hid, sv_append]; exact hown2
 have B2 : Hid (Below w1.heap.size w1 w22) := (B3.out.alloc hs3 _).grown hg2 (by simp; omega) (fun kk hkk => (HO3.out.lt kk hkk).1)
 clear hown2 hg2 HO3
 clear kx
 go_wp2
 go_ret
 refine ⟨_, rfl, ?_, BW.out _ B2.out⟩
 rw [HFM.out]
 exact ownsRow_weaken HO2.out HSW.out
open Go.RowKit
open Go.RowKit
open Go.RowKit
open Go.RowKit
open Go.RowKit
open Go.RowKit
open Go.RowKit
end Go.Proofs.YtjfpbeccpcbpcaaGreatDoor
