/-
  Crh: texts of one proof, one behind the other.
  Conditions: none of its own.
-/
import Derived.Test.YtjfpbeccpcbpcaaGreatDoorZaq
import Derived.Test.YtjfpbeccpcbpcaaGreatDoorZbm
import Derived.Test.YtjfpbeccpcbpcaaGreatDoorZbo
set_option linter.unusedVariables false
set_option linter.unusedSimpArgs false
namespace Go.Proofs.YtjfpbeccpcbpcaaGreatDoor
open Go.RowKit
def preA (b : Cr.Batch) (k : Nat) : List UInt8 := 108 :: (((five b).take k).map Bd.bInt).flatten
def preB (b : Cr.Batch) (k : Nat) : List UInt8 := 108 :: (Cr.nums b ++ Cr.encRecs (b.recs.take k))
theorem preA_succ (b : Cr.Batch) (k : Nat) (n : Int) (h : (five b)[k]? = some n) : preA b (k + 1) = preA b k ++ Bd.bInt n := by
 rw [preA, preA, five_succ b k n h, List.flatten_append, List.cons_append]
 rw [List.flatten_cons, List.flatten_nil, List.append_nil]
theorem flatFive (a b c d e : List UInt8) : [a, b, c, d, e].flatten = a ++ (b ++ (c ++ (d ++ e))) := by simp
theorem preA_five (b : Cr.Batch) : preA b 5 = preB b 0 := by
 rw [preA, preB, List.take_zero, show (five b).take 5 = five b from rfl, show Cr.encRecs [] = [] from rfl, List.append_nil]
 exact congrArg _ (flatFive _ _ _ _ _)
theorem preB_succ (b : Cr.Batch) (k : Nat) (x : Cr.Rec) (h : b.recs[k]? = some x) : preB b (k + 1) = preB b k ++ Cr.encRec x := by
 obtain ⟨hk, rfl⟩ := List.getElem?_eq_some_iff.1 h
 rw [preB, preB, List.take_succ_eq_append_getElem hk, Cr.encRecs, Cr.encRecs, List.map_append, List.flatten_append, List.cons_append, List.append_assoc]
 rw [List.map_cons, List.map_nil, List.flatten_cons, List.flatten_nil, List.append_nil]
theorem preB_len {b : Cr.Batch} (h : Cr.good b = true) (k : Nat) : (preB b k).length ≤ 1200 := by
 have h1 := Cr.enc_len h
 have h2 := Cr.encRecs_len (b.recs.take k) (fun x hx => Cr.good_recs h x (List.mem_of_mem_take hx))
 have h3 : (b.recs.take k).length ≤ 8 := by rw [List.length_take]; omega
 have h4 := Cr.encRecs_len b.recs (Cr.good_recs h)
 have h5 : (Cr.enc b).length = (Cr.nums b).length + (Cr.encRecs b.recs).length + 2 := by simp only [Cr.enc, List.length_cons, List.length_append, List.length_nil]; omega
 have h6 : (Cr.nums b).length ≤ 80 := by
  obtain ⟨g1, g2, g3, g4, g5, g6, g7, g8, g9⟩ := Cr.good_nums h
  simp only [Cr.isNum, Bool.and_eq_true, decide_eq_true_eq] at g1 g2 g3 g4
  have a1 := Cr.bInt_len (n := b.base) (by omega) (by omega)
  have a2 := Cr.bInt_len (n := b.count) (by omega) (by omega)
  have a3 := Cr.bInt_len (n := b.prod) (by omega) (by omega)
  have a4 := Cr.bInt_len (n := b.seq) (by omega) (by omega)
  have a5 := Cr.bInt_len (n := b.time) (by omega) (by omega)
  simp only [Cr.nums, List.length_append]
  omega
 simp only [preB, List.length_cons, List.length_append]
 omega
theorem five_len {b : Cr.Batch} (h : Cr.good b = true) : ∀ n ∈ five b, (Bd.bInt n).length ≤ 15 := by
 obtain ⟨g1, g2, g3, g4, g5, g6, g7, g8, g9⟩ := Cr.good_nums h
 simp only [Cr.isNum, Bool.and_eq_true, decide_eq_true_eq] at g1 g2 g3 g4
 intro n hn
 simp only [five, List.mem_cons, List.not_mem_nil, or_false] at hn
 rcases hn with rfl | rfl | rfl | rfl | rfl
 all_goals exact (Cr.bInt_len (by omega) (by omega)).2
theorem preA_len {b : Cr.Batch} (h : Cr.good b = true) (k : Nat) : (preA b k).length ≤ 1 + 15 * 5 := by
 have key : ∀ l : List Int, (∀ n ∈ l, (Bd.bInt n).length ≤ 15) → ((l.map Bd.bInt).flatten).length ≤ 15 * l.length := by
  intro l
  induction l with
  | nil => intro _; simp
  | cons x l ih =>
   intro hl
   have h1 := hl x (by simp)
   have h2 := ih fun n hn => hl n (by simp [hn])
   rw [List.map_cons, List.flatten_cons, List.length_append, List.length_cons]
   omega
 have h1 := key ((five b).take k) (fun n hn => five_len h n (List.mem_of_mem_take hn))
 have h2 : ((five b).take k).length ≤ 5 := by rw [List.length_take]; exact Nat.min_le_right _ _
 rw [preA, List.length_cons]
 omega
set_option maxRecDepth 20000 in
set_option maxHeartbeats 6400000 in
theorem refencode_any (b : Cr.Batch) (hok : BatOk b) (rv : Value) (w : World) (h : Recs w rv b.recs) :
  Calls Tryz.prog 27 #[batV b rv] w fun e w' => e = .returned (encR b) ∧ Below w.heap.size w w' := by
 have HZ := Lib.hid h
 have HR := Lib.hid hok.2.2.2.2.2.2
 have HQ := Lib.hid hok
 have HI := Lib.hid (show ∀ n ∈ five b, Bd.inR n from by
  obtain ⟨h1, h2, h3, h4, h5, _⟩ := hok
  intro n hn
  simp only [five, List.mem_cons, List.not_mem_nil, or_false] at hn
  rcases hn with rfl | rfl | rfl | rfl | rfl <;> assumption)
 obtain ⟨a, cap, rfl⟩ := h.form
 obtain ⟨o1, o2, o3, o4, o5, o11, -⟩ := hok
 have HE : Hid (encR b = if Cr.good b then .tuple #[.string ⟨(Cr.enc b).toArray⟩, .int .i64 0] else .tuple #[.string ⟨#[]⟩, .int .i64 1]) := rfl
 have C0 := bat_cells w b (.slice a b.recs.length cap)
 have HB0 : Hid (Below w.heap.size w (w.alloc (.cells (batCells b (.slice a b.recs.length cap)) 28))) := (Below.refl _ _).alloc (Nat.le_refl _) _
 have HG0 := Lib.hid (fun W (hW : Below w.heap.size w W) => refgood_any b HQ.out (.slice a b.recs.length cap) W (HZ.out.kept hW))
 unfold maxLen at o11
 unfold batV batCells at *
 obtain ⟨c0, c1, c2, c3, c4, c5⟩ := C0 _ (Below.refl _ _)
 clear h
 cases hg : Cr.good b with
 | false =>
  rw [hg] at HE HG0
  go_enter Tryz.func27, Tryz.ntmps27
  go_wp2_with fail
  refine (HG0.out _ HB0.out).mono ?_
  rintro e w3 ⟨rfl, hb3⟩
  have B3 := Lib.hid (bt HB0.out hb3)
  clear hb3
  go_wp2
  go_ret2
  exact ⟨by rw [HE.out]; rfl, B3.out⟩
 | true =>
  rw [hg] at HE HG0
  have HRG := Lib.hid (Cr.good_recs hg)
  have HPA := Lib.hid (preA_len hg)
  have HPB := Lib.hid (preB_len hg)
  have HFL := Lib.hid (five_len hg)
  clear hg
  go_enter Tryz.func27, Tryz.ntmps27
  go_wp2_with fail
  refine (HG0.out _ HB0.out).mono ?_
  rintro e w3 ⟨rfl, hb3⟩
  have B3 := Lib.hid (bt HB0.out hb3)
  have C3 := Lib.hid (fun W (hW : Below w3.heap.size w3 W) => C0 W (bt hb3 hW))
  obtain ⟨c0, c1, c2, c3, c4, c5⟩ := C3.out _ (Below.refl _ _)
  clear hb3 C0
  go_wp2_with fail
  have F4 := Lib.hid (row_cells w3 ((five b).map fun n => .int .i64 n) 3)
  have B4 : Hid (Below w3.heap.size w3 (w3.alloc (.cells #[.int .i64 b.base, .int .i64 b.count, .int .i64 b.prod, .int .i64 b.seq, .int .i64 b.time] 3))) := (Below.refl _ _).alloc (Nat.le_refl _) _
  have e4 : w3.alloc (.cells ((five b).map fun n => Value.int .i64 n).toArray 3) = w3.alloc (.cells #[.int .i64 b.base, .int .i64 b.count, .int .i64 b.prod, .int .i64 b.seq, .int .i64 b.time] 3) := rfl
  rw [e4] at F4
  clear e4
  generalize w3.alloc (.cells #[.int .i64 b.base, .int .i64 b.count, .int .i64 b.prod, .int .i64 b.seq, .int .i64 b.time] 3) = w4 at *
  go_loopw [6, 5] (fun i s wr => ∃ (k : Nat) (l : List UInt8), i = .int .i64 k ∧ s = .string ⟨l.toArray⟩ ∧ k ≤ 5 ∧ l = preA b k ∧ Below w4.heap.size w4 wr) (fun i _ _ => 5 - (intOf i).toNat)
  case atStart => exact ⟨0, [108], rfl, rfl, by omega, rfl, Below.refl _ _⟩
  case round =>
   obtain ⟨k, l, rfl, rfl, hk, hl, hb⟩ := hrel
   have HLL := Lib.hid hl
   have HB := Lib.hid hb
   have hll : l.length ≤ 1 + 15 * 5 := by rw [hl]; exact HPA.out k
   have BW : Hid (Below w.heap.size w wr) := bt B3.out (bt B4.out hb)
   clear hl hb
   by_cases hlt : k < 5
   ·obtain ⟨n, hn⟩ : ∃ n, (five b)[k]? = some n := ⟨(five b)[k]'(by simpa [five] using hlt), by simp⟩
    have hc1 := F4.out _ HB.out k
    rw [List.getElem?_map, hn, Option.map_some] at hc1
    have HS := Lib.hid (preA_succ b k n hn)
    have hnm := List.mem_of_getElem? hn
    have HN := Lib.hid (refInt_any n (HI.out n hnm) wr)
    have htl := HFL.out n hnm
    generalize Bd.bInt n = t at HS HN htl
    clear hn hnm
    go_wp2_with fail
    refine HN.out.mono ?_
    rintro e w5 ⟨rfl, m, rfl⟩
    have B5 : Hid (Below w4.heap.size w4 (wr.drewN m)) := below_drewN HB.out m
    clear HN HB
    go_wp2
    go_roundw
    case rel => exact ⟨k + 1, l ++ t, by go_num, by first | rfl | simp [bs_append], by omega, by rw [HS.out, HLL.out], B5.out⟩
    case measure => simp [intOf]; omega
   ·obtain rfl : k = 5 := by omega
    have HL2 : Hid (l = preB b 0) := by rw [Hid, HLL.out, preA_five]
    obtain ⟨c0, c1, c2, c3, c4, c5⟩ := C3.out _ (bt B4.out HB.out)
    have BWL : Hid (Below w4.heap.size w4 wr) := HB.out
    clear HLL HB F4 c0 c1 c2 c3 c4 HI HPA HFL
    generalize wr = w7 at *
    rw [show ((5 : Nat) : Int) = 5 from rfl]
    go_wp2_with fail
    go_loopw [7, 5] (fun i s wr => ∃ (k : Nat) (l : List UInt8), i = .int .i64 k ∧ s = .string ⟨l.toArray⟩ ∧ k ≤ b.recs.length ∧ l = preB b k ∧ Below w7.heap.size w7 wr) (fun i _ _ => b.recs.length - (intOf i).toNat)
    case atStart => exact ⟨0, _, rfl, rfl, by omega, HL2.out, Below.refl _ _⟩
    case round =>
     obtain ⟨k, l2, rfl, rfl, hk, hl, hb⟩ := hrel
     have HLL := Lib.hid hl
     have HB := Lib.hid hb
     have hll2 : l2.length ≤ 1200 := by rw [hl]; exact HPB.out k
     have BW2 : Hid (Below w.heap.size w wr) := bt BW.out hb
     obtain ⟨c0, c1, c2, c3, c4, c5⟩ := C3.out _ (bt (bt B4.out BWL.out) hb)
     clear hl hb c0 c1 c2 c3 c4
     by_cases hlt : k < b.recs.length
     ·obtain ⟨x, hx⟩ : ∃ x, b.recs[k]? = some x := ⟨b.recs[k], by simp [hlt]⟩
      have HS := Lib.hid (preB_succ b k x hx)
      have hxm := List.mem_of_getElem? hx
      have hxg := HRG.out x hxm
      have hxr := hxg.1
      simp only [Cr.isRec, Bool.and_eq_true, decide_eq_true_eq] at hxr
      have HXL := Lib.hid (Cr.encRec_len hxg.1 hxg.2.1 hxg.2.2)
      obtain ⟨g, off, cap', he, hg, p0, p1, p2, p3⟩ := HZ.out.get BW2.out hx
      injection he with he1 he2 he3
      subst he1 he3
      have HCX := Lib.hid (rec_cells wr x)
      have HEX : Hid (Cr.encRec x = 108 :: (Bd.bInt x.off ++ (Bd.bText x.key ++ (Bd.bText x.val ++ (Bd.bInt (Cr.flag x.gone) ++ [101]))))) := rfl
      obtain ⟨x0, xk, xv, xg⟩ := x
      have hxo := HR.out _ hxm
      obtain ⟨xo, xkl, xvl⟩ := hxo
      dsimp only at *
      obtain ⟨hk16, hv64, -⟩ := hxr
      have BA : Hid (Below w7.heap.size w7 (wr.alloc (.cells #[.int .i64 x0, .string ⟨xk.toArray⟩, .string ⟨xv.toArray⟩, .bool xg] 107))) := HB.out.alloc HB.out.size _
      have I1 := Lib.hid (fun W => refInt_any x0 xo W)
      have I2 := Lib.hid (fun W => refText_any xk (by omega) W)
      have I3 := Lib.hid (fun W => refText_any xv (by omega) W)
      have htl : (108 :: (Bd.bInt x0 ++ (Bd.bText xk ++ (Bd.bText xv ++ (Bd.bInt (Cr.flag xg) ++ [101]))))).length ≤ 130 := by rw [← HEX.out]; exact HXL.out
      simp only [List.length_cons, List.length_append, List.length_nil] at htl
      have HEX2 : Hid (preB b (k + 1) = l2 ++ (108 :: (Bd.bInt x0 ++ (Bd.bText xk ++ (Bd.bText xv ++ (Bd.bInt (Cr.flag xg) ++ [101])))))) := by rw [Hid, HS.out, HEX.out, HLL.out]
      clear he2 hxm hxg HXL HEX HS HLL HCX
      cases xg with
      | true =>
       have I4 := Lib.hid (fun W => refInt_any 1 (Cr.inR_flag true) W)
       rw [show Cr.flag true = 1 from rfl] at htl HEX2
       generalize Bd.bInt x0 = t1 at *
       generalize Bd.bText xk = t2 at *
       generalize Bd.bText xv = t3 at *
       generalize Bd.bInt 1 = t4 at *
       go_wp2
       refine wp_region_quiet_lit (by kernel_rfl) (by kernel_rfl) ?_
       repeat (go_big_quiet_step (fail))
       go_big_quiet_step ((exact Calls.quiet_of (I1.out _)))
       repeat (go_big_quiet_step (fail))
       go_big_quiet_step ((exact Calls.quiet_of (I2.out _)))
       repeat (go_big_quiet_step (fail))
       go_big_quiet_step ((exact Calls.quiet_of (I3.out _)))
       repeat (go_big_quiet_step (fail))
       go_big_quiet_step ((exact Calls.quiet_of (I4.out _)))
       repeat (go_big_quiet_step (fail))
       refine wpQuiet_nil ?_
       intro _ hw'
       obtain ⟨nq, rfl⟩ := hw'
       have BQ := Lib.hid (below_drewN BA.out nq)
       clear I1 I2 I3 I4
       go_wp2
       go_roundw
       case rel => exact ⟨k + 1, _, by go_num, rfl, by omega, HEX2.out.symm, BQ.out⟩
       case measure => simp [intOf]; omega
      | false =>
       have I4 := Lib.hid (fun W => refInt_any 0 (Cr.inR_flag false) W)
       rw [show Cr.flag false = 0 from rfl] at htl HEX2
       generalize Bd.bInt x0 = t1 at *
       generalize Bd.bText xk = t2 at *
       generalize Bd.bText xv = t3 at *
       generalize Bd.bInt 0 = t4 at *
       go_wp2
       refine wp_region_quiet_lit (by kernel_rfl) (by kernel_rfl) ?_
       repeat (go_big_quiet_step (fail))
       go_big_quiet_step ((exact Calls.quiet_of (I1.out _)))
       repeat (go_big_quiet_step (fail))
       go_big_quiet_step ((exact Calls.quiet_of (I2.out _)))
       repeat (go_big_quiet_step (fail))
       go_big_quiet_step ((exact Calls.quiet_of (I3.out _)))
       repeat (go_big_quiet_step (fail))
       go_big_quiet_step ((exact Calls.quiet_of (I4.out _)))
       repeat (go_big_quiet_step (fail))
       refine wpQuiet_nil ?_
       intro _ hw'
       obtain ⟨nq, rfl⟩ := hw'
       have BQ := Lib.hid (below_drewN BA.out nq)
       clear I1 I2 I3 I4
       go_wp2
       go_roundw
       case rel => exact ⟨k + 1, _, by go_num, rfl, by omega, HEX2.out.symm, BQ.out⟩
       case measure => simp [intOf]; omega
     ·obtain rfl : k = b.recs.length := by omega
      have HFN : Hid (l2 ++ [101] = Cr.enc b) := by
       rw [Hid, HLL.out, preB, List.take_length, Cr.enc]
       simp
      go_wp2
      go_ret2
      exact ⟨by rw [HE.out, ← HFN.out]; first | rfl | simp [bs_append], BW2.out⟩
end Go.Proofs.YtjfpbeccpcbpcaaGreatDoor
