/-
  Cwe / Wk: texts of one proof, one behind the other.
  Conditions: none of its own.
-/
import Derived.Test.YtjfpbeccpcbpcaaGreatDoorZab
import Derived.Test.YtjfpbeccpcbpcaaGreatDoorZad
import Derived.Test.YtjfpbeccpcbpcaaGreatDoorZaf
import Derived.Test.YtjfpbeccpcbpcaaGreatDoorZao
import Derived.Test.YtjfpbeccpcbpcaaGreatDoorZap
import Derived.OwnWalk
import Derived.Maps.AppendAt
import Derived.Deep.RegionHeld3
import Derived.Deep.AppendLies
set_option linter.unusedVariables false
set_option linter.unusedSimpArgs false
namespace Go.Proofs.YtjfpbeccpcbpcaaGreatDoor
open Go.RowKit
theorem cinfoStr : (Tryz.prog.info? 9).map (fun i => (i.zero, i.size, i.bytes)) = some (some (.string ⟨#[]⟩), 1, 16) := by kernel_rfl
def sv (ls : List (List UInt8)) : List Value := ls.map fun l => .string ⟨l.toArray⟩
theorem strs_own {w : World} {base : Nat} {v : Value} {n : Nat} {ls : List (List UInt8)} (h : w.ownsRow base 9 1 v n (sv ls)) : Strs w v ls := by
 have hn : ls.length = n := by simpa [sv] using h.1
 subst hn
 have hh := h
 rcases h.2 with ⟨rfl, hn⟩ | ⟨g, cap, cur, rfl, hB, hg, hn, hm, hs, ht⟩
 ·exact .inl ⟨rfl, List.eq_nil_of_length_eq_zero (by simpa using hn)⟩
 ·refine .inr ⟨g, 0, cap, rfl, (Array.getElem?_eq_some_iff.1 hg).1, hn, fun j x hx => ?_⟩
  have := hh.cells (g := g) rfl j (.string ⟨x.toArray⟩) (by simp [sv, hx])
  rwa [Addr.add_mid] at this
theorem row_cells (w : World) (xs : List Value) (t : TypeId) (W : World) (hb : Below (w.alloc (.cells xs.toArray t)).heap.size (w.alloc (.cells xs.toArray t)) W) (k : Nat) : W.cell? ⟨w.heap.size, k, none⟩ = xs[k]? := by
 have e1 := (hb.block w.heap.size (by simp)).trans (heap_alloc_new w _)
 simp [World.cell?, e1]
theorem strs_row (w : World) (ls : List (List UInt8)) (W : World) (hb : Below (w.alloc (.cells (sv ls).toArray 9)).heap.size (w.alloc (.cells (sv ls).toArray 9)) W) : Strs W (.slice (some ⟨w.heap.size, 0, none⟩) ls.length ls.length) ls :=
 .inr ⟨w.heap.size, 0, ls.length, rfl, Nat.lt_of_lt_of_le (by rw [World.size_alloc]; omega) hb.size, Nat.le_refl _, fun j x hx => by
  rw [Nat.zero_add, row_cells w (sv ls) 9 W hb j]
  simp [sv, hx]⟩
def encR (b : Cr.Batch) : Value := if Cr.good b then .tuple #[.string ⟨(Cr.enc b).toArray⟩, .int .i64 0] else .tuple #[.string ⟨#[]⟩, .int .i64 1]
def five (b : Cr.Batch) : List Int := [b.base, b.count, b.prod, b.seq, b.time]
def parts (b : Cr.Batch) (k : Nat) : List (List UInt8) := (five b).map Bd.bInt ++ (b.recs.take k).map Cr.encRec
theorem flat5 (a b c d e : List UInt8) (l : List (List UInt8)) : ([a, b, c, d, e] ++ l).flatten = (a ++ (b ++ (c ++ (d ++ e)))) ++ l.flatten := by simp
theorem parts_flat (b : Cr.Batch) : (parts b b.recs.length).flatten = Cr.nums b ++ Cr.encRecs b.recs := by
 rw [parts, List.take_length]
 exact flat5 _ _ _ _ _ _
theorem parts_succ (b : Cr.Batch) (k : Nat) (x : Cr.Rec) (h : b.recs[k]? = some x) : parts b (k + 1) = parts b k ++ [Cr.encRec x] := by
 obtain ⟨hk, rfl⟩ := List.getElem?_eq_some_iff.1 h
 rw [parts, parts, List.take_succ_eq_append_getElem hk, List.map_append, List.append_assoc]
 rfl
theorem five_succ (b : Cr.Batch) (k : Nat) (n : Int) (h : (five b)[k]? = some n) : ((five b).take (k + 1)).map Bd.bInt = ((five b).take k).map Bd.bInt ++ [Bd.bInt n] := by
 obtain ⟨hk, rfl⟩ := List.getElem?_eq_some_iff.1 h
 rw [List.take_succ_eq_append_getElem hk, List.map_append]
 rfl
set_option maxRecDepth 20000 in
set_option maxHeartbeats 6400000 in
theorem encode_any (b : Cr.Batch) (hok : BatOk b) (rv : Value) (w : World) (h : Recs w rv b.recs) (hw : Lw w) :
  Calls Tryz.prog 84 #[batV b rv] w fun e w' => e = .returned (encR b) ∧ Below w.heap.size w w' := by
 have HL := Lib.hid hw
 have HZ := Lib.hid h
 have HR := Lib.hid hok.2.2.2.2.2.2
 have HQ := Lib.hid hok
 have HI := Lib.hid (show ∀ n ∈ five b, Bd.inR n from by
  obtain ⟨h1, h2, h3, h4, h5, _⟩ := hok
  intro n hn
  simp only [five, List.mem_cons, List.not_mem_nil, or_false] at hn
  rcases hn with rfl | rfl | rfl | rfl | rfl <;> assumption)
 obtain ⟨a, cap, rfl⟩ := h.form
 obtain ⟨o1, o2, o3, o4, o5, o11, -⟩ := hok
 have HE : Hid (encR b = if Cr.good b then .tuple #[.string ⟨(Cr.enc b).toArray⟩, .int .i64 0] else .tuple #[.string ⟨#[]⟩, .int .i64 1]) := rfl
 have C0 := bat_cells w b (.slice a b.recs.length cap)
 have HB0 : Hid (Below w.heap.size w (w.alloc (.cells (batCells b (.slice a b.recs.length cap)) 28))) := (Below.refl _ _).alloc (Nat.le_refl _) _
 have HG0 := Lib.hid (fun W (hW : Below w.heap.size w W) => good_any b HQ.out (.slice a b.recs.length cap) W (HZ.out.kept hW))
 unfold maxLen at o11
 unfold batV batCells at *
 obtain ⟨c0, c1, c2, c3, c4, c5⟩ := C0 _ (Below.refl _ _)
 clear h hw
 cases hg : Cr.good b with
 | false =>
  rw [hg] at HE HG0
  go_enter Tryz.func84, Tryz.ntmps84
  go_wp2_with fail
  refine (HG0.out _ HB0.out).mono ?_
  rintro e w3 ⟨rfl, hb3⟩
  have B3 := Lib.hid (bt HB0.out hb3)
  clear hb3
  go_wp2
  go_ret2
  exact ⟨by rw [HE.out]; rfl, B3.out⟩
 | true =>
  rw [hg] at HE HG0
  have HRG := Lib.hid (Cr.good_recs hg)
  have HLN := Lib.hid (Cr.enc_len hg)
  clear hg
  go_enter Tryz.func84, Tryz.ntmps84
  go_wp2_with fail
  refine (HG0.out _ HB0.out).mono ?_
  rintro e w3 ⟨rfl, hb3⟩
  have B3 := Lib.hid (bt HB0.out hb3)
  have C3 := Lib.hid (fun W (hW : Below w3.heap.size w3 W) => C0 W (bt hb3 hW))
  obtain ⟨c0, c1, c2, c3, c4, c5⟩ := C3.out _ (Below.refl _ _)
  clear hb3 C0
  go_wp2_with fail
  have F4 := Lib.hid (row_cells w3 ((five b).map fun n => .int .i64 n) 3)
  have B4 : Hid (Below w3.heap.size w3 (w3.alloc (.cells #[.int .i64 b.base, .int .i64 b.count, .int .i64 b.prod, .int .i64 b.seq, .int .i64 b.time] 3))) := (Below.refl _ _).alloc (Nat.le_refl _) _
  have e4 : w3.alloc (.cells ((five b).map fun n => Value.int .i64 n).toArray 3) = w3.alloc (.cells #[.int .i64 b.base, .int .i64 b.count, .int .i64 b.prod, .int .i64 b.seq, .int .i64 b.time] 3) := rfl
  rw [e4] at F4
  have hB3 := B3.out.size
  clear e4
  generalize w3.alloc (.cells #[.int .i64 b.base, .int .i64 b.count, .int .i64 b.prod, .int .i64 b.seq, .int .i64 b.time] 3) = w4 at *
  obtain ⟨i0, hi, hz0, hz1, hz2⟩ := info_parts cinfoStr
  go_loopw [24, 4] (fun i sv' wr => ∃ (k : Nat) (v : Value), i = .int .i64 k ∧ v = sv' ∧ k ≤ 5 ∧ wr.ownsRow w4.heap.size 9 1 v k (sv (((five b).take k).map Bd.bInt)) ∧ Below w4.heap.size w4 wr) (fun i _ _ => 5 - (intOf i).toNat)
  case atStart => exact ⟨0, _, rfl, rfl, by omega, ⟨rfl, .inl ⟨rfl, rfl⟩⟩, Below.refl _ _⟩
  case round =>
   obtain ⟨k, v, rfl, rfl, hk, hown, hb⟩ := hrel
   have HO := Lib.hid hown
   have HB := Lib.hid hb
   have hszr := hb.size
   have BW : Hid (Below w.heap.size w wr) := bt B3.out (bt B4.out hb)
   clear hown hb
   by_cases hlt : k < 5
   ·obtain ⟨n, hn⟩ : ∃ n, (five b)[k]? = some n := ⟨(five b)[k]'(by simpa [five] using hlt), by simp⟩
    have hc1 := F4.out _ HB.out k
    rw [List.getElem?_map, hn, Option.map_some] at hc1
    have HS := Lib.hid (five_succ b k n hn)
    have HN := Lib.hid (beadInt_any n (HI.out n (List.mem_of_getElem? hn)) wr (HL.out.below BW.out))
    generalize Bd.bInt n = t at HS HN
    clear hn
    go_wp2_with fail
    refine HN.out.mono ?_
    rintro e w5 ⟨rfl, hb5⟩
    have HO5 := Lib.hid (ownsRow_below HO.out hb5)
    have B5 := Lib.hid (bt HB.out hb5)
    have hsz5 := B5.out.size
    clear hb5 HN HO HB
    go_wp2_with (at_builtin; refine wpList_append_own _ rfl (.tmp 28) (.tmp 31) 51 rfl w4.heap.size 9 i0 (.string ⟨#[]⟩) 1 16 Tryz.underlying51 hi hz0 hz1 hz2 rfl (by decide) _ _ _ rfl (World.ownsRow.alloc HO5.out _) ⟨w5.heap.size, 0, none⟩ 1 1 [.string ⟨t.toArray⟩] rfl rfl (cell_one_new _ _ _) ?_ ?_ ?_ ?_ ?_)
    ·simp [Value.oneCell']
    ·unfold maxLen; omega
    ·omega
    ·simp; omega
    intro v' w6 hown6 hg6 _
    have H6 : Hid (w6.ownsRow w4.heap.size 9 1 v' (k + 1) (sv (((five b).take (k + 1)).map Bd.bInt))) := by
     rw [Hid, HS.out]
     simpa [sv] using hown6
    have B6 : Hid (Below w4.heap.size w4 w6) := (B5.out.alloc B5.out.size _).grown hg6 (by simp; omega) (fun kk hkk => (HO5.out.lt kk hkk).1)
    clear hown6 hg6
    go_wp2
    go_roundw
    case rel => exact ⟨k + 1, _, by go_num, rfl, by omega, H6.out, B6.out⟩
    case measure => simp [intOf]; omega
   ·obtain rfl : k = 5 := by omega
    have HP : Hid (wr.ownsRow w4.heap.size 9 1 v (5 + 0) (sv (parts b 0))) := by
     have e : ((five b).take 5).map Bd.bInt = parts b 0 := by simp [parts, five]
     rw [← e]
     exact HO.out
    obtain ⟨c0, c1, c2, c3, c4, c5⟩ := C3.out _ (bt B4.out HB.out)
    have BWL : Hid (Below w4.heap.size w4 wr) := HB.out
    clear HO HB F4 c0 c1 c2 c3 c4 HI
    generalize wr = w7 at *
    rw [show ((5 : Nat) : Int) = 5 from rfl]
    go_wp2_with fail
    go_loopw [37, 4] (fun i sv' wr => ∃ (k : Nat) (v : Value), i = .int .i64 k ∧ v = sv' ∧ k ≤ b.recs.length ∧ wr.ownsRow w4.heap.size 9 1 v (5 + k) (sv (parts b k)) ∧ Below w4.heap.size w4 wr) (fun i _ _ => b.recs.length - (intOf i).toNat)
    case atStart => exact ⟨0, _, rfl, rfl, by omega, HP.out, BWL.out⟩
    case round =>
     obtain ⟨k, v, rfl, rfl, hk, hown, hb⟩ := hrel
     have HO := Lib.hid hown
     have HB := Lib.hid hb
     have hszr := hb.size
     have BW : Hid (Below w.heap.size w wr) := bt B3.out (bt B4.out hb)
     clear hown hb
     by_cases hlt : k < b.recs.length
     ·obtain ⟨x, hx⟩ : ∃ x, b.recs[k]? = some x := ⟨b.recs[k], by simp [hlt]⟩
      have HS := Lib.hid (parts_succ b k x hx)
      have hxm := List.mem_of_getElem? hx
      have hxg := HRG.out x hxm
      have hxr := hxg.1
      simp only [Cr.isRec, Bool.and_eq_true, decide_eq_true_eq] at hxr
      have HXL := Lib.hid (Cr.encRec_len hxg.1 hxg.2.1 hxg.2.2)
      obtain ⟨g, off, cap', he, hg, p0, p1, p2, p3⟩ := HZ.out.get BW.out hx
      injection he with he1 he2 he3
      subst he1 he3
      have HCX := Lib.hid (rec_cells wr x)
      have HEX : Hid (Cr.encRec x = 108 :: ([Bd.bInt x.off, Bd.bText x.key, Bd.bText x.val, Bd.bInt (Cr.flag x.gone)].flatten ++ [101])) := by simp [Hid, Cr.encRec]
      obtain ⟨x0, xk, xv, xg⟩ := x
      have hxo := HR.out _ hxm
      obtain ⟨xo, xkl, xvl⟩ := hxo
      dsimp only at *
      obtain ⟨hk16, hv64, -⟩ := hxr
      have BA : Hid (Below wr.heap.size wr (wr.alloc (.cells #[.int .i64 x0, .string ⟨xk.toArray⟩, .string ⟨xv.toArray⟩, .bool xg] 107))) := (Below.refl _ _).alloc (Nat.le_refl _) _
      clear he2 hxm hxg
      go_wp2
      generalize hw8 : wr.alloc (.cells #[.int .i64 x0, .string ⟨xk.toArray⟩, .string ⟨xv.toArray⟩, .bool xg] 107) = w8 at *
      clear hw8
      have HLW : Hid (∀ W, Below w8.heap.size w8 W → Lw W) := fun W hW => HL.out.below (bt BW.out (bt BA.out hW))
      have hm0 := Lib.hid (fun W (hW : Below w8.heap.size w8 W) => HCX.out W hW)
      have J1 := Lib.hid (fun W (hW : Below w8.heap.size w8 W) => beadInt_any x0 xo W (HLW.out W hW))
      have J2 := Lib.hid (fun W (hW : Below w8.heap.size w8 W) => beadText_any xk (by omega) W (HLW.out W hW))
      have J3 := Lib.hid (fun W (hW : Below w8.heap.size w8 W) => beadText_any xv (by omega) W (HLW.out W hW))
      have J5 := Lib.hid (fun W (hW : Below w8.heap.size w8 W) => beadInt_any (Cr.flag xg) (Cr.inR_flag xg) W (HLW.out W hW))
      have hlen4 : [Bd.bInt x0, Bd.bText xk, Bd.bText xv, Bd.bInt (Cr.flag xg)].flatten.length ≤ 130 := by
       have := HXL.out
       rw [HEX.out] at this
       simp only [List.length_cons, List.length_append] at this
       omega
      generalize Bd.bInt x0 = t1 at *
      generalize Bd.bText xk = t2 at *
      generalize Bd.bText xv = t3 at *
      generalize Bd.bInt (Cr.flag xg) = t4 at *
      have J6 := Lib.hid (fun (W : World) => beadList_any _ _ _ (strs_row W [t1, t2, t3, t4] _ (Below.refl _ _)) (by simp) (by omega))
      rw [← HEX.out] at J6
      have T0 : Hid (Below w8.heap.size w8 w8.drew) := (Below.refl _ _).drew
      obtain ⟨q0, q1, q2, q3⟩ := HCX.out _ (Below.refl _ _)
      have HO8 : Hid (w8.ownsRow w4.heap.size 9 1 v (5 + k) (sv (parts b k))) := ownsRow_below HO.out BA.out
      have hs8 := (bt HB.out BA.out).size
      have hne : some wr.heap.size ≠ v.ownBlock := fun h => by have := (HO.out.lt _ h.symm).2; omega
      have hone : ∀ u ∈ [Value.string ⟨(Cr.encRec ⟨x0, xk, xv, xg⟩).toArray⟩], u.oneCell' = true := by simp [Value.oneCell']
      have hk8 : k < 8 := by have := HLN.out.2.2; omega
      have h63 : 5 + k + 1 ≤ maxLen := by unfold maxLen; omega
      have hby : (5 + k + 1) * 16 ≤ 140737488355328 := by omega
      clear p0 p1 p2 p3
      go_region_held3 (fun W => W.cell? ⟨wr.heap.size, 0, none⟩ = some (.int .i64 x0) ∧ W.cell? ⟨wr.heap.size, 1, none⟩ = some (.string ⟨xk.toArray⟩) ∧ W.cell? ⟨wr.heap.size, 2, none⟩ = some (.string ⟨xv.toArray⟩) ∧ W.cell? ⟨wr.heap.size, 3, none⟩ = some (.bool xg)) (first | assumption | exact ⟨q0, q1, q2, q3⟩ | exact S1.out | exact S2.out | exact S3.out | exact S5.out | exact hm0.out _ U5.out | exact S6.out | exact hm0.out _ U6.out | exact S7.out) (first
       | (go_at_call 83; refine (J1.out _ T0.out).mono ?_; rintro e w91 ⟨rfl, hb91⟩; have T1 := Lib.hid (bt T0.out hb91); have S1 := Lib.hid (hm0.out _ T1.out); clear hb91)
       | (go_at_call 81; refine (J2.out _ T1.out).mono ?_; rintro e w92 ⟨rfl, hb92⟩; have T2 := Lib.hid (bt T1.out hb92); have S2 := Lib.hid (hm0.out _ T2.out); clear hb92)
       | (go_at_call 81; refine (J3.out _ T2.out).mono ?_; rintro e w93 ⟨rfl, hb93⟩; have T3 := Lib.hid (bt T2.out hb93); have S3 := Lib.hid (hm0.out _ T3.out); clear hb93)
       | (go_at_call 127; refine (flag_any _ _).mono ?_; rintro e w94 ⟨rfl, rfl⟩)
       | (go_at_call 83; refine (J5.out _ T3.out).mono ?_; rintro e w95 ⟨rfl, hb95⟩; have T5 := Lib.hid (bt T3.out hb95); have S5 := Lib.hid (hm0.out _ T5.out); clear hb95; have U5 := Lib.hid (T5.out.alloc T5.out.size (.cells #[.string ⟨t1.toArray⟩, .string ⟨t2.toArray⟩, .string ⟨t3.toArray⟩, .string ⟨t4.toArray⟩] 9)))
       | (go_at_call 22; refine (J6.out _).mono ?_; rintro e w96 ⟨rfl, hb96⟩; have T6 := Lib.hid (bt U5.out hb96); have S6 := Lib.hid (hm0.out _ T6.out); clear hb96; have U6 := Lib.hid (T6.out.alloc T6.out.size (.cells #[.string ⟨(Cr.encRec ⟨x0, xk, xv, xg⟩).toArray⟩] 9)); have HO6 := Lib.hid (ownsRow_below HO8.out T6.out))
       | (refine step_append_lies _ (by rfl) _ _ _ (by rfl) w4.heap.size 9 i0 _ 1 16 Tryz.underlying51 hi hz0 hz1 hz2 rfl Nat.one_pos v (5 + k) (sv (parts b k)) (by rfl) (World.ownsRow.alloc HO6.out _) ⟨w96.heap.size, 0, none⟩ 1 1 [.string ⟨(Cr.encRec ⟨x0, xk, xv, xg⟩).toArray⟩] (by rfl) (by rfl) (cell_one_new _ _ _) hone Nat.one_pos h63 hby (Nat.le_trans hs8 U6.out.size) (w96.heap.size + 1) (World.size_alloc _ _) ?_; intro g11 cap11 w11 hown11 hg11 hat11 hlt11; have S7 := Lib.hid (And.intro (hg11.cell (hm0.out _ U6.out).1 hne) (And.intro (hg11.cell (hm0.out _ U6.out).2.1 hne) (And.intro (hg11.cell (hm0.out _ U6.out).2.2.1 hne) (hg11.cell (hm0.out _ U6.out).2.2.2 hne))))))
      have H11 : Hid (w11.ownsRow w4.heap.size 9 1 (.slice (some ⟨g11, 0, none⟩) (5 + k + 1) cap11) (5 + (k + 1)) (sv (parts b (k + 1)))) := by
       rw [Hid, HS.out]
       simpa [sv, Nat.add_assoc] using hown11
      have BC : Hid (Below w4.heap.size w4 (w96.alloc (.cells #[.string ⟨(Cr.encRec ⟨x0, xk, xv, xg⟩).toArray⟩] 9))) := bt HB.out (bt BA.out U6.out)
      have B11 : Hid (Below w4.heap.size w4 w11) := BC.out.grown hg11 BC.out.size (fun kk hkk => (HO6.out.lt kk hkk).1)
      clear hown11 hg11
      go_wp2
      go_roundw
      case rel => exact ⟨k + 1, _, by go_num, rfl, by omega, H11.out, B11.out⟩
      case measure => simp [intOf]; omega
     ·obtain rfl : k = b.recs.length := by omega
      have HSO := Lib.hid (strs_own HO.out)
      have HLN2 := HLN.out
      have HFL : Hid (108 :: ((parts b b.recs.length).flatten ++ [101]) = Cr.enc b) := by
       rw [Hid, parts_flat, Cr.enc]
       simp
      have hfl : (parts b b.recs.length).flatten.length ≤ 2000 := by
       have := congrArg List.length HFL.out
       simp only [List.length_cons, List.length_append, List.length_nil] at this
       omega
      have HLI := Lib.hid (beadList_any _ _ _ HSO.out (by simp [parts, five]; omega) (by omega))
      rw [HFL.out] at HLI
      clear HFL hfl HSO HLN2
      go_wp2_with fail
      refine HLI.out.mono ?_
      rintro e w10 ⟨rfl, hb10⟩
      have B10 := Lib.hid (bt BW.out hb10)
      clear hb10
      go_wp2
      go_ret2
      exact ⟨by rw [HE.out]; rfl, B10.out⟩
end Go.Proofs.YtjfpbeccpcbpcaaGreatDoor
namespace Go.Proofs.YtjfpbeccpcbpcaaGreatDoor
open Go.RowKit
def TabOk (t : List Wi.Seen) : Prop := t.length ≤ maxLen ∧ ∀ x ∈ t, Bd.inR x.1 ∧ x.2.length ≤ maxLen ∧ ∀ y ∈ x.2, Bd.inR y.1 ∧ Bd.inR y.2.1 ∧ Bd.inR y.2.2
theorem lenc_no (t : List Wi.Seen) (ok : TabOk t) (v : Value) (w : World) (h : Tbl w v t) (hg : Wi.tableB t = false) :
  Calls Tryz.prog 39 #[v] w fun e w' => e = .returned (.tuple #[.string ⟨#[]⟩, .int .i64 1]) ∧ Below w.heap.size w w' := by
 have HT := Lib.hid (ltab_any t ok.1 (fun x hx => ⟨(ok.2 x hx).2.1, trivial⟩) v w h)
 rw [hg] at HT
 obtain ⟨ra, rc, hrv⟩ := h.form
 subst hrv
 clear h ok hg
 go_enter Tryz.func39, Tryz.ntmps39
 go_wp2_with fail
 refine HT.out.mono ?_
 rintro e w1 ⟨rfl, hb⟩
 have HB := Lib.hid hb
 clear hb
 go_wp2
 go_ret2
 exact ⟨rfl, HB.out⟩
def rowL (p : Int) (l : List Wi.Slot) : List (List UInt8) := Bd.bInt p :: l.map Wi.encSlot
theorem rowL_succ {p : Int} {l : List Wi.Slot} {j : Nat} {y : Wi.Slot} (h : l[j]? = some y) : rowL p (l.take (j + 1)) = rowL p (l.take j) ++ [Wi.encSlot y] := by
 obtain ⟨hj, rfl⟩ := List.getElem?_eq_some_iff.1 h
 simp only [rowL, List.take_succ_eq_append_getElem hj, List.map_append, List.cons_append, List.map_cons, List.map_nil]
theorem takeL_succ {l : List Wi.Seen} {j : Nat} {y : Wi.Seen} (h : l[j]? = some y) : (l.take (j + 1)).map Wi.encSeen = (l.take j).map Wi.encSeen ++ [Wi.encSeen y] := by
 obtain ⟨hj, rfl⟩ := List.getElem?_eq_some_iff.1 h
 simp only [List.take_succ_eq_append_getElem hj, List.map_append, List.map_cons, List.map_nil]
theorem rowL_enc (x : Wi.Seen) : 108 :: ((rowL x.1 x.2).flatten ++ [101]) = Wi.encSeen x := by simp [rowL, Wi.encSeen, Wi.listB]
theorem sv_snoc (l : List (List UInt8)) (x : List UInt8) : sv (l ++ [x]) = sv l ++ [.string ⟨x.toArray⟩] := by simp [sv]
set_option maxRecDepth 20000 in
set_option maxHeartbeats 12800000 in
theorem lenc_yes (t : List Wi.Seen) (ok : TabOk t) (v : Value) (w : World) (h : Tbl w v t) (hw : Lw w) (hg : Wi.tableB t = true) :
  Calls Tryz.prog 39 #[v] w fun e w' => e = .returned (.tuple #[.string ⟨(Wi.encTable t).toArray⟩, .int .i64 0]) ∧ Below w.heap.size w w' := by
 have HT := Lib.hid (ltab_any t ok.1 (fun x hx => ⟨(ok.2 x hx).2.1, trivial⟩) v w h)
 rw [hg] at HT
 have HZ := Lib.hid h
 have HL := Lib.hid hw
 have HTL := Lib.hid (Wi.encTable_le hg)
 obtain ⟨hl64, ha⟩ := Wi.tableB_all hg
 have HA := Lib.hid ha
 obtain ⟨ra, rc, hrv⟩ := h.form
 subst hrv
 obtain ⟨i0, hi, hz0, hz1, hz2⟩ := info_parts cinfoStr
 clear h ok hg hw ha
 go_enter Tryz.func39, Tryz.ntmps39
 go_wp2_with fail
 refine HT.out.mono ?_
 rintro e w1 ⟨rfl, hb⟩
 have HB1 := Lib.hid hb
 clear hb HT
 go_wp2
 go_loopw [15, 4] (fun i sv' wr => ∃ (k : Nat) (v : Value), i = .int .i64 k ∧ v = sv' ∧ k ≤ t.length ∧ wr.ownsRow w.heap.size 9 1 v k (sv ((t.take k).map Wi.encSeen)) ∧ Below w.heap.size w wr) (fun i _ _ => t.length - (intOf i).toNat)
 case atStart => exact ⟨0, _, rfl, rfl, by omega, ⟨rfl, .inl ⟨rfl, rfl⟩⟩, HB1.out⟩
 case round =>
  obtain ⟨k, v, rfl, rfl, hk, hown, hb⟩ := hrel
  have HO := Lib.hid hown
  have BR := Lib.hid hb
  have hszr := hb.size
  clear hown hb HB1
  by_cases hlt : k < t.length
  ·obtain ⟨x, hx⟩ : ∃ x, t[k]? = some x := ⟨t[k], by simp [hlt]⟩
   have HTS := Lib.hid (takeL_succ hx)
   obtain ⟨hx1, hx5, hxs⟩ := HA.out x (List.mem_of_getElem? hx)
   have HXS := Lib.hid hxs
   have HRE := Lib.hid (rowL_enc x)
   have HXL : Hid ((Wi.encSeen x).length ≤ 252) := by
    have a := (Cr.bInt_len (n := x.1) (by omega) (by omega)).2
    have b := Wi.flat_le (e := Wi.encSlot) (k := 47) x.2 (fun y hy => Wi.encSlot_le (hxs y hy).1 (hxs y hy).2.1 (hxs y hy).2.2)
    simp only [Hid, Wi.encSeen, Wi.listB_len, List.length_append]
    omega
   obtain ⟨g, off, cap', sl, he, hg, p0, p1, hsv⟩ := HZ.out.getT BR.out hx
   injection he with he1 he2 he3
   subst he1 he3
   obtain ⟨sa, sc, hsf⟩ := hsv.form
   subst hsf
   have HSV := Lib.hid hsv
   generalize Wi.encSeen x = ex at *
   obtain ⟨x0, xs⟩ := x
   dsimp only at *
   clear he2 hx hsv hxs
   have CX : Hid (Cl (wr.alloc (.cells #[.int .i64 x0, .slice sa xs.length sc] 57)) wr.heap.size [.int .i64 x0, .slice sa xs.length sc] 57) := Cl.new wr _ _
   have BX : Hid (Below wr.heap.size wr (wr.alloc (.cells #[.int .i64 x0, .slice sa xs.length sc] 57))) := (Below.refl _ _).alloc (Nat.le_refl _) _
   go_upto_region 7 with (fail)
   generalize wr.alloc (.cells #[.int .i64 x0, .slice sa xs.length sc] 57) = wl at *
   have hlx := CX.out.lt
   have HOL := Lib.hid (ownsRow_below HO.out BX.out)
   have BL := Lib.hid (bt BR.out BX.out)
   have HSL := Lib.hid (HSV.out.kept BX.out)
   have c0 := CX.out.cell 0
   simp only [List.getElem?_cons_zero, List.getElem?_cons_succ] at c0
   generalize wr.heap.size = px at CX c0 hlx ⊢
   clear HO p0 p1 HSV BX BR
   have HN := Lib.hid (beadInt_any x0 (Wi.inR_num hx1) wl (HL.out.below BL.out))
   generalize hbx : Bd.bInt x0 = bx at HN
   go_wp2_with fail
   refine HN.out.mono ?_
   rintro e w2 ⟨rfl, hb2⟩
   have C2 := Lib.hid (CX.out.below hb2)
   have HO2 := Lib.hid (ownsRow_below HOL.out hb2)
   have B2 := Lib.hid (bt BL.out hb2)
   have HS2 := Lib.hid (HSL.out.kept hb2)
   have hs2 := hb2.size
   have hs2w := B2.out.size
   clear hb2 HN HOL BL HSL CX c0
   have R3 : Hid ((w2.alloc (.cells #[.string ⟨bx.toArray⟩] 9)).ownsRow w2.heap.size 9 1 (.slice (some ⟨w2.heap.size, 0, none⟩) 1 1) (1 + 0) (sv (rowL x0 (xs.take 0)))) := by
    refine ⟨by simp [sv, rowL], .inr ⟨w2.heap.size, 1, #[.string ⟨bx.toArray⟩], rfl, Nat.le_refl _, heap_alloc_new w2 _, by omega, by unfold maxLen; omega, by simp, ?_⟩⟩
    simp [sv, rowL, hbx]
   have B3 : Hid (Below w2.heap.size w2 (w2.alloc (.cells #[.string ⟨bx.toArray⟩] 9))) := (Below.refl _ _).alloc (Nat.le_refl _) _
   have C3 := Lib.hid (C2.out.below B3.out)
   have c1 := C3.out.cell 1
   simp only [List.getElem?_cons_zero, List.getElem?_cons_succ] at c1
   go_upto_region 8 with (fail)
   generalize hrv0 : (Value.slice (some ⟨w2.heap.size, 0, none⟩) 1 1) = rv0 at *
   clear hrv0
   generalize hw3 : w2.alloc (.cells #[.string ⟨bx.toArray⟩] 9) = w3 at *
   clear hw3 C2 C3
   go_wp2
   go_loopw [26, 7] (fun i sv' wq => ∃ (j : Nat) (v2 : Value), i = .int .i64 j ∧ v2 = sv' ∧ j ≤ xs.length ∧ wq.ownsRow w2.heap.size 9 1 v2 (1 + j) (sv (rowL x0 (xs.take j))) ∧ Below w2.heap.size w2 wq) (fun i _ _ => xs.length - (intOf i).toNat)
   case atStart => exact ⟨0, _, rfl, rfl, by omega, R3.out, B3.out⟩
   case round =>
    obtain ⟨j, v2, rfl, rfl, hj, hown2, hb2⟩ := hrel
    have HP := Lib.hid hown2
    have BQ := Lib.hid hb2
    have hszq := hb2.size
    clear hown2 hb2 R3 B3 c1
    by_cases hjl : j < xs.length
    ·obtain ⟨y, hy⟩ : ∃ y, xs[j]? = some y := ⟨xs[j], by simp [hjl]⟩
     have HRS := Lib.hid (rowL_succ (p := x0) hy)
     obtain ⟨hy0, hy1, hy2⟩ := HXS.out y (List.mem_of_getElem? hy)
     obtain ⟨g, off, cap', he, hg, p0, p1, p2⟩ := HS2.out.getS BQ.out hy
     injection he with he1 he2 he3
     subst he1 he3
     have HEX : Hid (Wi.encSlot y = 108 :: ([Bd.bInt y.1, Bd.bInt y.2.1, Bd.bInt y.2.2].flatten ++ [101])) := by simp [Hid, Wi.encSlot, Wi.listB]
     have HEL := Lib.hid (Wi.encSlot_le hy0 hy1 hy2)
     obtain ⟨y0, y1, y2⟩ := y
     dsimp only at *
     generalize Wi.encSlot (y0, y1, y2) = es at *
     clear he2 hy
     have CY : Hid (Cl (wr.alloc (.cells #[.int .i64 y0, .int .i64 y1, .int .i64 y2] 113)) wr.heap.size [.int .i64 y0, .int .i64 y1, .int .i64 y2] 113) := Cl.new wr _ _
     have BA : Hid (Below wr.heap.size wr (wr.alloc (.cells #[.int .i64 y0, .int .i64 y1, .int .i64 y2] 113))) := (Below.refl _ _).alloc (Nat.le_refl _) _
     go_upto_region 11 with (fail)
     generalize wr.alloc (.cells #[.int .i64 y0, .int .i64 y1, .int .i64 y2] 113) = w8 at *
     have HLW : Hid (∀ W, Below w8.heap.size w8 W → Lw W) := fun W hW => HL.out.below (bt B2.out (bt BQ.out (bt BA.out hW)))
     have hne : some wr.heap.size ≠ v2.ownBlock := fun h => by have := (HP.out.lt _ h.symm).2; omega
     have HO8 : Hid (w8.ownsRow w2.heap.size 9 1 v2 (1 + j) (sv (rowL x0 (xs.take j)))) := ownsRow_below HP.out BA.out
     have hs8 := (bt BQ.out BA.out).size
     have BQ8 := Lib.hid (bt BQ.out BA.out)
     generalize wr.heap.size = py at *
     have hm0 : Hid (∀ W, Below w8.heap.size w8 W → W.cell? ⟨py, 0, none⟩ = some (.int .i64 y0) ∧ W.cell? ⟨py, 1, none⟩ = some (.int .i64 y1) ∧ W.cell? ⟨py, 2, none⟩ = some (.int .i64 y2)) := fun W hW => ⟨(Cl.cell (CY.out.below hW) 0), (Cl.cell (CY.out.below hW) 1), (Cl.cell (CY.out.below hW) 2)⟩
     have J1 := Lib.hid (fun W (hW : Below w8.heap.size w8 W) => beadInt_any y0 (Wi.inR_num hy0) W (HLW.out W hW))
     have J2 := Lib.hid (fun W (hW : Below w8.heap.size w8 W) => beadInt_any y1 (Wi.inR_num hy1) W (HLW.out W hW))
     have J3 := Lib.hid (fun W (hW : Below w8.heap.size w8 W) => beadInt_any y2 (Wi.inR_num hy2) W (HLW.out W hW))
     have hlen3 : [Bd.bInt y0, Bd.bInt y1, Bd.bInt y2].flatten.length ≤ 130 := by
      have := HEL.out
      rw [HEX.out] at this
      simp only [List.length_cons, List.length_append] at this
      omega
     generalize Bd.bInt y0 = t1 at *
     generalize Bd.bInt y1 = t2 at *
     generalize Bd.bInt y2 = t3 at *
     have J6 := Lib.hid (fun (W : World) => beadList_any _ _ _ (strs_row W [t1, t2, t3] _ (Below.refl _ _)) (by simp) (by omega))
     rw [← HEX.out] at J6
     have T0 : Hid (Below w8.heap.size w8 w8.drew) := (Below.refl _ _).drew
     obtain ⟨q0, q1, q2⟩ := hm0.out _ (Below.refl _ _)
     have hone : ∀ u ∈ [Value.string ⟨es.toArray⟩], u.oneCell' = true := by simp [Value.oneCell']
     have h63 : 1 + j + 1 ≤ maxLen := by unfold maxLen; omega
     have hby : (1 + j + 1) * 16 ≤ 140737488355328 := by omega
     clear p0 p1 p2 CY BA HP
     go_region_held3 (fun W => W.cell? ⟨py, 0, none⟩ = some (.int .i64 y0) ∧ W.cell? ⟨py, 1, none⟩ = some (.int .i64 y1) ∧ W.cell? ⟨py, 2, none⟩ = some (.int .i64 y2)) (first | assumption | exact ⟨q0, q1, q2⟩ | exact S1.out | exact S2.out | exact S3.out | exact hm0.out _ U3.out | exact S6.out | exact hm0.out _ U6.out | exact S7.out) (first
      | (go_at_call 83; refine (J1.out _ T0.out).mono ?_; rintro e w91 ⟨rfl, hb91⟩; have T1 := Lib.hid (bt T0.out hb91); have S1 := Lib.hid (hm0.out _ T1.out); clear hb91)
      | (go_at_call 83; refine (J2.out _ T1.out).mono ?_; rintro e w92 ⟨rfl, hb92⟩; have T2 := Lib.hid (bt T1.out hb92); have S2 := Lib.hid (hm0.out _ T2.out); clear hb92)
      | (go_at_call 83; refine (J3.out _ T2.out).mono ?_; rintro e w93 ⟨rfl, hb93⟩; have T3 := Lib.hid (bt T2.out hb93); have S3 := Lib.hid (hm0.out _ T3.out); clear hb93; have U3 := Lib.hid (T3.out.alloc T3.out.size (.cells #[.string ⟨t1.toArray⟩, .string ⟨t2.toArray⟩, .string ⟨t3.toArray⟩] 9)))
      | (go_at_call 22; refine (J6.out _).mono ?_; rintro e w96 ⟨rfl, hb96⟩; have T6 := Lib.hid (bt U3.out hb96); have S6 := Lib.hid (hm0.out _ T6.out); clear hb96; have U6 := Lib.hid (T6.out.alloc T6.out.size (.cells #[.string ⟨es.toArray⟩] 9)); have HO6 := Lib.hid (ownsRow_below HO8.out T6.out))
      | (refine step_append_lies _ (by rfl) _ _ _ (by rfl) w2.heap.size 9 i0 _ 1 16 Tryz.underlying51 hi hz0 hz1 hz2 rfl Nat.one_pos v2 (1 + j) (sv (rowL x0 (xs.take j))) (by rfl) (World.ownsRow.alloc HO6.out _) ⟨w96.heap.size, 0, none⟩ 1 1 [.string ⟨es.toArray⟩] (by rfl) (by rfl) (cell_one_new _ _ _) hone Nat.one_pos h63 hby (Nat.le_trans hs8 U6.out.size) (w96.heap.size + 1) (World.size_alloc _ _) ?_; intro g11 cap11 w11 hown11 hg11 hat11 hlt11; have S7 := Lib.hid (And.intro (hg11.cell (hm0.out _ U6.out).1 hne) (And.intro (hg11.cell (hm0.out _ U6.out).2.1 hne) (hg11.cell (hm0.out _ U6.out).2.2 hne)))))
     have H11 : Hid (w11.ownsRow w2.heap.size 9 1 (.slice (some ⟨g11, 0, none⟩) (1 + j + 1) cap11) (1 + (j + 1)) (sv (rowL x0 (xs.take (j + 1))))) := by
      rw [Hid, HRS.out, sv_snoc]
      simpa [Nat.add_assoc] using hown11
     have BC : Hid (Below w2.heap.size w2 (w96.alloc (.cells #[.string ⟨es.toArray⟩] 9))) := bt BQ8.out U6.out
     have B11 : Hid (Below w2.heap.size w2 w11) := BC.out.grown hg11 BC.out.size (fun kk hkk => (HO6.out.lt kk hkk).1)
     clear hown11 hg11
     go_wp2
     go_roundw
     case rel => exact ⟨j + 1, _, by go_num, rfl, by omega, H11.out, B11.out⟩
     case measure => simp [intOf]; omega
    ·obtain rfl : j = xs.length := by omega
     have hpo := HP.out
     rw [List.take_length] at hpo
     have HSO := Lib.hid (strs_own hpo)
     have hxl := HXL.out
     have hfl : (rowL x0 xs).flatten.length ≤ 252 := by
      have := congrArg List.length HRE.out
      simp only [List.length_cons, List.length_append, List.length_nil] at this
      omega
     have HLI := Lib.hid (beadList_any _ _ _ HSO.out (by simp [rowL]; omega) (by omega))
     rw [HRE.out] at HLI
     have HOQ := Lib.hid (ownsRow_below HO2.out BQ.out)
     clear hpo HSO hfl hxl HP HO2
     go_wp2_with fail
     refine HLI.out.mono ?_
     rintro e w10 ⟨rfl, hb10⟩
     have HO10 := Lib.hid (ownsRow_below HOQ.out hb10)
     have B10 := Lib.hid (bt B2.out (bt BQ.out hb10))
     have hs10 := B10.out.size
     clear hb10 HLI HOQ
     go_wp2_with (at_builtin; refine wpList_append_own _ rfl (.tmp 45) (.tmp 48) 51 rfl w.heap.size 9 i0 (.string ⟨#[]⟩) 1 16 Tryz.underlying51 hi hz0 hz1 hz2 rfl (by decide) _ _ _ rfl (World.ownsRow.alloc HO10.out _) ⟨w10.heap.size, 0, none⟩ 1 1 [.string ⟨ex.toArray⟩] rfl rfl (cell_one_new _ _ _) ?_ ?_ ?_ ?_ ?_)
     ·simp [Value.oneCell']
     ·unfold maxLen; omega
     ·omega
     ·simp; omega
     intro v' w12 hown12 hg12 _
     have H12 : Hid (w12.ownsRow w.heap.size 9 1 v' (k + 1) (sv ((t.take (k + 1)).map Wi.encSeen))) := by
      rw [Hid, HTS.out, sv_snoc, List.map_take]
      exact hown12
     have B12 : Hid (Below w.heap.size w w12) := (B10.out.alloc B10.out.size _).grown hg12 (by simp; omega) (fun kk hkk => (HO10.out.lt kk hkk).1)
     clear hown12 hg12
     go_wp2
     go_roundw
     case rel => exact ⟨k + 1, _, by go_num, rfl, by omega, H12.out, B12.out⟩
     case measure => simp [intOf]; omega
  ·obtain rfl : k = t.length := by omega
   have ho := HO.out
   rw [List.take_length] at ho
   have HSO := Lib.hid (strs_own ho)
   have htl := HTL.out
   have HEE : Hid (108 :: ((t.map Wi.encSeen).flatten ++ [101]) = Wi.encTable t) := by simp [Hid, Wi.encTable, Wi.listB]
   have hfl : (t.map Wi.encSeen).flatten.length ≤ 16130 := by
    have := congrArg List.length HEE.out
    simp only [List.length_cons, List.length_append, List.length_nil] at this
    omega
   have HLI := Lib.hid (beadList_any _ _ _ HSO.out (by simp; omega) (by omega))
   rw [HEE.out] at HLI
   clear ho HSO hfl htl HEE
   go_wp2_with fail
   refine HLI.out.mono ?_
   rintro e w10 ⟨rfl, hb10⟩
   have B10 := Lib.hid (bt BR.out hb10)
   clear hb10
   go_wp2
   go_ret2
   exact ⟨rfl, B10.out⟩
end Go.Proofs.YtjfpbeccpcbpcaaGreatDoor
