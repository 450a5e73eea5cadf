/-
  Wl / Wf / Wf10: texts of one proof, one behind the other.
  Conditions: none of its own.
-/
import Derived.Test.YtjfpbeccpcbpcaaGreatDoorZak
import Derived.Test.YtjfpbeccpcbpcaaGreatDoorZaq
import Derived.Test.YtjfpbeccpcbpcaaGreatDoorZau
import Derived.Test.YtjfpbeccpcbpcaaGreatDoorZav
set_option linter.unusedVariables false
set_option linter.unusedSimpArgs false
namespace Go.Proofs.YtjfpbeccpcbpcaaGreatDoor
open Go.RowKit
theorem wflag_any (b : Bool) (w : World) : Calls Tryz.prog 126 #[.bool b] w fun e w' => e = .returned (.int .i64 (Cr.flag b)) ∧ w = w' := by
 cases b <;>
 ·go_enter Tryz.func126, Tryz.ntmps126
  go_wp2
  go_ret
  exact ⟨rfl, rfl⟩
theorem cells_new (w : World) (ls : List (List UInt8)) (t : TypeId) : ∀ j u, (sv ls)[j]? = some u → (w.alloc (.cells (sv ls).toArray t)).cell? ((⟨w.heap.size, 0, none⟩ : Addr).add j) = some u := fun j u hu => by
 rw [Addr.add_mid, Nat.zero_add, row_cells w (sv ls) t _ (Below.refl _ _) j]
 exact hu
def recL (l : List Cr.Rec) : List (List UInt8) := l.flatMap fun x => [Bd.bInt x.off, Bd.bText x.key, Bd.bText x.val, Bd.bInt (Cr.flag x.gone)]
theorem recL_succ {l : List Cr.Rec} {k : Nat} {x : Cr.Rec} (h : l[k]? = some x) : recL (l.take (k + 1)) = recL (l.take k) ++ [Bd.bInt x.off, Bd.bText x.key, Bd.bText x.val, Bd.bInt (Cr.flag x.gone)] := by
 obtain ⟨hk, rfl⟩ := List.getElem?_eq_some_iff.1 h
 simp only [recL, List.take_succ_eq_append_getElem hk, List.flatMap_append, List.flatMap_cons, List.flatMap_nil, List.append_nil]
theorem recL_len (l : List Cr.Rec) : (recL l).length = l.length * 4 := by
 induction l with
 | nil => rfl
 | cons x r ih => simp only [recL, List.flatMap_cons, List.length_append, List.length_cons, List.length_nil] at ih ⊢; omega
theorem recL_enc (l : List Cr.Rec) : 108 :: ((recL l).flatten ++ [101]) = Wi.encRecs l := by
 have : (recL l).flatten = (l.map Wi.encRec).flatten := by
  induction l with
  | nil => rfl
  | cons x r ih =>
   simp only [recL, List.flatMap_cons, List.flatten_append, List.map_cons, List.flatten_cons] at ih ⊢
   rw [ih]
   simp [Wi.encRec]
 rw [this]
 rfl
set_option maxRecDepth 20000 in
set_option maxHeartbeats 12800000 in
theorem wrecs_any (l : List Cr.Rec) (hl : l.length ≤ 16) (hok : ∀ x ∈ l, Cr.isRec x = true ∧ 0 ≤ x.off ∧ x.off ≤ 1099511627776) (rv : Value) (w : World) (h : Recs w rv l) (hw : Lw w) :
  Calls Tryz.prog 82 #[rv] w fun e w' => e = .returned (.string ⟨(Wi.encRecs l).toArray⟩) ∧ Below w.heap.size w w' := by
 have HL := Lib.hid hw
 have HZ := Lib.hid h
 have HR := Lib.hid hok
 have HXL : Hid ((Wi.encRecs l).length ≤ 2082) := by
  have := Wi.flat_le (e := Wi.encRec) (k := 130) l (fun x hx => Wi.encRec_le (hok x hx).1 (hok x hx).2.1 (hok x hx).2.2)
  simp only [Hid, Wi.encRecs, Wi.listB_len]
  omega
 have HRE := Lib.hid (recL_enc l)
 obtain ⟨a, cap, rfl⟩ := h.form
 obtain ⟨i0, hi, hz0, hz1, hz2⟩ := info_parts cinfoStr
 generalize Wi.encRecs l = er at *
 clear h hw hok
 go_enter Tryz.func82, Tryz.ntmps82
 go_wp2
 go_loopw [8, 3] (fun i sv' wr => ∃ (k : Nat) (v : Value), i = .int .i64 k ∧ v = sv' ∧ k ≤ l.length ∧ wr.ownsRow w.heap.size 9 1 v (k * 4) (sv (recL (l.take k))) ∧ Below w.heap.size w wr) (fun i _ _ => l.length - (intOf i).toNat)
 case atStart => exact ⟨0, _, rfl, rfl, by omega, ⟨rfl, .inl ⟨rfl, rfl⟩⟩, Below.refl _ _⟩
 case round =>
  obtain ⟨k, v, rfl, rfl, hk, hown, hb⟩ := hrel
  have HO := Lib.hid hown
  have BR := Lib.hid hb
  have hszr := hb.size
  clear hown hb
  by_cases hlt : k < l.length
  ·obtain ⟨x, hx⟩ : ∃ x, l[k]? = some x := ⟨l[k], by simp [hlt]⟩
   have HS := Lib.hid (recL_succ hx)
   obtain ⟨hxr, hx0, hx1⟩ := HR.out x (List.mem_of_getElem? hx)
   simp only [Cr.isRec, Bool.and_eq_true, decide_eq_true_eq] at hxr
   obtain ⟨g, off, cap', he, hg, p0, p1, p2, p3⟩ := HZ.out.get BR.out hx
   injection he with he1 he2 he3
   subst he1 he3
   obtain ⟨x0, xk, xv, xg⟩ := x
   dsimp only at *
   obtain ⟨hk16, hv64, -⟩ := hxr
   have HR0 : Hid (Bd.inR x0) := Wi.inR_num ⟨hx0, hx1⟩
   clear he2 hx
   have CX : Hid (Cl (wr.alloc (.cells #[.int .i64 x0, .string ⟨xk.toArray⟩, .string ⟨xv.toArray⟩, .bool xg] 107)) wr.heap.size [.int .i64 x0, .string ⟨xk.toArray⟩, .string ⟨xv.toArray⟩, .bool xg] 107) := Cl.new wr _ _
   have BA : Hid (Below wr.heap.size wr (wr.alloc (.cells #[.int .i64 x0, .string ⟨xk.toArray⟩, .string ⟨xv.toArray⟩, .bool xg] 107))) := (Below.refl _ _).alloc (Nat.le_refl _) _
   go_upto_region 5 with (fail)
   generalize wr.alloc (.cells #[.int .i64 x0, .string ⟨xk.toArray⟩, .string ⟨xv.toArray⟩, .bool xg] 107) = w8 at *
   have HLW : Hid (∀ W, Below w8.heap.size w8 W → Lw W) := fun W hW => HL.out.below (bt BR.out (bt BA.out hW))
   have hne : some wr.heap.size ≠ v.ownBlock := fun h => by have := (HO.out.lt _ h.symm).2; omega
   have HO8 := Lib.hid (ownsRow_below HO.out BA.out)
   have BR8 := Lib.hid (bt BR.out BA.out)
   have hs8 := BR8.out.size
   generalize wr.heap.size = px at *
   have hm0 : Hid (∀ W, Below w8.heap.size w8 W → W.cell? ⟨px, 0, none⟩ = some (.int .i64 x0) ∧ W.cell? ⟨px, 1, none⟩ = some (.string ⟨xk.toArray⟩) ∧ W.cell? ⟨px, 2, none⟩ = some (.string ⟨xv.toArray⟩) ∧ W.cell? ⟨px, 3, none⟩ = some (.bool xg)) :=
    fun W hW => ⟨(Cl.cell (CX.out.below hW) 0), (Cl.cell (CX.out.below hW) 1), (Cl.cell (CX.out.below hW) 2), (Cl.cell (CX.out.below hW) 3)⟩
   have J1 := Lib.hid (fun W (hW : Below w8.heap.size w8 W) => beadInt_any x0 HR0.out W (HLW.out W hW))
   have J2 := Lib.hid (fun W (hW : Below w8.heap.size w8 W) => beadText_any xk (by omega) W (HLW.out W hW))
   have J3 := Lib.hid (fun W (hW : Below w8.heap.size w8 W) => beadText_any xv (by omega) W (HLW.out W hW))
   have J5 := Lib.hid (fun W (hW : Below w8.heap.size w8 W) => beadInt_any (Cr.flag xg) (Cr.inR_flag xg) W (HLW.out W hW))
   generalize Bd.bInt x0 = t1 at *
   generalize Bd.bText xk = t2 at *
   generalize Bd.bText xv = t3 at *
   generalize Bd.bInt (Cr.flag xg) = t4 at *
   have T0 : Hid (Below w8.heap.size w8 w8.drew) := (Below.refl _ _).drew
   obtain ⟨q0, q1, q2, q3⟩ := hm0.out _ (Below.refl _ _)
   have hone : ∀ u ∈ [Value.string ⟨t1.toArray⟩, .string ⟨t2.toArray⟩, .string ⟨t3.toArray⟩, .string ⟨t4.toArray⟩], u.oneCell' = true := by simp [Value.oneCell']
   have h63 : k * 4 + 4 ≤ maxLen := by unfold maxLen; omega
   have hby : (k * 4 + 4) * 16 ≤ 140737488355328 := by omega
   clear p0 p1 p2 p3 CX BA HO HR0
   go_region_held3 (fun W => W.cell? ⟨px, 0, none⟩ = some (.int .i64 x0) ∧ W.cell? ⟨px, 1, none⟩ = some (.string ⟨xk.toArray⟩) ∧ W.cell? ⟨px, 2, none⟩ = some (.string ⟨xv.toArray⟩) ∧ W.cell? ⟨px, 3, none⟩ = some (.bool xg)) (first | assumption | exact ⟨q0, q1, q2, q3⟩ | exact S1.out | exact S2.out | exact S3.out | exact S5.out | exact hm0.out _ U5.out | exact S7.out) (first
    | (go_at_call 83; refine (J1.out _ T0.out).mono ?_; rintro e w91 ⟨rfl, hb91⟩; have T1 := Lib.hid (bt T0.out hb91); have S1 := Lib.hid (hm0.out _ T1.out); clear hb91)
    | (go_at_call 81; refine (J2.out _ T1.out).mono ?_; rintro e w92 ⟨rfl, hb92⟩; have T2 := Lib.hid (bt T1.out hb92); have S2 := Lib.hid (hm0.out _ T2.out); clear hb92)
    | (go_at_call 81; refine (J3.out _ T2.out).mono ?_; rintro e w93 ⟨rfl, hb93⟩; have T3 := Lib.hid (bt T2.out hb93); have S3 := Lib.hid (hm0.out _ T3.out); clear hb93)
    | (go_at_call 126; refine (wflag_any _ _).mono ?_; rintro e w94 ⟨rfl, rfl⟩)
    | (go_at_call 83; refine (J5.out _ T3.out).mono ?_; rintro e w95 ⟨rfl, hb95⟩; have T5 := Lib.hid (bt T3.out hb95); have S5 := Lib.hid (hm0.out _ T5.out); clear hb95; have U5 := Lib.hid (T5.out.alloc T5.out.size (.cells #[.string ⟨t1.toArray⟩, .string ⟨t2.toArray⟩, .string ⟨t3.toArray⟩, .string ⟨t4.toArray⟩] 9)); have HO5 := Lib.hid (ownsRow_below HO8.out T5.out))
    | (refine step_append_lies _ (by rfl) _ _ _ (by rfl) w.heap.size 9 i0 _ 1 16 Tryz.underlying51 hi hz0 hz1 hz2 rfl Nat.one_pos v (k * 4) (sv (recL (l.take k))) (by rfl) (World.ownsRow.alloc HO5.out _) ⟨w95.heap.size, 0, none⟩ 4 4 [.string ⟨t1.toArray⟩, .string ⟨t2.toArray⟩, .string ⟨t3.toArray⟩, .string ⟨t4.toArray⟩] (by rfl) (by rfl) (cells_new _ [t1, t2, t3, t4] _) hone (by decide) h63 hby (Nat.le_trans hs8 U5.out.size) (w95.heap.size + 1) (World.size_alloc _ _) ?_; intro g11 cap11 w11 hown11 hg11 hat11 hlt11; have S7 := Lib.hid (And.intro (hg11.cell (hm0.out _ U5.out).1 hne) (And.intro (hg11.cell (hm0.out _ U5.out).2.1 hne) (And.intro (hg11.cell (hm0.out _ U5.out).2.2.1 hne) (hg11.cell (hm0.out _ U5.out).2.2.2 hne))))))
   have H11 : Hid (w11.ownsRow w.heap.size 9 1 (.slice (some ⟨g11, 0, none⟩) (k * 4 + 4) cap11) ((k + 1) * 4) (sv (recL (l.take (k + 1))))) := by
    rw [Hid, HS.out, sv_append, show (k + 1) * 4 = k * 4 + 4 by omega]
    exact hown11
   have BC : Hid (Below w.heap.size w (w95.alloc (.cells #[.string ⟨t1.toArray⟩, .string ⟨t2.toArray⟩, .string ⟨t3.toArray⟩, .string ⟨t4.toArray⟩] 9))) := bt BR8.out U5.out
   have B11 : Hid (Below w.heap.size w w11) := BC.out.grown hg11 BC.out.size (fun kk hkk => (HO5.out.lt kk hkk).1)
   clear hown11 hg11
   go_wp2
   go_roundw
   case rel => exact ⟨k + 1, _, by go_num, rfl, by omega, H11.out, B11.out⟩
   case measure => simp [intOf]; omega
  ·obtain rfl : k = l.length := by omega
   have ho := HO.out
   rw [List.take_length] at ho
   have HSO := Lib.hid (strs_own ho)
   have htl := HXL.out
   have hfl : (recL l).flatten.length ≤ 2082 := by
    have := congrArg List.length HRE.out
    simp only [List.length_cons, List.length_append, List.length_nil] at this
    omega
   have HLI := Lib.hid (beadList_any _ _ _ HSO.out (by rw [recL_len]; omega) (by omega))
   rw [HRE.out] at HLI
   clear ho HSO hfl htl
   go_wp2_with fail
   refine HLI.out.mono ?_
   rintro e w10 ⟨rfl, hb10⟩
   have B10 := Lib.hid (bt BR.out hb10)
   clear hb10
   go_wp2
   go_ret
   exact ⟨rfl, B10.out⟩
end Go.Proofs.YtjfpbeccpcbpcaaGreatDoor
namespace Go.Proofs.YtjfpbeccpcbpcaaGreatDoor
open Go.RowKit
theorem own_slice {w : World} {b : Nat} {e : TypeId} {v : Value} {n : Nat} {xs : List Value} (h : w.ownsRow b e 1 v n xs) (hn : 0 < n) :
  ∃ g cap, v = .slice (some ⟨g, 0, none⟩) n cap ∧ ∀ j u, xs[j]? = some u → w.cell? ((⟨g, 0, none⟩ : Addr).add j) = some u := by
 have hh := h
 rcases h.2 with ⟨_, rfl⟩ | ⟨g, cap, cur, rfl, _⟩
 ·omega
 ·exact ⟨g, cap, rfl, hh.cells (g := g) rfl⟩
theorem ints8_cl {W : World} {z0 : Nat} {a b c d e f g h : Int} {t : TypeId} (C : Cl W z0 [.int .i64 a, .int .i64 b, .int .i64 c, .int .i64 d, .int .i64 e, .int .i64 f, .int .i64 g, .int .i64 h] t) : Ints W (.slice (some ⟨z0, 0, none⟩) 8 8) [a, b, c, d, e, f, g, h] := by
 refine ⟨_, 8, rfl, fun i hi => ⟨z0, 0, rfl, C.lt, ?_⟩⟩
 rw [Nat.zero_add, Cl.cell C i]
 rcases (show i = 0 ∨ i = 1 ∨ i = 2 ∨ i = 3 ∨ i = 4 ∨ i = 5 ∨ i = 6 ∨ i = 7 by simp at hi; omega) with rfl | rfl | rfl | rfl | rfl | rfl | rfl | rfl <;> rfl
theorem ints6_cl {W : World} {g : Nat} {a b c d e f : Int} {t : TypeId} (C : Cl W g [.int .i64 a, .int .i64 b, .int .i64 c, .int .i64 d, .int .i64 e, .int .i64 f] t) : Ints W (.slice (some ⟨g, 0, none⟩) 6 6) [a, b, c, d, e, f] := by
 refine ⟨_, 6, rfl, fun i hi => ⟨g, 0, rfl, C.lt, ?_⟩⟩
 rw [Nat.zero_add, Cl.cell C i]
 rcases (show i = 0 ∨ i = 1 ∨ i = 2 ∨ i = 3 ∨ i = 4 ∨ i = 5 by simp at hi; omega) with rfl | rfl | rfl | rfl | rfl | rfl <;> rfl
theorem own_ne {w : World} {b : Nat} {e t : TypeId} {size : Nat} {v : Value} {n : Nat} {xs cs : List Value} {g : Nat} (h : w.ownsRow b e size v n xs) (C : Cl w g cs t) (hne : t ≠ e) : some g ≠ v.ownBlock := by
 rcases h.2 with ⟨rfl, _⟩ | ⟨g', cap, cur, rfl, _, hg, _⟩
 ·simp [Value.ownBlock]
 ·intro he
  simp only [Value.ownBlock, Option.some.injEq] at he
  subst he
  unfold Cl at C
  rw [C] at hg
  injection hg with hg
  injection hg with _ h2
  exact hne h2
theorem ints_flat {l : List Int} (hl : l.length ≤ 100000) (hr : ∀ x ∈ l, Bd.inR x) : ((l.map Bd.bInt).flatten).length ≤ 140737488355328 := by
 have := Wi.flat_le (e := Bd.bInt) (k := 23) l (fun x hx => by
  have := Lib.itoa_length_le x (hr x hx).1 (hr x hx).2
  simp only [Bd.bInt, List.length_cons, List.length_append, List.length_nil]
  omega)
 omega
def iv (l : List Int) : List Value := l.map fun n => .int .i64 n
theorem cinfoInt : (Tryz.prog.info? 3).map (fun i => (i.zero, i.size, i.bytes)) = some (some (.int .i64 0), 1, 8) := by kernel_rfl
theorem iv_append (a b : List Int) : iv (a ++ b) = iv a ++ iv b := by simp [iv]
theorem ints_own {w : World} {b : Nat} {e : TypeId} {v : Value} {n : Nat} {l : List Int} (h : w.ownsRow b e 1 v n (iv l)) : Ints w v l := by
 have hn : l.length = n := by simpa [iv] using h.1
 subst hn
 have hh := h
 rcases h.2 with ⟨rfl, hn⟩ | ⟨g, cap, cur, rfl, hB, hg, hn, hm, hs, ht⟩
 ·have e : l = [] := List.eq_nil_of_length_eq_zero (by simpa using hn)
  subst e
  exact ⟨none, 0, rfl, fun i hi => by simp at hi⟩
 ·refine ⟨_, cap, rfl, fun i hi => ⟨g, 0, rfl, (Array.getElem?_eq_some_iff.1 hg).1, ?_⟩⟩
  have := hh.cells (g := g) rfl i (.int .i64 (l.getD i 0)) (by simp [iv, hi])
  rwa [Addr.add_mid] at this
theorem icells_new (w : World) (l : List Int) (t : TypeId) : ∀ j u, (iv l)[j]? = some u → (w.alloc (.cells (iv l).toArray t)).cell? ((⟨w.heap.size, 0, none⟩ : Addr).add j) = some u := fun j u hu => by
 rw [Addr.add_mid, Nat.zero_add, row_cells w (iv l) t _ (Below.refl _ _) j]
 exact hu
theorem flatLives_succ {l : List (Int × Int)} {k : Nat} {x : Int × Int} (h : l[k]? = some x) : Wi.flatLives (l.take (k + 1)) = Wi.flatLives (l.take k) ++ [x.1, x.2] := by
 obtain ⟨hk, rfl⟩ := List.getElem?_eq_some_iff.1 h
 rw [Wi.flatLives, Wi.flatLives, List.take_succ_eq_append_getElem hk, List.flatMap_append]
 simp
theorem flatLives_len (l : List (Int × Int)) : (Wi.flatLives l).length = l.length * 2 := by
 induction l with
 | nil => rfl
 | cons a l ih => simp only [Wi.flatLives, List.flatMap_cons, List.length_append, List.length_cons, List.length_nil] at ih ⊢; omega
end Go.Proofs.YtjfpbeccpcbpcaaGreatDoor
namespace Go.Proofs.YtjfpbeccpcbpcaaGreatDoor
open Go.RowKit
set_option maxRecDepth 20000 in
set_option maxHeartbeats 6400000 in
theorem wfields_k1 (m : Wi.Msg) (v : MsgV) (w : World) (h : MsgAt w m v) (ok : MsgOk m) (hk : m.kind = 1) (hg : Wi.good m = true) (hw : Lw w) :
  Calls Tryz.prog 23 #[msgV m v] w (WStrs w (Wi.fieldsL m)) := by
 have HW := Lib.hid hw
 have HM := Lib.hid h
 have HO := Lib.hid ok
 have hn := ok.n
 simp only [List.mem_cons, List.not_mem_nil, or_false, forall_eq_or_imp, forall_eq] at hn
 obtain ⟨n0, n1, n2, n3, n4, n5, n6, n7, n8, n9, q0, q1, q2, q3, q4, q5, q6, q7, r0, r1, r2, r3, r4, r5⟩ := hn
 obtain ⟨i0, hi, hz0, hz1, hz2⟩ := info_parts cinfoStr
 obtain ⟨s0, c0, hh0⟩ := h.chain.form
 obtain ⟨s1, c1, hh1⟩ := h.lives.form
 obtain ⟨s2, c2, hh2⟩ := h.brecs.form
 obtain ⟨s3, c3, hh3⟩ := h.table.form
 obtain ⟨s4, c4, hh4⟩ := h.qrecs.form
 obtain ⟨s5, c5, hh5⟩ := h.parts.form
 obtain ⟨s6, c6, hh6⟩ := h.arecs.form
 obtain ⟨v0, v1, v2, v3, v4, v5, v6⟩ := v
 dsimp only at hh0 hh1 hh2 hh3 hh4 hh5 hh6
 subst hh0 hh1 hh2 hh3 hh4 hh5 hh6
 obtain ⟨x_kind, x_frm, x_to, x_part, x_ep, x_off, x_high, x_life, x_pep, x_chain, x_learner, x_lives, x_batch, x_table, x_req, x_resp⟩ := m
 dsimp only at *
 subst hk
 have hrq := Wi.reqB_parts (q := x_req) (by have := hg; simp [Wi.good, Wi.lastB] at this; exact this.2)
 obtain ⟨_, _, _, _, _, _, _, _, hgr, hme, hrl, hrr⟩ := hrq
 have HL1 : Hid (x_req.group.length ≤ 140737488355328) := by rw [Hid]; omega
 have HL2 : Hid (x_req.member.length ≤ 140737488355328) := by rw [Hid]; omega
 have HL3 : Hid (x_req.recs.length ≤ 16) := by rw [Hid]; omega
 have HL4 : Hid (∀ x ∈ x_req.recs, Cr.isRec x = true ∧ 0 ≤ x.off ∧ x.off ≤ 1099511627776) := fun x hx => ⟨(hrr x hx).2, by have := (hrr x hx).1; omega, by have := (hrr x hx).1; omega⟩
 clear hgr hme hrl hrr
 clear h ok hw hg
 have HFM : Hid (Wi.fieldsL ⟨1, x_frm, x_to, x_part, x_ep, x_off, x_high, x_life, x_pep, x_chain, x_learner, x_lives, x_batch, x_table, x_req, x_resp⟩ = [1, x_frm, x_to].map Bd.bInt ++ [x_req.client, x_req.n, x_req.kind, x_req.part, x_req.seq, x_req.off, x_req.max, x_req.gen].map Bd.bInt ++ [Bd.bText x_req.group, Bd.bText x_req.member, Wi.encRecs x_req.recs]) := by rw [Hid]; simp [Wi.fieldsL, Wi.headL, Wi.tailL, Wi.reqNumsL, Wi.respNumsL]
 unfold msgV msgC
 dsimp only
 go_enter Tryz.func23, Tryz.ntmps23
 obtain ⟨w1, hw1, CA, B1⟩ := oneBox (w := w) (.int .i64 1 :: .int .i64 x_frm :: .int .i64 x_to :: .int .i64 x_part :: .int .i64 x_ep :: .int .i64 x_off :: .int .i64 x_high :: .int .i64 x_life :: .int .i64 x_pep :: .slice s0 x_chain.length c0 :: .int .i64 x_learner :: .slice s1 x_lives.length c1 :: .int .i64 x_batch.base :: .int .i64 x_batch.count :: .int .i64 x_batch.prod :: .int .i64 x_batch.seq :: .int .i64 x_batch.time :: .slice s2 x_batch.recs.length c2 :: .slice s3 x_table.length c3 :: .int .i64 x_req.client :: .int .i64 x_req.n :: .int .i64 x_req.kind :: .int .i64 x_req.part :: .int .i64 x_req.seq :: .int .i64 x_req.off :: .int .i64 x_req.max :: .int .i64 x_req.gen :: .string ⟨x_req.group.toArray⟩ :: .string ⟨x_req.member.toArray⟩ :: .slice s4 x_req.recs.length c4 :: .int .i64 x_resp.client :: .int .i64 x_resp.n :: .int .i64 x_resp.code :: .int .i64 x_resp.off :: .int .i64 x_resp.high :: .int .i64 x_resp.gen :: .slice s5 x_resp.parts.length c5 :: .slice s6 x_resp.recs.length c6 :: []) 36
 have HW1 := Lib.hid hw1
 clear hw1
 go_upto_region 1 with (fail)
 first | rw [HW1.out] | skip
 clear HW1
 have hpa := CA.out.lt
 have HI : Hid (∀ W, Below w1.heap.size w1 W → w1.heap.size ≤ W.heap.size) := fun W h => h.size
 have BW : Hid (∀ W, Below w1.heap.size w1 W → Below w.heap.size w W) := fun W h => bt B1.out h
 have LW1 := Lib.hid (HW.out.below B1.out)
 have HSW : Hid (w.heap.size ≤ w1.heap.size) := B1.out.size
 have B0 : Hid (Below w1.heap.size w1 w1) := Below.refl _ _
 obtain ⟨pa, hpa2⟩ : ∃ pa, pa = w.heap.size := ⟨_, rfl⟩
 rw [← hpa2] at CA ⊢
 have HPA := Lib.hid hpa2
 clear hpa2 hpa
 have CX := Lib.hid (CA.out.below B0.out)
 have a0 := CX.out.cell 0
 have a1 := CX.out.cell 1
 have a2 := CX.out.cell 2
 simp only [List.getElem?_cons_zero, List.getElem?_cons_succ] at a0 a1 a2
 have C1 : Hid (Cl (w1.alloc (.cells #[.int .i64 1, .int .i64 x_frm, .int .i64 x_to] 3)) w1.heap.size [.int .i64 1, .int .i64 x_frm, .int .i64 x_to] 3) := Cl.new w1 _ _
 have D1 : Hid (Below w1.heap.size w1 (w1.alloc (.cells #[.int .i64 1, .int .i64 x_frm, .int .i64 x_to] 3))) := (Below.refl _ _).alloc (Nat.le_refl _) _
 have HC1 := Lib.hid (wints_any [1, x_frm, x_to] (by simp) (by simp only [List.mem_cons, List.not_mem_nil, or_false, forall_eq_or_imp, forall_eq]; exact ⟨n0, n1, n2⟩) _ _ (ints3_cl C1.out) (LW1.out.below (bt B0.out D1.out)))
 go_wp2_with fail
 refine HC1.out.mono ?_
 rintro e w11 ⟨v11, rfl, ho1, hb1⟩
 have B10 := Lib.hid (bt D1.out hb1)
 have B1 := Lib.hid (bt B0.out B10.out)
 have hs1 := HI.out _ B1.out
 have HR1 := Lib.hid (ownsRow_weaken ho1 (show w1.heap.size ≤ (w1.alloc (.cells #[.int .i64 1, .int .i64 x_frm, .int .i64 x_to] 3)).heap.size by have := HI.out _ (bt B0.out D1.out); exact this))
 clear hb1 ho1 HC1 C1 D1
 clear CX a0 a1 a2
 have kx := (CA.out.below B1.out).cell 0
 simp only [List.getElem?_cons_zero, List.getElem?_cons_succ] at kx
 have CX := Lib.hid (CA.out.below B1.out)
 have a19 := CX.out.cell 19
 have a20 := CX.out.cell 20
 have a21 := CX.out.cell 21
 have a22 := CX.out.cell 22
 have a23 := CX.out.cell 23
 have a24 := CX.out.cell 24
 have a25 := CX.out.cell 25
 have a26 := CX.out.cell 26
 have a27 := CX.out.cell 27
 have a28 := CX.out.cell 28
 have a29 := CX.out.cell 29
 simp only [List.getElem?_cons_zero, List.getElem?_cons_succ] at a19 a20 a21 a22 a23 a24 a25 a26 a27 a28 a29
 have CQ : Hid (Cl (w11.alloc (.cells #[.int .i64 x_req.client, .int .i64 x_req.n, .int .i64 x_req.kind, .int .i64 x_req.part, .int .i64 x_req.seq, .int .i64 x_req.off, .int .i64 x_req.max, .int .i64 x_req.gen, .string ⟨x_req.group.toArray⟩, .string ⟨x_req.member.toArray⟩, .slice s4 x_req.recs.length c4] 31)) w11.heap.size [.int .i64 x_req.client, .int .i64 x_req.n, .int .i64 x_req.kind, .int .i64 x_req.part, .int .i64 x_req.seq, .int .i64 x_req.off, .int .i64 x_req.max, .int .i64 x_req.gen, .string ⟨x_req.group.toArray⟩, .string ⟨x_req.member.toArray⟩, .slice s4 x_req.recs.length c4] 31) := Cl.new w11 _ _
 have BQ : Hid (Below w11.heap.size w11 (w11.alloc (.cells #[.int .i64 x_req.client, .int .i64 x_req.n, .int .i64 x_req.kind, .int .i64 x_req.part, .int .i64 x_req.seq, .int .i64 x_req.off, .int .i64 x_req.max, .int .i64 x_req.gen, .string ⟨x_req.group.toArray⟩, .string ⟨x_req.member.toArray⟩, .slice s4 x_req.recs.length c4] 31))) := (Below.refl _ _).alloc (Nat.le_refl _) _
 go_upto_region 8 with (fail)
 generalize (w11.alloc (.cells #[.int .i64 x_req.client, .int .i64 x_req.n, .int .i64 x_req.kind, .int .i64 x_req.part, .int .i64 x_req.seq, .int .i64 x_req.off, .int .i64 x_req.max, .int .i64 x_req.gen, .string ⟨x_req.group.toArray⟩, .string ⟨x_req.member.toArray⟩, .slice s4 x_req.recs.length c4] 31)) = w8 at *
 have HO8 := Lib.hid (ownsRow_below HR1.out BQ.out)
 have B8 := Lib.hid (bt B1.out BQ.out)
 generalize w11.heap.size = px at *
 clear CX a19 a20 a21 a22 a23 a24 a25 a26 a27 a28 a29
 clear HR1 BQ
 have CX := Lib.hid (CQ.out)
 have a0 := CX.out.cell 0
 have a1 := CX.out.cell 1
 have a2 := CX.out.cell 2
 have a3 := CX.out.cell 3
 have a4 := CX.out.cell 4
 have a5 := CX.out.cell 5
 have a6 := CX.out.cell 6
 have a7 := CX.out.cell 7
 simp only [List.getElem?_cons_zero, List.getElem?_cons_succ] at a0 a1 a2 a3 a4 a5 a6 a7
 have C2 : Hid (Cl (w8.alloc (.cells #[.int .i64 x_req.client, .int .i64 x_req.n, .int .i64 x_req.kind, .int .i64 x_req.part, .int .i64 x_req.seq, .int .i64 x_req.off, .int .i64 x_req.max, .int .i64 x_req.gen] 3)) w8.heap.size [.int .i64 x_req.client, .int .i64 x_req.n, .int .i64 x_req.kind, .int .i64 x_req.part, .int .i64 x_req.seq, .int .i64 x_req.off, .int .i64 x_req.max, .int .i64 x_req.gen] 3) := Cl.new w8 _ _
 have D2 : Hid (Below w8.heap.size w8 (w8.alloc (.cells #[.int .i64 x_req.client, .int .i64 x_req.n, .int .i64 x_req.kind, .int .i64 x_req.part, .int .i64 x_req.seq, .int .i64 x_req.off, .int .i64 x_req.max, .int .i64 x_req.gen] 3))) := (Below.refl _ _).alloc (Nat.le_refl _) _
 have HC2 := Lib.hid (wints_any [x_req.client, x_req.n, x_req.kind, x_req.part, x_req.seq, x_req.off, x_req.max, x_req.gen] (by simp) (by simp only [List.mem_cons, List.not_mem_nil, or_false, forall_eq_or_imp, forall_eq]; exact ⟨q0, q1, q2, q3, q4, q5, q6, q7⟩) _ _ (ints8_cl C2.out) (LW1.out.below (bt B8.out D2.out)))
 go_wp2_with fail
 refine HC2.out.mono ?_
 rintro e w12 ⟨v12, rfl, ho2, hb2⟩
 have B20 := Lib.hid (bt D2.out hb2)
 have B2 := Lib.hid (bt B8.out B20.out)
 have hs2 := HI.out _ B2.out
 have HR2 := Lib.hid (ownsRow_weaken ho2 (show w1.heap.size ≤ (w8.alloc (.cells #[.int .i64 x_req.client, .int .i64 x_req.n, .int .i64 x_req.kind, .int .i64 x_req.part, .int .i64 x_req.seq, .int .i64 x_req.off, .int .i64 x_req.max, .int .i64 x_req.gen] 3)).heap.size by have := HI.out _ (bt B8.out D2.out); exact this))
 clear hb2 ho2 HC2 C2 D2
 clear CX a0 a1 a2 a3 a4 a5 a6 a7
 have HO2 := Lib.hid (ownsRow_below HO8.out B20.out)
 clear HO8
 have HS3 := Lib.hid (own_slice HR2.out (by simp))
 obtain ⟨g3, cap3, hv3, hc3⟩ := HS3.out
 subst hv3
 clear HS3
 go_wp2_with (at_builtin; refine wpList_append_own _ rfl _ _ 51 rfl w1.heap.size 9 i0 (.string ⟨#[]⟩) 1 16 Tryz.underlying51 hi hz0 hz1 hz2 rfl (by decide) _ _ _ rfl HO2.out ⟨g3, 0, none⟩ _ _ (sv ([x_req.client, x_req.n, x_req.kind, x_req.part, x_req.seq, x_req.off, x_req.max, x_req.gen].map Bd.bInt)) rfl (by simp [sv]) hc3 ?_ ?_ ?_ ?_ ?_)
 ·simp [sv, Value.oneCell']
 ·unfold maxLen; simp
 ·simp
 ·omega
 intro v13 w13 hown3 hg3 _
 have HO3 : Hid (w13.ownsRow w1.heap.size 9 1 v13 (([1, x_frm, x_to].map Bd.bInt) ++ ([x_req.client, x_req.n, x_req.kind, x_req.part, x_req.seq, x_req.off, x_req.max, x_req.gen].map Bd.bInt)).length (sv (([1, x_frm, x_to].map Bd.bInt) ++ ([x_req.client, x_req.n, x_req.kind, x_req.part, x_req.seq, x_req.off, x_req.max, x_req.gen].map Bd.bInt)))) := by rw [Hid, sv_append]; exact hown3
 have B3 : Hid (Below w1.heap.size w1 w13) := B2.out.grown hg3 B2.out.size (fun kk hkk => (HO2.out.lt kk hkk).1)
 have CQ3 := Lib.hid (Cl.grown (CQ.out.below B20.out) hg3 (own_ne HO2.out (CQ.out.below B20.out) (by decide)))
 clear CQ
 clear hown3 hg3 hc3
 have hm0 : Hid (∀ W, Below w13.heap.size w13 W → W.cell? ⟨px, 8, none⟩ = some (.string ⟨x_req.group.toArray⟩) ∧ W.cell? ⟨px, 9, none⟩ = some (.string ⟨x_req.member.toArray⟩) ∧ W.cell? ⟨px, 10, none⟩ = some (.slice s4 x_req.recs.length c4)) := fun W hW => ⟨Cl.cell (CQ3.out.below hW) 8, Cl.cell (CQ3.out.below hW) 9, Cl.cell (CQ3.out.below hW) 10⟩
 have hne := own_ne HO3.out CQ3.out (by decide)
 have BF : Hid (∀ W, Below w13.heap.size w13 W → Below w1.heap.size w1 W) := fun W h => bt B3.out h
 have J1 := Lib.hid (fun W (hW : Below w13.heap.size w13 W) => beadText_any x_req.group HL1.out W (LW1.out.below (BF.out _ hW)))
 have J2 := Lib.hid (fun W (hW : Below w13.heap.size w13 W) => beadText_any x_req.member HL2.out W (LW1.out.below (BF.out _ hW)))
 have J3 := Lib.hid (fun W (hW : Below w13.heap.size w13 W) => wrecs_any x_req.recs HL3.out HL4.out _ W (HM.out.kept (BW.out _ (BF.out _ hW))).qrecs (LW1.out.below (BF.out _ hW)))
 generalize hbl1 : Bd.bText x_req.group = t1 at J1 HFM
 generalize hbl2 : Bd.bText x_req.member = t2 at J2 HFM
 generalize hbl3 : Wi.encRecs x_req.recs = t3 at J3 HFM
 clear hbl1 hbl2 hbl3
 have T0 : Hid (Below w13.heap.size w13 w13.drew) := (Below.refl _ _).drew
 obtain ⟨q8, q9, q10⟩ := hm0.out _ (Below.refl _ _)
 have hs8 := HI.out _ B3.out
 have hone : ∀ u ∈ [Value.string ⟨t1.toArray⟩, .string ⟨t2.toArray⟩, .string ⟨t3.toArray⟩], u.oneCell' = true := by simp [Value.oneCell']
 generalize hLL : (([1, x_frm, x_to].map Bd.bInt) ++ ([x_req.client, x_req.n, x_req.kind, x_req.part, x_req.seq, x_req.off, x_req.max, x_req.gen].map Bd.bInt)) = LL at *
 have hLn : LL.length ≤ 20 := by rw [← hLL]; simp
 have h63 : LL.length + 3 ≤ maxLen := by unfold maxLen; omega
 have hby : (LL.length + 3) * 16 ≤ 140737488355328 := by omega
 go_upto_region 9 with (fail)
 go_region_held3 (fun W => W.cell? ⟨px, 8, none⟩ = some (.string ⟨x_req.group.toArray⟩) ∧ W.cell? ⟨px, 9, none⟩ = some (.string ⟨x_req.member.toArray⟩) ∧ W.cell? ⟨px, 10, none⟩ = some (.slice s4 x_req.recs.length c4)) (first | assumption | exact ⟨q8, q9, q10⟩ | exact S1.out | exact S2.out | exact S3.out | exact hm0.out _ U5.out | exact S7.out) (first
  | (go_at_call 81; refine (J1.out _ T0.out).mono ?_; rintro e w91 ⟨rfl, hb91⟩; have T1 := Lib.hid (bt T0.out hb91); have S1 := Lib.hid (hm0.out _ T1.out); clear hb91)
  | (go_at_call 81; refine (J2.out _ T1.out).mono ?_; rintro e w92 ⟨rfl, hb92⟩; have T2 := Lib.hid (bt T1.out hb92); have S2 := Lib.hid (hm0.out _ T2.out); clear hb92)
  | (go_at_call 82; refine (J3.out _ T2.out).mono ?_; rintro e w95 ⟨rfl, hb95⟩; have T5 := Lib.hid (bt T2.out hb95); have S3 := Lib.hid (hm0.out _ T5.out); clear hb95; have U5 := Lib.hid (T5.out.alloc T5.out.size (.cells #[.string ⟨t1.toArray⟩, .string ⟨t2.toArray⟩, .string ⟨t3.toArray⟩] 9)); have HO5 := Lib.hid (ownsRow_below HO3.out T5.out))
  | (refine step_append_lies _ (by rfl) _ _ _ (by rfl) w1.heap.size 9 i0 _ 1 16 Tryz.underlying51 hi hz0 hz1 hz2 rfl Nat.one_pos v13 LL.length (sv LL) (by rfl) (World.ownsRow.alloc HO5.out _) ⟨w95.heap.size, 0, none⟩ 3 3 [.string ⟨t1.toArray⟩, .string ⟨t2.toArray⟩, .string ⟨t3.toArray⟩] (by rfl) (by rfl) (cells_new _ [t1, t2, t3] _) hone (by decide) h63 hby (Nat.le_trans hs8 U5.out.size) (w95.heap.size + 1) (World.size_alloc _ _) ?_; intro g11 cap11 w11z hown11 hg11 hat11 hlt11; have S7 := Lib.hid (And.intro (hg11.cell (hm0.out _ U5.out).1 hne) (And.intro (hg11.cell (hm0.out _ U5.out).2.1 hne) (hg11.cell (hm0.out _ U5.out).2.2 hne)))))
 have HO99 : Hid (w11z.ownsRow w1.heap.size 9 1 (.slice (some ⟨g11, 0, none⟩) (LL.length + 3) cap11) (LL ++ [t1, t2, t3]).length (sv (LL ++ [t1, t2, t3]))) := by rw [Hid, sv_append, show (LL ++ [t1, t2, t3]).length = LL.length + 3 by simp]; exact hown11
 have B99 : Hid (Below w1.heap.size w1 w11z) := (BF.out _ U5.out).grown hg11 (BF.out _ U5.out).size (fun kk hkk => (HO5.out.lt kk hkk).1)
 clear hown11 hg11
 go_wp2
 go_ret
 refine ⟨_, rfl, ?_, BW.out _ B99.out⟩
 rw [HFM.out]
 exact ownsRow_weaken HO99.out HSW.out
end Go.Proofs.YtjfpbeccpcbpcaaGreatDoor
