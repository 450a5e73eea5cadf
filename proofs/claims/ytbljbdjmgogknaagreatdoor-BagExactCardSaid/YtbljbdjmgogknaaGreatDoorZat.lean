/-
  Wf / Wf10 / Wf20 / Wf30: texts of one proof, one behind the other.
  Conditions: none of its own.
-/
import Derived.Test.YtbljbdjmgogknaaGreatDoorZas
set_option linter.unusedVariables false
set_option linter.unusedSimpArgs false
set_option maxHeartbeats 6400000
set_option maxRecDepth 20000
namespace Go.Proofs.YtbljbdjmgogknaaGreatDoor
open Go.RowKit
theorem own_slice {w : World} {b : Nat} {e : TypeId} {v : Value} {n : Nat} {xs : List Value} (h : w.ownsRow b e 1 v n xs) (hn : 0 < n) :
  ∃ g cap,v = .slice (some ⟨g,0,none⟩) n cap ∧ ∀ j u,xs[j]? = some u → w.cell? ((⟨g,0,none⟩ : Addr).add j) = some u := by
 have hh := h
 rcases h.2 with ⟨_,rfl⟩ | ⟨g,cap,cur,rfl,_⟩
 ·omega
 ·exact ⟨g,cap,rfl,hh.cells (g := g) rfl⟩
theorem ints8_cl {W : World} {z0 : Nat} {a b c d e f g h : Int} {t : TypeId} (C : Cl W z0 [.int .i64 a,.int .i64 b,.int .i64 c,.int .i64 d,.int .i64 e,.int .i64 f,.int .i64 g,.int .i64 h] t) : Ints W (.slice (some ⟨z0,0,none⟩) 8 8) [a,b,c,d,e,f,g,h] := by
 refine ⟨_,8,rfl,fun i hi => ⟨z0,0,rfl,C.lt,?_⟩⟩
 rw [Nat.zero_add,Cl.cell C i]
 rcases (show i = 0 ∨ i = 1 ∨ i = 2 ∨ i = 3 ∨ i = 4 ∨ i = 5 ∨ i = 6 ∨ i = 7 by simp at hi; omega) with rfl | rfl | rfl | rfl | rfl | rfl | rfl | rfl <;> rfl
theorem ints6_cl {W : World} {g : Nat} {a b c d e f : Int} {t : TypeId} (C : Cl W g [.int .i64 a,.int .i64 b,.int .i64 c,.int .i64 d,.int .i64 e,.int .i64 f] t) : Ints W (.slice (some ⟨g,0,none⟩) 6 6) [a,b,c,d,e,f] := by
 refine ⟨_,6,rfl,fun i hi => ⟨g,0,rfl,C.lt,?_⟩⟩
 rw [Nat.zero_add,Cl.cell C i]
 rcases (show i = 0 ∨ i = 1 ∨ i = 2 ∨ i = 3 ∨ i = 4 ∨ i = 5 by simp at hi; omega) with rfl | rfl | rfl | rfl | rfl | rfl <;> rfl
theorem own_ne {w : World} {b : Nat} {e t : TypeId} {size : Nat} {v : Value} {n : Nat} {xs cs : List Value} {g : Nat} (h : w.ownsRow b e size v n xs) (C : Cl w g cs t) (hne : t ≠ e) : some g ≠ v.ownBlock := by
 rcases h.2 with ⟨rfl,_⟩ | ⟨g',cap,cur,rfl,_,hg,_⟩
 ·simp [Value.ownBlock]
 ·intro he
  simp only [Value.ownBlock,Option.some.injEq] at he
  subst he
  unfold Cl at C
  rw [C] at hg
  injection hg with hg
  injection hg with _ h2
  exact hne h2
theorem ints_flat {l : List Int} (hl : l.length ≤ 100000) (hr : ∀ x ∈ l,Bd.inR x) : ((l.map Bd.bInt).flatten).length ≤ 140737488355328 := by
 have := Wi.flat_le (e := Bd.bInt) (k := 23) l (fun x hx => by
  have := Lib.itoa_length_le x (hr x hx).1 (hr x hx).2
  simp only [Bd.bInt,List.length_cons,List.length_append,List.length_nil]
  omega)
 omega
def iv (l : List Int) : List Value := l.map fun n => .int .i64 n
theorem cinfoInt : (Tryz.prog.info? 3).map (fun i => (i.zero,i.size,i.bytes)) = some (some (.int .i64 0),1,8) := by kernel_rfl
theorem iv_append (a b : List Int) : iv (a ++ b) = iv a ++ iv b := by simp [iv]
theorem ints_own {w : World} {b : Nat} {e : TypeId} {v : Value} {n : Nat} {l : List Int} (h : w.ownsRow b e 1 v n (iv l)) : Ints w v l := by
 have hn : l.length = n := by simpa [iv] using h.1
 subst hn
 have hh := h
 rcases h.2 with ⟨rfl,hn⟩ | ⟨g,cap,cur,rfl,hB,hg,hn,hm,hs,ht⟩
 ·have e : l = [] := List.eq_nil_of_length_eq_zero (by simpa using hn)
  subst e
  exact ⟨none,0,rfl,fun i hi => by simp at hi⟩
 ·refine ⟨_,cap,rfl,fun i hi => ⟨g,0,rfl,(Array.getElem?_eq_some_iff.1 hg).1,?_⟩⟩
  have := hh.cells (g := g) rfl i (.int .i64 (l.getD i 0)) (by simp [iv,hi])
  rwa [Addr.add_mid] at this
theorem icells_new (w : World) (l : List Int) (t : TypeId) : ∀ j u,(iv l)[j]? = some u → (w.alloc (.cells (iv l).toArray t)).cell? ((⟨w.heap.size,0,none⟩ : Addr).add j) = some u := fun j u hu => by
 rw [Addr.add_mid,Nat.zero_add,row_cells w (iv l) t _ (Below.refl _ _) j]
 exact hu
theorem flatLives_succ {l : List (Int × Int)} {k : Nat} {x : Int × Int} (h : l[k]? = some x) : Wi.flatLives (l.take (k + 1)) = Wi.flatLives (l.take k) ++ [x.1,x.2] := by
 obtain ⟨hk,rfl⟩ := List.getElem?_eq_some_iff.1 h
 rw [Wi.flatLives,Wi.flatLives,List.take_succ_eq_append_getElem hk,List.flatMap_append]
 simp
theorem flatLives_len (l : List (Int × Int)) : (Wi.flatLives l).length = l.length * 2 := by
 induction l with
 | nil => rfl
 | cons a l ih => simp only [Wi.flatLives,List.flatMap_cons,List.length_append,List.length_cons,List.length_nil] at ih ⊢; omega
theorem wfields_k1 (m : Wi.Msg) (v : MsgV) (w : World) (h : MsgAt w m v) (ok : MsgOk m) (hk : m.kind = 1) (hg : Wi.good m = true) (hw : Lw w) :
  Calls Tryz.prog 47 #[msgV m v] w (WStrs w (Wi.fieldsL m)) := by
 have HW := hq' hw
 have HM := hq' h
 have HO := hq' ok
 have hn := ok.n
 simp only [List.mem_cons,List.not_mem_nil,or_false,forall_eq_or_imp,forall_eq] at hn
 obtain ⟨n0,n1,n2,n3,n4,n5,n6,n7,n8,n9,q0,q1,q2,q3,q4,q5,q6,q7,r0,r1,r2,r3,r4,r5⟩ := hn
 obtain ⟨i0,hi,hz0,hz1,hz2⟩ := info_parts cinfoStr
 obtain ⟨s0,c0,s1,c1,s2,c2,s3,c3,s4,c4,s5,c5,s6,c6,rfl⟩ := h.slices
 obtain ⟨x_kind,x_frm,x_to,x_part,x_ep,x_off,x_high,x_life,x_pep,x_chain,x_learner,x_lives,x_batch,x_table,x_req,x_resp⟩ := m
 dsimp only at *
 subst hk
 have hrq := Wi.reqB_parts (q := x_req) (by have := hg; simp [Wi.good,Wi.lastB] at this; exact this.2)
 obtain ⟨_,_,_,_,_,_,_,_,hgr,hme,hrl,hrr⟩ := hrq
 have HL1 : Hid (x_req.group.length ≤ 140737488355328) := by rw [Hid]; omega
 have HL2 : Hid (x_req.member.length ≤ 140737488355328) := by rw [Hid]; omega
 have HL3 : Hid (x_req.recs.length ≤ 16) := by rw [Hid]; omega
 have HL4 : Hid (∀ x ∈ x_req.recs,Cr.isRec x = true ∧ 0 ≤ x.off ∧ x.off ≤ 1099511627776) := fun x hx => ⟨(hrr x hx).2,by have := (hrr x hx).1; omega,by have := (hrr x hx).1; omega⟩
 clear hgr hme hrl hrr
 clear h ok hw hg
 have HFM : Hid (Wi.fieldsL ⟨1,x_frm,x_to,x_part,x_ep,x_off,x_high,x_life,x_pep,x_chain,x_learner,x_lives,x_batch,x_table,x_req,x_resp⟩ = [1,x_frm,x_to].map Bd.bInt ++ [x_req.client,x_req.n,x_req.kind,x_req.part,x_req.seq,x_req.off,x_req.max,x_req.gen].map Bd.bInt ++ [Bd.bText x_req.group,Bd.bText x_req.member,Wi.encRecs x_req.recs]) := by rw [Hid]; simp [Wi.fieldsL,Wi.headL,Wi.tailL,Wi.reqNumsL,Wi.respNumsL]
 unfold msgV msgC
 dsimp only
 go_enter Tryz.func47,Tryz.ntmps47
 obtain ⟨w1,hw1,CA,B1⟩ := oneBox (w := w) (.int .i64 1::.int .i64 x_frm::.int .i64 x_to::xt x_part x_ep x_off x_high x_life x_pep x_chain x_learner x_lives x_batch x_table x_req x_resp s0 c0 s1 c1 s2 c2 s3 c3 s4 c4 s5 c5 s6 c6) 44
 have HW1 := hq' hw1
 clear hw1
 go_upto_region 1 with (fail)
 first | rw [HW1.out] | skip
 clear HW1
 have hpa := CA.out.lt
 have HI : Hid (∀ W,Below w1.heap.size w1 W → w1.heap.size ≤ W.heap.size) := fun W h => h.size
 have BW : Hid (∀ W,Below w1.heap.size w1 W → Below w.heap.size w W) := fun W h => bt B1.out h
 have LW1 := hq' (HW.out.below B1.out)
 have HSW : Hid (w.heap.size ≤ w1.heap.size) := B1.out.size
 have B0 : Hid (Below w1.heap.size w1 w1) := Below.refl _ _
 obtain ⟨pa,hpa2⟩ : ∃ pa,pa = w.heap.size := ⟨_,rfl⟩
 rw [← hpa2] at CA ⊢
 have HPA := hq' hpa2
 clear hpa2 hpa
 have CX := hq' (CA.out.below B0.out)
 have a0 := CX.out.cell 0
 have a1 := CX.out.cell 1
 have a2 := CX.out.cell 2
 simp only [g0',gs'] at a0 a1 a2
 have C1 : Hid (Cl (w1.alloc (.cells #[.int .i64 1,.int .i64 x_frm,.int .i64 x_to] 3)) w1.heap.size [.int .i64 1,.int .i64 x_frm,.int .i64 x_to] 3) := Cl.new w1 _ _
 have D1 : Hid (Below w1.heap.size w1 (w1.alloc (.cells #[.int .i64 1,.int .i64 x_frm,.int .i64 x_to] 3))) := (Below.refl _ _).alloc (Nat.le_refl _) _
 have HC1 := hq' (wints_any [1,x_frm,x_to] (by simp) (by simp only [List.mem_cons,List.not_mem_nil,or_false,forall_eq_or_imp,forall_eq]; exact ⟨n0,n1,n2⟩) _ _ (ints3_cl C1.out) (LW1.out.below (bt B0.out D1.out)))
 go_wp2_with fail
 refine HC1.out.mono ?_
 rintro e w11 ⟨v11,rfl,ho1,hb1⟩
 have B10 := hq' (bt D1.out hb1)
 have B1 := hq' (bt B0.out B10.out)
 have hs1 := HI.out _ B1.out
 have HR1 := hq' (ownsRow_weaken ho1 (show w1.heap.size ≤ (w1.alloc (.cells #[.int .i64 1,.int .i64 x_frm,.int .i64 x_to] 3)).heap.size by have := HI.out _ (bt B0.out D1.out); exact this))
 clear hb1 ho1 HC1 C1 D1
 clear CX a0 a1 a2
 have kx := (CA.out.below B1.out).cell 0
 simp only [g0',gs'] at kx
 have CX := hq' (CA.out.below B1.out)
 have a19 := CX.out.cell 19
 have a20 := CX.out.cell 20
 have a21 := CX.out.cell 21
 have a22 := CX.out.cell 22
 have a23 := CX.out.cell 23
 have a24 := CX.out.cell 24
 have a25 := CX.out.cell 25
 have a26 := CX.out.cell 26
 have a27 := CX.out.cell 27
 have a28 := CX.out.cell 28
 have a29 := CX.out.cell 29
 simp only [g0',gs'] at a19 a20 a21 a22 a23 a24 a25 a26 a27 a28 a29
 have CQ : Hid (Cl (w11.alloc (.cells #[.int .i64 x_req.client,.int .i64 x_req.n,.int .i64 x_req.kind,.int .i64 x_req.part,.int .i64 x_req.seq,.int .i64 x_req.off,.int .i64 x_req.max,.int .i64 x_req.gen,.string ⟨x_req.group.toArray⟩,.string ⟨x_req.member.toArray⟩,.slice s4 x_req.recs.length c4] 39)) w11.heap.size [.int .i64 x_req.client,.int .i64 x_req.n,.int .i64 x_req.kind,.int .i64 x_req.part,.int .i64 x_req.seq,.int .i64 x_req.off,.int .i64 x_req.max,.int .i64 x_req.gen,.string ⟨x_req.group.toArray⟩,.string ⟨x_req.member.toArray⟩,.slice s4 x_req.recs.length c4] 39) := Cl.new w11 _ _
 have BQ : Hid (Below w11.heap.size w11 (w11.alloc (.cells #[.int .i64 x_req.client,.int .i64 x_req.n,.int .i64 x_req.kind,.int .i64 x_req.part,.int .i64 x_req.seq,.int .i64 x_req.off,.int .i64 x_req.max,.int .i64 x_req.gen,.string ⟨x_req.group.toArray⟩,.string ⟨x_req.member.toArray⟩,.slice s4 x_req.recs.length c4] 39))) := (Below.refl _ _).alloc (Nat.le_refl _) _
 go_upto_region 8 with (fail)
 generalize (w11.alloc (.cells #[.int .i64 x_req.client,.int .i64 x_req.n,.int .i64 x_req.kind,.int .i64 x_req.part,.int .i64 x_req.seq,.int .i64 x_req.off,.int .i64 x_req.max,.int .i64 x_req.gen,.string ⟨x_req.group.toArray⟩,.string ⟨x_req.member.toArray⟩,.slice s4 x_req.recs.length c4] 39)) = w8 at *
 have HO8 := hq' (ownsRow_below HR1.out BQ.out)
 have B8 := hq' (bt B1.out BQ.out)
 generalize w11.heap.size = px at *
 clear CX a19 a20 a21 a22 a23 a24 a25 a26 a27 a28 a29
 clear HR1 BQ
 have CX := hq' (CQ.out)
 have a0 := CX.out.cell 0
 have a1 := CX.out.cell 1
 have a2 := CX.out.cell 2
 have a3 := CX.out.cell 3
 have a4 := CX.out.cell 4
 have a5 := CX.out.cell 5
 have a6 := CX.out.cell 6
 have a7 := CX.out.cell 7
 simp only [g0',gs'] at a0 a1 a2 a3 a4 a5 a6 a7
 have C2 : Hid (Cl (w8.alloc (.cells #[.int .i64 x_req.client,.int .i64 x_req.n,.int .i64 x_req.kind,.int .i64 x_req.part,.int .i64 x_req.seq,.int .i64 x_req.off,.int .i64 x_req.max,.int .i64 x_req.gen] 3)) w8.heap.size [.int .i64 x_req.client,.int .i64 x_req.n,.int .i64 x_req.kind,.int .i64 x_req.part,.int .i64 x_req.seq,.int .i64 x_req.off,.int .i64 x_req.max,.int .i64 x_req.gen] 3) := Cl.new w8 _ _
 have D2 : Hid (Below w8.heap.size w8 (w8.alloc (.cells #[.int .i64 x_req.client,.int .i64 x_req.n,.int .i64 x_req.kind,.int .i64 x_req.part,.int .i64 x_req.seq,.int .i64 x_req.off,.int .i64 x_req.max,.int .i64 x_req.gen] 3))) := (Below.refl _ _).alloc (Nat.le_refl _) _
 have HC2 := hq' (wints_any [x_req.client,x_req.n,x_req.kind,x_req.part,x_req.seq,x_req.off,x_req.max,x_req.gen] (by simp) (by simp only [List.mem_cons,List.not_mem_nil,or_false,forall_eq_or_imp,forall_eq]; exact ⟨q0,q1,q2,q3,q4,q5,q6,q7⟩) _ _ (ints8_cl C2.out) (LW1.out.below (bt B8.out D2.out)))
 go_wp2_with fail
 refine HC2.out.mono ?_
 rintro e w12 ⟨v12,rfl,ho2,hb2⟩
 have B20 := hq' (bt D2.out hb2)
 have B2 := hq' (bt B8.out B20.out)
 have hs2 := HI.out _ B2.out
 have HR2 := hq' (ownsRow_weaken ho2 (show w1.heap.size ≤ (w8.alloc (.cells #[.int .i64 x_req.client,.int .i64 x_req.n,.int .i64 x_req.kind,.int .i64 x_req.part,.int .i64 x_req.seq,.int .i64 x_req.off,.int .i64 x_req.max,.int .i64 x_req.gen] 3)).heap.size by have := HI.out _ (bt B8.out D2.out); exact this))
 clear hb2 ho2 HC2 C2 D2
 clear CX a0 a1 a2 a3 a4 a5 a6 a7
 have HO2 := hq' (ownsRow_below HO8.out B20.out)
 clear HO8
 have HS3 := hq' (own_slice HR2.out (by simp))
 obtain ⟨g3,cap3,hv3,hc3⟩ := HS3.out
 subst hv3
 clear HS3
 go_wp2_with (at_builtin; refine wpList_append_own _ rfl _ _ 93 rfl w1.heap.size 9 i0 (.string ⟨#[]⟩) 1 16 Tryz.underlying93 hi hz0 hz1 hz2 rfl (by decide) _ _ _ rfl HO2.out ⟨g3,0,none⟩ _ _ (sv ([x_req.client,x_req.n,x_req.kind,x_req.part,x_req.seq,x_req.off,x_req.max,x_req.gen].map Bd.bInt)) rfl (by simp [sv]) hc3 ?_ ?_ ?_ ?_ ?_)
 ·simp [sv,Value.oneCell']
 ·unfold maxLen; simp
 ·simp
 ·omega
 intro v13 w13 hown3 hg3 _
 have HO3 : Hid (w13.ownsRow w1.heap.size 9 1 v13 (([1,x_frm,x_to].map Bd.bInt) ++ ([x_req.client,x_req.n,x_req.kind,x_req.part,x_req.seq,x_req.off,x_req.max,x_req.gen].map Bd.bInt)).length (sv (([1,x_frm,x_to].map Bd.bInt) ++ ([x_req.client,x_req.n,x_req.kind,x_req.part,x_req.seq,x_req.off,x_req.max,x_req.gen].map Bd.bInt)))) := by rw [Hid,sv_append]; exact hown3
 have B3 : Hid (Below w1.heap.size w1 w13) := B2.out.grown hg3 B2.out.size (fun kk hkk => (HO2.out.lt kk hkk).1)
 have CQ3 := hq' (Cl.grown (CQ.out.below B20.out) hg3 (own_ne HO2.out (CQ.out.below B20.out) (by decide)))
 clear CQ
 clear hown3 hg3 hc3
 have hm0 : Hid (∀ W,Below w13.heap.size w13 W → W.cell? ⟨px,8,none⟩ = some (.string ⟨x_req.group.toArray⟩) ∧ W.cell? ⟨px,9,none⟩ = some (.string ⟨x_req.member.toArray⟩) ∧ W.cell? ⟨px,10,none⟩ = some (.slice s4 x_req.recs.length c4)) := fun W hW => ⟨Cl.cell (CQ3.out.below hW) 8,Cl.cell (CQ3.out.below hW) 9,Cl.cell (CQ3.out.below hW) 10⟩
 have hne := own_ne HO3.out CQ3.out (by decide)
 have BF : Hid (∀ W,Below w13.heap.size w13 W → Below w1.heap.size w1 W) := fun W h => bt B3.out h
 have J1 := hq' (fun W (hW : Below w13.heap.size w13 W) => beadText_any x_req.group HL1.out W (LW1.out.below (BF.out _ hW)))
 have J2 := hq' (fun W (hW : Below w13.heap.size w13 W) => beadText_any x_req.member HL2.out W (LW1.out.below (BF.out _ hW)))
 have J3 := hq' (fun W (hW : Below w13.heap.size w13 W) => wrecs_any x_req.recs HL3.out HL4.out _ W (HM.out.kept (BW.out _ (BF.out _ hW))).qrecs (LW1.out.below (BF.out _ hW)))
 generalize hbl1 : Bd.bText x_req.group = t1 at J1 HFM
 generalize hbl2 : Bd.bText x_req.member = t2 at J2 HFM
 generalize hbl3 : Wi.encRecs x_req.recs = t3 at J3 HFM
 clear hbl1 hbl2 hbl3
 have T0 : Hid (Below w13.heap.size w13 w13.drew) := (Below.refl _ _).drew
 obtain ⟨q8,q9,q10⟩ := hm0.out _ (Below.refl _ _)
 have hs8 := HI.out _ B3.out
 have hone : ∀ u ∈ [Value.string ⟨t1.toArray⟩,.string ⟨t2.toArray⟩,.string ⟨t3.toArray⟩],u.oneCell' = true := by simp [Value.oneCell']
 generalize hLL : (([1,x_frm,x_to].map Bd.bInt) ++ ([x_req.client,x_req.n,x_req.kind,x_req.part,x_req.seq,x_req.off,x_req.max,x_req.gen].map Bd.bInt)) = LL at *
 have hLn : LL.length ≤ 20 := by rw [← hLL]; simp
 have h63 : LL.length + 3 ≤ maxLen := by unfold maxLen; omega
 have hby : (LL.length + 3) * 16 ≤ 140737488355328 := by omega
 go_upto_region 9 with (fail)
 go_region_held3 (fun W => W.cell? ⟨px,8,none⟩ = some (.string ⟨x_req.group.toArray⟩) ∧ W.cell? ⟨px,9,none⟩ = some (.string ⟨x_req.member.toArray⟩) ∧ W.cell? ⟨px,10,none⟩ = some (.slice s4 x_req.recs.length c4)) (first | assumption | exact ⟨q8,q9,q10⟩ | exact S1.out | exact S2.out | exact S3.out | exact hm0.out _ U5.out | exact S7.out) (first
  | (go_at_call 81; refine (J1.out _ T0.out).mono ?_; rintro e w91 ⟨rfl,hb91⟩; have T1 := hq' (bt T0.out hb91); have S1 := hq' (hm0.out _ T1.out); clear hb91)
  | (go_at_call 81; refine (J2.out _ T1.out).mono ?_; rintro e w92 ⟨rfl,hb92⟩; have T2 := hq' (bt T1.out hb92); have S2 := hq' (hm0.out _ T2.out); clear hb92)
  | (go_at_call 82; refine (J3.out _ T2.out).mono ?_; rintro e w95 ⟨rfl,hb95⟩; have T5 := hq' (bt T2.out hb95); have S3 := hq' (hm0.out _ T5.out); clear hb95; have U5 := hq' (T5.out.alloc T5.out.size (.cells #[.string ⟨t1.toArray⟩,.string ⟨t2.toArray⟩,.string ⟨t3.toArray⟩] 9)); have HO5 := hq' (ownsRow_below HO3.out T5.out))
  | (refine step_append_lies _ (by rfl) _ _ _ (by rfl) w1.heap.size 9 i0 _ 1 16 Tryz.underlying93 hi hz0 hz1 hz2 rfl Nat.one_pos v13 LL.length (sv LL) (by rfl) (World.ownsRow.alloc HO5.out _) ⟨w95.heap.size,0,none⟩ 3 3 [.string ⟨t1.toArray⟩,.string ⟨t2.toArray⟩,.string ⟨t3.toArray⟩] (by rfl) (by rfl) (cells_new _ [t1,t2,t3] _) hone (by decide) h63 hby (Nat.le_trans hs8 U5.out.size) (w95.heap.size + 1) (World.size_alloc _ _) ?_; intro g11 cap11 w11z hown11 hg11 hat11 hlt11; have S7 := hq' (And.intro (hg11.cell (hm0.out _ U5.out).1 hne) (And.intro (hg11.cell (hm0.out _ U5.out).2.1 hne) (hg11.cell (hm0.out _ U5.out).2.2 hne)))))
 have HO99 : Hid (w11z.ownsRow w1.heap.size 9 1 (.slice (some ⟨g11,0,none⟩) (LL.length + 3) cap11) (LL ++ [t1,t2,t3]).length (sv (LL ++ [t1,t2,t3]))) := by rw [Hid,sv_append,show (LL ++ [t1,t2,t3]).length = LL.length + 3 by simp]; exact hown11
 have B99 : Hid (Below w1.heap.size w1 w11z) := (BF.out _ U5.out).grown hg11 (BF.out _ U5.out).size (fun kk hkk => (HO5.out.lt kk hkk).1)
 clear hown11 hg11
 go_wp2
 go_ret
 refine ⟨_,rfl,?_,BW.out _ B99.out⟩
 rw [HFM.out]
 exact ownsRow_weaken HO99.out HSW.out
theorem wfields_k2 (m : Wi.Msg) (v : MsgV) (w : World) (h : MsgAt w m v) (ok : MsgOk m) (hk : m.kind = 2) (hg : Wi.good m = true) (hw : Lw w) :
  Calls Tryz.prog 47 #[msgV m v] w (WStrs w (Wi.fieldsL m)) := by
 have HW := hq' hw
 have HM := hq' h
 have HO := hq' ok
 have hn := ok.n
 simp only [List.mem_cons,List.not_mem_nil,or_false,forall_eq_or_imp,forall_eq] at hn
 obtain ⟨n0,n1,n2,n3,n4,n5,n6,n7,n8,n9,q0,q1,q2,q3,q4,q5,q6,q7,r0,r1,r2,r3,r4,r5⟩ := hn
 obtain ⟨i0,hi,hz0,hz1,hz2⟩ := info_parts cinfoStr
 obtain ⟨s0,c0,s1,c1,s2,c2,s3,c3,s4,c4,s5,c5,s6,c6,rfl⟩ := h.slices
 obtain ⟨x_kind,x_frm,x_to,x_part,x_ep,x_off,x_high,x_life,x_pep,x_chain,x_learner,x_lives,x_batch,x_table,x_req,x_resp⟩ := m
 dsimp only at *
 subst hk
 have hrq := Wi.respB_parts (a := x_resp) (by have := hg; simp [Wi.good,Wi.lastB] at this; exact this.2)
 obtain ⟨_,_,_,_,_,_,hpl,hpp,hrl,hrr⟩ := hrq
 have HL1 : Hid (x_resp.parts.length ≤ 100000) := by rw [Hid]; omega
 have HL2 : Hid (∀ x ∈ x_resp.parts,Bd.inR x) := ok.p.2
 have HL3 : Hid (x_resp.recs.length ≤ 16) := by rw [Hid]; omega
 have HL4 : Hid (∀ x ∈ x_resp.recs,Cr.isRec x = true ∧ 0 ≤ x.off ∧ x.off ≤ 1099511627776) := fun x hx => ⟨(hrr x hx).2,(hrr x hx).1⟩
 have HL5 : Hid ((x_resp.parts.map Bd.bInt).flatten.length ≤ 140737488355328) := ints_flat (by omega) ok.p.2
 clear hpl hpp hrl hrr
 clear h ok hw hg
 have HFM : Hid (Wi.fieldsL ⟨2,x_frm,x_to,x_part,x_ep,x_off,x_high,x_life,x_pep,x_chain,x_learner,x_lives,x_batch,x_table,x_req,x_resp⟩ = [2,x_frm,x_to].map Bd.bInt ++ [x_resp.client,x_resp.n,x_resp.code,x_resp.off,x_resp.high,x_resp.gen].map Bd.bInt ++ [Wi.listB (Wi.encInts x_resp.parts),Wi.encRecs x_resp.recs]) := by rw [Hid]; simp [Wi.fieldsL,Wi.headL,Wi.tailL,Wi.reqNumsL,Wi.respNumsL]
 unfold msgV msgC
 dsimp only
 go_enter Tryz.func47,Tryz.ntmps47
 obtain ⟨w1,hw1,CA,B1⟩ := oneBox (w := w) (.int .i64 2::.int .i64 x_frm::.int .i64 x_to::xt x_part x_ep x_off x_high x_life x_pep x_chain x_learner x_lives x_batch x_table x_req x_resp s0 c0 s1 c1 s2 c2 s3 c3 s4 c4 s5 c5 s6 c6) 44
 have HW1 := hq' hw1
 clear hw1
 go_upto_region 1 with (fail)
 first | rw [HW1.out] | skip
 clear HW1
 have hpa := CA.out.lt
 have HI : Hid (∀ W,Below w1.heap.size w1 W → w1.heap.size ≤ W.heap.size) := fun W h => h.size
 have BW : Hid (∀ W,Below w1.heap.size w1 W → Below w.heap.size w W) := fun W h => bt B1.out h
 have LW1 := hq' (HW.out.below B1.out)
 have HSW : Hid (w.heap.size ≤ w1.heap.size) := B1.out.size
 have B0 : Hid (Below w1.heap.size w1 w1) := Below.refl _ _
 obtain ⟨pa,hpa2⟩ : ∃ pa,pa = w.heap.size := ⟨_,rfl⟩
 rw [← hpa2] at CA ⊢
 have HPA := hq' hpa2
 clear hpa2 hpa
 have CX := hq' (CA.out.below B0.out)
 have a0 := CX.out.cell 0
 have a1 := CX.out.cell 1
 have a2 := CX.out.cell 2
 simp only [g0',gs'] at a0 a1 a2
 have C1 : Hid (Cl (w1.alloc (.cells #[.int .i64 2,.int .i64 x_frm,.int .i64 x_to] 3)) w1.heap.size [.int .i64 2,.int .i64 x_frm,.int .i64 x_to] 3) := Cl.new w1 _ _
 have D1 : Hid (Below w1.heap.size w1 (w1.alloc (.cells #[.int .i64 2,.int .i64 x_frm,.int .i64 x_to] 3))) := (Below.refl _ _).alloc (Nat.le_refl _) _
 have HC1 := hq' (wints_any [2,x_frm,x_to] (by simp) (by simp only [List.mem_cons,List.not_mem_nil,or_false,forall_eq_or_imp,forall_eq]; exact ⟨n0,n1,n2⟩) _ _ (ints3_cl C1.out) (LW1.out.below (bt B0.out D1.out)))
 go_wp2_with fail
 refine HC1.out.mono ?_
 rintro e w11 ⟨v11,rfl,ho1,hb1⟩
 have B10 := hq' (bt D1.out hb1)
 have B1 := hq' (bt B0.out B10.out)
 have hs1 := HI.out _ B1.out
 have HR1 := hq' (ownsRow_weaken ho1 (show w1.heap.size ≤ (w1.alloc (.cells #[.int .i64 2,.int .i64 x_frm,.int .i64 x_to] 3)).heap.size by have := HI.out _ (bt B0.out D1.out); exact this))
 clear hb1 ho1 HC1 C1 D1
 clear CX a0 a1 a2
 have kx := (CA.out.below B1.out).cell 0
 simp only [g0',gs'] at kx
 have CX := hq' (CA.out.below B1.out)
 have a30 := CX.out.cell 30
 have a31 := CX.out.cell 31
 have a32 := CX.out.cell 32
 have a33 := CX.out.cell 33
 have a34 := CX.out.cell 34
 have a35 := CX.out.cell 35
 have a36 := CX.out.cell 36
 have a37 := CX.out.cell 37
 simp only [g0',gs'] at a30 a31 a32 a33 a34 a35 a36 a37
 have CQ : Hid (Cl (w11.alloc (.cells #[.int .i64 x_resp.client,.int .i64 x_resp.n,.int .i64 x_resp.code,.int .i64 x_resp.off,.int .i64 x_resp.high,.int .i64 x_resp.gen,.slice s5 x_resp.parts.length c5,.slice s6 x_resp.recs.length c6] 42)) w11.heap.size [.int .i64 x_resp.client,.int .i64 x_resp.n,.int .i64 x_resp.code,.int .i64 x_resp.off,.int .i64 x_resp.high,.int .i64 x_resp.gen,.slice s5 x_resp.parts.length c5,.slice s6 x_resp.recs.length c6] 42) := Cl.new w11 _ _
 have BQ : Hid (Below w11.heap.size w11 (w11.alloc (.cells #[.int .i64 x_resp.client,.int .i64 x_resp.n,.int .i64 x_resp.code,.int .i64 x_resp.off,.int .i64 x_resp.high,.int .i64 x_resp.gen,.slice s5 x_resp.parts.length c5,.slice s6 x_resp.recs.length c6] 42))) := (Below.refl _ _).alloc (Nat.le_refl _) _
 go_upto_region 12 with (fail)
 generalize (w11.alloc (.cells #[.int .i64 x_resp.client,.int .i64 x_resp.n,.int .i64 x_resp.code,.int .i64 x_resp.off,.int .i64 x_resp.high,.int .i64 x_resp.gen,.slice s5 x_resp.parts.length c5,.slice s6 x_resp.recs.length c6] 42)) = w8 at *
 have HO8 := hq' (ownsRow_below HR1.out BQ.out)
 have B8 := hq' (bt B1.out BQ.out)
 generalize w11.heap.size = px at *
 clear CX a30 a31 a32 a33 a34 a35 a36 a37
 clear HR1 BQ
 have CX := hq' (CQ.out)
 have a0 := CX.out.cell 0
 have a1 := CX.out.cell 1
 have a2 := CX.out.cell 2
 have a3 := CX.out.cell 3
 have a4 := CX.out.cell 4
 have a5 := CX.out.cell 5
 simp only [g0',gs'] at a0 a1 a2 a3 a4 a5
 have C2 : Hid (Cl (w8.alloc (.cells #[.int .i64 x_resp.client,.int .i64 x_resp.n,.int .i64 x_resp.code,.int .i64 x_resp.off,.int .i64 x_resp.high,.int .i64 x_resp.gen] 3)) w8.heap.size [.int .i64 x_resp.client,.int .i64 x_resp.n,.int .i64 x_resp.code,.int .i64 x_resp.off,.int .i64 x_resp.high,.int .i64 x_resp.gen] 3) := Cl.new w8 _ _
 have D2 : Hid (Below w8.heap.size w8 (w8.alloc (.cells #[.int .i64 x_resp.client,.int .i64 x_resp.n,.int .i64 x_resp.code,.int .i64 x_resp.off,.int .i64 x_resp.high,.int .i64 x_resp.gen] 3))) := (Below.refl _ _).alloc (Nat.le_refl _) _
 have HC2 := hq' (wints_any [x_resp.client,x_resp.n,x_resp.code,x_resp.off,x_resp.high,x_resp.gen] (by simp) (by simp only [List.mem_cons,List.not_mem_nil,or_false,forall_eq_or_imp,forall_eq]; exact ⟨r0,r1,r2,r3,r4,r5⟩) _ _ (ints6_cl C2.out) (LW1.out.below (bt B8.out D2.out)))
 go_wp2_with fail
 refine HC2.out.mono ?_
 rintro e w12 ⟨v12,rfl,ho2,hb2⟩
 have B20 := hq' (bt D2.out hb2)
 have B2 := hq' (bt B8.out B20.out)
 have hs2 := HI.out _ B2.out
 have HR2 := hq' (ownsRow_weaken ho2 (show w1.heap.size ≤ (w8.alloc (.cells #[.int .i64 x_resp.client,.int .i64 x_resp.n,.int .i64 x_resp.code,.int .i64 x_resp.off,.int .i64 x_resp.high,.int .i64 x_resp.gen] 3)).heap.size by have := HI.out _ (bt B8.out D2.out); exact this))
 clear hb2 ho2 HC2 C2 D2
 clear CX a0 a1 a2 a3 a4 a5
 have HO2 := hq' (ownsRow_below HO8.out B20.out)
 clear HO8
 have HS3 := hq' (own_slice HR2.out (by simp))
 obtain ⟨g3,cap3,hv3,hc3⟩ := HS3.out
 subst hv3
 clear HS3
 go_wp2_with (at_builtin; refine wpList_append_own _ rfl _ _ 93 rfl w1.heap.size 9 i0 (.string ⟨#[]⟩) 1 16 Tryz.underlying93 hi hz0 hz1 hz2 rfl (by decide) _ _ _ rfl HO2.out ⟨g3,0,none⟩ _ _ (sv ([x_resp.client,x_resp.n,x_resp.code,x_resp.off,x_resp.high,x_resp.gen].map Bd.bInt)) rfl (by simp [sv]) hc3 ?_ ?_ ?_ ?_ ?_)
 ·simp [sv,Value.oneCell']
 ·unfold maxLen; simp
 ·simp
 ·omega
 intro v13 w13 hown3 hg3 _
 have HO3 : Hid (w13.ownsRow w1.heap.size 9 1 v13 (([2,x_frm,x_to].map Bd.bInt) ++ ([x_resp.client,x_resp.n,x_resp.code,x_resp.off,x_resp.high,x_resp.gen].map Bd.bInt)).length (sv (([2,x_frm,x_to].map Bd.bInt) ++ ([x_resp.client,x_resp.n,x_resp.code,x_resp.off,x_resp.high,x_resp.gen].map Bd.bInt)))) := by rw [Hid,sv_append]; exact hown3
 have B3 : Hid (Below w1.heap.size w1 w13) := B2.out.grown hg3 B2.out.size (fun kk hkk => (HO2.out.lt kk hkk).1)
 have CQ3 := hq' (Cl.grown (CQ.out.below B20.out) hg3 (own_ne HO2.out (CQ.out.below B20.out) (by decide)))
 clear CQ
 clear hown3 hg3 hc3
 have hm0 : Hid (∀ W,Below w13.heap.size w13 W → W.cell? ⟨px,6,none⟩ = some (.slice s5 x_resp.parts.length c5) ∧ W.cell? ⟨px,7,none⟩ = some (.slice s6 x_resp.recs.length c6)) := fun W hW => ⟨Cl.cell (CQ3.out.below hW) 6,Cl.cell (CQ3.out.below hW) 7⟩
 have hne := own_ne HO3.out CQ3.out (by decide)
 have BF : Hid (∀ W,Below w13.heap.size w13 W → Below w1.heap.size w1 W) := fun W h => bt B3.out h
 have J1 := hq' (fun W (hW : Below w13.heap.size w13 W) => wints_any x_resp.parts HL1.out HL2.out _ W (HM.out.kept (BW.out _ (BF.out _ hW))).parts (LW1.out.below (BF.out _ hW)))
 have J2 := hq' (fun W v (hv : Strs W v (x_resp.parts.map Bd.bInt)) => beadList_any v _ W hv (by rw [List.length_map]; exact Nat.le_trans HL1.out (by decide)) HL5.out)
 have J3 := hq' (fun W (hW : Below w13.heap.size w13 W) => wrecs_any x_resp.recs HL3.out HL4.out _ W (HM.out.kept (BW.out _ (BF.out _ hW))).arecs (LW1.out.below (BF.out _ hW)))
 change Hid (∀ W v,Strs W v (x_resp.parts.map Bd.bInt) → Calls Tryz.prog 46 #[v] W fun e w' => e = .returned (.string ⟨(Wi.listB (Wi.encInts x_resp.parts)).toArray⟩) ∧ Below W.heap.size W w') at J2
 generalize hbl1 : Wi.listB (Wi.encInts x_resp.parts) = t1 at J2 HFM
 generalize hbl3 : Wi.encRecs x_resp.recs = t3 at J3 HFM
 clear hbl1 hbl3
 have T0 : Hid (Below w13.heap.size w13 w13.drew) := (Below.refl _ _).drew
 obtain ⟨q8,q9⟩ := hm0.out _ (Below.refl _ _)
 have hs8 := HI.out _ B3.out
 have hone : ∀ u ∈ [Value.string ⟨t1.toArray⟩,.string ⟨t3.toArray⟩],u.oneCell' = true := by simp [Value.oneCell']
 generalize hLL : (([2,x_frm,x_to].map Bd.bInt) ++ ([x_resp.client,x_resp.n,x_resp.code,x_resp.off,x_resp.high,x_resp.gen].map Bd.bInt)) = LL at *
 have hLn : LL.length ≤ 20 := by rw [← hLL]; simp
 have h63 : LL.length + 2 ≤ maxLen := by unfold maxLen; omega
 have hby : (LL.length + 2) * 16 ≤ 140737488355328 := by omega
 go_upto_region 13 with (fail)
 go_region_held3 (fun W => W.cell? ⟨px,6,none⟩ = some (.slice s5 x_resp.parts.length c5) ∧ W.cell? ⟨px,7,none⟩ = some (.slice s6 x_resp.recs.length c6)) (first | assumption | exact ⟨q8,q9⟩ | exact S1.out | exact S2.out | exact S3.out | exact hm0.out _ U5.out | exact S7.out) (first
  | (go_at_call 80; refine (J1.out _ T0.out).mono ?_; rintro e w91 ⟨vi,rfl,hoi,hb91⟩; have T1 := hq' (bt T0.out hb91); have S1 := hq' (hm0.out _ T1.out); have HSI := hq' (strs_own hoi); clear hb91 hoi)
  | (go_at_call 46; refine (J2.out _ _ HSI.out).mono ?_; rintro e w92 ⟨rfl,hb92⟩; have T2 := hq' (bt T1.out hb92); have S2 := hq' (hm0.out _ T2.out); clear hb92)
  | (go_at_call 82; refine (J3.out _ T2.out).mono ?_; rintro e w95 ⟨rfl,hb95⟩; have T5 := hq' (bt T2.out hb95); have S3 := hq' (hm0.out _ T5.out); clear hb95; have U5 := hq' (T5.out.alloc T5.out.size (.cells #[.string ⟨t1.toArray⟩,.string ⟨t3.toArray⟩] 9)); have HO5 := hq' (ownsRow_below HO3.out T5.out))
  | (refine step_append_lies _ (by rfl) _ _ _ (by rfl) w1.heap.size 9 i0 _ 1 16 Tryz.underlying93 hi hz0 hz1 hz2 rfl Nat.one_pos v13 LL.length (sv LL) (by rfl) (World.ownsRow.alloc HO5.out _) ⟨w95.heap.size,0,none⟩ 2 2 [.string ⟨t1.toArray⟩,.string ⟨t3.toArray⟩] (by rfl) (by rfl) (cells_new _ [t1,t3] _) hone (by decide) h63 hby (Nat.le_trans hs8 U5.out.size) (w95.heap.size + 1) (World.size_alloc _ _) ?_; intro g11 cap11 w11z hown11 hg11 hat11 hlt11; have S7 := hq' (And.intro (hg11.cell (hm0.out _ U5.out).1 hne) (hg11.cell (hm0.out _ U5.out).2 hne))))
 have HO99 : Hid (w11z.ownsRow w1.heap.size 9 1 (.slice (some ⟨g11,0,none⟩) (LL.length + 2) cap11) (LL ++ [t1,t3]).length (sv (LL ++ [t1,t3]))) := by rw [Hid,sv_append,show (LL ++ [t1,t3]).length = LL.length + 2 by simp]; exact hown11
 have B99 : Hid (Below w1.heap.size w1 w11z) := (BF.out _ U5.out).grown hg11 (BF.out _ U5.out).size (fun kk hkk => (HO5.out.lt kk hkk).1)
 clear hown11 hg11
 go_wp2
 go_ret
 refine ⟨_,rfl,?_,BW.out _ B99.out⟩
 rw [HFM.out]
 exact ownsRow_weaken HO99.out HSW.out
theorem wfields_k3 (m : Wi.Msg) (v : MsgV) (w : World) (h : MsgAt w m v) (ok : MsgOk m) (hk : m.kind = 3) (hg : Wi.good m = true) (hw : Lw w) :
  Calls Tryz.prog 47 #[msgV m v] w (WStrs w (Wi.fieldsL m)) := by
 have HW := hq' hw
 have HM := hq' h
 have HO := hq' ok
 have hn := ok.n
 simp only [List.mem_cons,List.not_mem_nil,or_false,forall_eq_or_imp,forall_eq] at hn
 obtain ⟨n0,n1,n2,n3,n4,n5,n6,n7,_⟩ := hn
 obtain ⟨i0,hi,hz0,hz1,hz2⟩ := info_parts cinfoStr
 obtain ⟨s0,c0,s1,c1,s2,c2,s3,c3,s4,c4,s5,c5,s6,c6,rfl⟩ := h.slices
 obtain ⟨x_kind,x_frm,x_to,x_part,x_ep,x_off,x_high,x_life,x_pep,x_chain,x_learner,x_lives,x_batch,x_table,x_req,x_resp⟩ := m
 dsimp only at *
 subst hk
 clear h ok hw hg
 have HFM : Hid (Wi.fieldsL ⟨3,x_frm,x_to,x_part,x_ep,x_off,x_high,x_life,x_pep,x_chain,x_learner,x_lives,x_batch,x_table,x_req,x_resp⟩ = [3,x_frm,x_to].map Bd.bInt ++ [Bd.bInt x_life]) := by rw [Hid]; simp [Wi.fieldsL,Wi.headL,Wi.tailL]
 unfold msgV msgC
 dsimp only
 go_enter Tryz.func47,Tryz.ntmps47
 obtain ⟨w1,hw1,CA,B1⟩ := oneBox (w := w) (.int .i64 3::.int .i64 x_frm::.int .i64 x_to::xt x_part x_ep x_off x_high x_life x_pep x_chain x_learner x_lives x_batch x_table x_req x_resp s0 c0 s1 c1 s2 c2 s3 c3 s4 c4 s5 c5 s6 c6) 44
 have HW1 := hq' hw1
 clear hw1
 go_upto_region 1 with (fail)
 first | rw [HW1.out] | skip
 clear HW1
 have hpa := CA.out.lt
 have HI : Hid (∀ W,Below w1.heap.size w1 W → w1.heap.size ≤ W.heap.size) := fun W h => h.size
 have BW : Hid (∀ W,Below w1.heap.size w1 W → Below w.heap.size w W) := fun W h => bt B1.out h
 have LW1 := hq' (HW.out.below B1.out)
 have HSW : Hid (w.heap.size ≤ w1.heap.size) := B1.out.size
 have B0 : Hid (Below w1.heap.size w1 w1) := Below.refl _ _
 obtain ⟨pa,hpa2⟩ : ∃ pa,pa = w.heap.size := ⟨_,rfl⟩
 rw [← hpa2] at CA ⊢
 have HPA := hq' hpa2
 clear hpa2 hpa
 have CX := hq' (CA.out.below B0.out)
 have a0 := CX.out.cell 0
 have a1 := CX.out.cell 1
 have a2 := CX.out.cell 2
 simp only [g0',gs'] at a0 a1 a2
 have C1 : Hid (Cl (w1.alloc (.cells #[.int .i64 3,.int .i64 x_frm,.int .i64 x_to] 3)) w1.heap.size [.int .i64 3,.int .i64 x_frm,.int .i64 x_to] 3) := Cl.new w1 _ _
 have D1 : Hid (Below w1.heap.size w1 (w1.alloc (.cells #[.int .i64 3,.int .i64 x_frm,.int .i64 x_to] 3))) := (Below.refl _ _).alloc (Nat.le_refl _) _
 have HC1 := hq' (wints_any [3,x_frm,x_to] (by simp) (by simp only [List.mem_cons,List.not_mem_nil,or_false,forall_eq_or_imp,forall_eq]; exact ⟨n0,n1,n2⟩) _ _ (ints3_cl C1.out) (LW1.out.below (bt B0.out D1.out)))
 go_wp2_with fail
 refine HC1.out.mono ?_
 rintro e w11 ⟨v11,rfl,ho1,hb1⟩
 have B10 := hq' (bt D1.out hb1)
 have B1 := hq' (bt B0.out B10.out)
 have hs1 := HI.out _ B1.out
 have HR1 := hq' (ownsRow_weaken ho1 (show w1.heap.size ≤ (w1.alloc (.cells #[.int .i64 3,.int .i64 x_frm,.int .i64 x_to] 3)).heap.size by have := HI.out _ (bt B0.out D1.out); exact this))
 clear hb1 ho1 HC1 C1 D1
 clear CX a0 a1 a2
 have kx := (CA.out.below B1.out).cell 0
 simp only [g0',gs'] at kx
 have CX := hq' (CA.out.below B1.out)
 have a7 := CX.out.cell 7
 simp only [g0',gs'] at a7
 have LW3 := hq' (LW1.out.below B1.out)
 have HJ3 := hq' (beadInt_any x_life n7 w11 LW3.out)
 generalize hbl3 : Bd.bInt x_life = bl3 at HJ3 HFM
 clear hbl3
 go_wp2_with fail
 refine HJ3.out.mono ?_
 rintro e w13 ⟨rfl,hb3⟩
 have HO3 := hq' (ownsRow_below HR1.out hb3)
 have B3 := hq' (bt B1.out hb3)
 have hs3 := HI.out _ B3.out
 clear hb3 HJ3 HR1
 clear CX a7
 go_wp2_with (at_builtin; refine wpList_append_own _ rfl _ _ 93 rfl w1.heap.size 9 i0 (.string ⟨#[]⟩) 1 16 Tryz.underlying93 hi hz0 hz1 hz2 rfl (by decide) _ _ _ rfl (World.ownsRow.alloc HO3.out _) ⟨w13.heap.size,0,none⟩ 1 1 [.string ⟨bl3.toArray⟩] rfl rfl (cells_new _ [bl3] _) ?_ ?_ ?_ ?_ ?_)
 ·simp [Value.oneCell']
 ·unfold maxLen; simp
 ·simp
 ·simp; omega
 intro v22 w22 hown2 hg2 _
 have HO2 : Hid (w22.ownsRow w1.heap.size 9 1 v22 (([3,x_frm,x_to].map Bd.bInt) ++ [bl3]).length (sv (([3,x_frm,x_to].map Bd.bInt) ++ [bl3]))) := by rw [Hid,sv_append]; exact hown2
 have B2 : Hid (Below w1.heap.size w1 w22) := (B3.out.alloc hs3 _).grown hg2 (by simp; omega) (fun kk hkk => (HO3.out.lt kk hkk).1)
 clear hown2 hg2 HO3
 clear kx
 go_wp2
 go_ret
 refine ⟨_,rfl,?_,BW.out _ B2.out⟩
 rw [HFM.out]
 exact ownsRow_weaken HO2.out HSW.out
end Go.Proofs.YtbljbdjmgogknaaGreatDoor
