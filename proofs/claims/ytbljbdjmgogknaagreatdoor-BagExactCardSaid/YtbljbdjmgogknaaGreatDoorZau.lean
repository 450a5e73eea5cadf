/-
  Wf40 / Wf5 / Wf6 / Wf70: texts of one proof, one behind the other.
  Conditions: none of its own.
-/
import Derived.Test.YtbljbdjmgogknaaGreatDoorZat
set_option linter.unusedVariables false
set_option linter.unusedSimpArgs false
set_option maxHeartbeats 6400000
set_option maxRecDepth 20000
namespace Go.Proofs.YtbljbdjmgogknaaGreatDoor
open Go.RowKit
theorem wfields_k4 (m : Wi.Msg) (v : MsgV) (w : World) (h : MsgAt w m v) (ok : MsgOk m) (hk : m.kind = 4) (hg : Wi.good m = true) (hw : Lw w) :
  Calls Tryz.prog 47 #[msgV m v] w (WStrs w (Wi.fieldsL m)) := by
 have HW := hq' hw
 have HM := hq' h
 have HO := hq' ok
 have hn := ok.n
 simp only [List.mem_cons,List.not_mem_nil,or_false,forall_eq_or_imp,forall_eq] at hn
 obtain ⟨n0,n1,n2,n3,n4,n5,n6,n7,n8,n9,q0,q1,q2,q3,q4,q5,q6,q7,r0,r1,r2,r3,r4,r5⟩ := hn
 obtain ⟨i0,hi,hz0,hz1,hz2⟩ := info_parts cinfoStr
 obtain ⟨s0,c0,s1,c1,s2,c2,s3,c3,s4,c4,s5,c5,s6,c6,rfl⟩ := h.slices
 obtain ⟨x_kind,x_frm,x_to,x_part,x_ep,x_off,x_high,x_life,x_pep,x_chain,x_learner,x_lives,x_batch,x_table,x_req,x_resp⟩ := m
 dsimp only at *
 subst hk
 have hrq := Wi.placeB_parts (m := ⟨4,x_frm,x_to,x_part,x_ep,x_off,x_high,x_life,x_pep,x_chain,x_learner,x_lives,x_batch,x_table,x_req,x_resp⟩) (by have := hg; simp [Wi.good,Wi.lastB] at this; exact this.2)
 obtain ⟨_,_,hcl,hcc,hll,hlr⟩ := hrq
 dsimp only at hcl hcc hll hlr
 have HL1 : Hid (x_chain.length ≤ 100000) := by rw [Hid]; omega
 have HL2 : Hid (∀ x ∈ x_chain,Bd.inR x) := ok.c.2
 have HL3 : Hid ((x_chain.map Bd.bInt).flatten.length ≤ 140737488355328) := ints_flat (by omega) ok.c.2
 have HL4 : Hid ((Wi.flatLives x_lives).length ≤ 100000) := by rw [Hid,flatLives_len]; omega
 have HL5 : Hid (∀ x ∈ Wi.flatLives x_lives,Bd.inR x) := fun x hx => by
  obtain ⟨y,hy,hx⟩ := List.mem_flatMap.1 hx
  rcases List.mem_cons.1 hx with rfl | hx
  ·exact (ok.l.2 y hy).1
  ·rw [List.mem_singleton.1 hx]; exact (ok.l.2 y hy).2
 have HL6 : Hid (((Wi.flatLives x_lives).map Bd.bInt).flatten.length ≤ 140737488355328) := ints_flat HL4.out HL5.out
 clear hcl hcc hlr
 clear h ok hw hg
 have HFM : Hid (Wi.fieldsL ⟨4,x_frm,x_to,x_part,x_ep,x_off,x_high,x_life,x_pep,x_chain,x_learner,x_lives,x_batch,x_table,x_req,x_resp⟩ = [4,x_frm,x_to].map Bd.bInt ++ [x_part,x_ep].map Bd.bInt ++ [Bd.bInt x_pep,Wi.listB (Wi.encInts x_chain),Bd.bInt x_learner,Wi.listB (Wi.encInts (Wi.flatLives x_lives))]) := by rw [Hid]; simp [Wi.fieldsL,Wi.headL,Wi.tailL,Wi.reqNumsL,Wi.respNumsL]
 unfold msgV msgC
 dsimp only
 go_enter Tryz.func47,Tryz.ntmps47
 obtain ⟨w1,hw1,CA,B1⟩ := oneBox (w := w) (.int .i64 4::.int .i64 x_frm::.int .i64 x_to::xt x_part x_ep x_off x_high x_life x_pep x_chain x_learner x_lives x_batch x_table x_req x_resp s0 c0 s1 c1 s2 c2 s3 c3 s4 c4 s5 c5 s6 c6) 44
 have HW1 := hq' hw1
 clear hw1
 go_upto_region 1 with (fail)
 first | rw [HW1.out] | skip
 clear HW1
 have hpa := CA.out.lt
 have HI : Hid (∀ W,Below w1.heap.size w1 W → w1.heap.size ≤ W.heap.size) := fun W h => h.size
 have BW : Hid (∀ W,Below w1.heap.size w1 W → Below w.heap.size w W) := fun W h => bt B1.out h
 have LW1 := hq' (HW.out.below B1.out)
 have HSW : Hid (w.heap.size ≤ w1.heap.size) := B1.out.size
 have B0 : Hid (Below w1.heap.size w1 w1) := Below.refl _ _
 obtain ⟨pa,hpa2⟩ : ∃ pa,pa = w.heap.size := ⟨_,rfl⟩
 rw [← hpa2] at CA ⊢
 have HPA := hq' hpa2
 clear hpa2 hpa
 have CX := hq' (CA.out.below B0.out)
 have a0 := CX.out.cell 0
 have a1 := CX.out.cell 1
 have a2 := CX.out.cell 2
 simp only [g0',gs'] at a0 a1 a2
 have C1 : Hid (Cl (w1.alloc (.cells #[.int .i64 4,.int .i64 x_frm,.int .i64 x_to] 3)) w1.heap.size [.int .i64 4,.int .i64 x_frm,.int .i64 x_to] 3) := Cl.new w1 _ _
 have D1 : Hid (Below w1.heap.size w1 (w1.alloc (.cells #[.int .i64 4,.int .i64 x_frm,.int .i64 x_to] 3))) := (Below.refl _ _).alloc (Nat.le_refl _) _
 have HC1 := hq' (wints_any [4,x_frm,x_to] (by simp) (by simp only [List.mem_cons,List.not_mem_nil,or_false,forall_eq_or_imp,forall_eq]; exact ⟨n0,n1,n2⟩) _ _ (ints3_cl C1.out) (LW1.out.below (bt B0.out D1.out)))
 go_wp2_with fail
 refine HC1.out.mono ?_
 rintro e w11 ⟨v11,rfl,ho1,hb1⟩
 have B10 := hq' (bt D1.out hb1)
 have B1 := hq' (bt B0.out B10.out)
 have hs1 := HI.out _ B1.out
 have HR1 := hq' (ownsRow_weaken ho1 (show w1.heap.size ≤ (w1.alloc (.cells #[.int .i64 4,.int .i64 x_frm,.int .i64 x_to] 3)).heap.size by have := HI.out _ (bt B0.out D1.out); exact this))
 clear hb1 ho1 HC1 C1 D1
 clear CX a0 a1 a2
 have kx := (CA.out.below B1.out).cell 0
 simp only [g0',gs'] at kx
 have CX := hq' (CA.out.below B1.out)
 have a3 := CX.out.cell 3
 have a4 := CX.out.cell 4
 simp only [g0',gs'] at a3 a4
 have C2 : Hid (Cl (w11.alloc (.cells #[.int .i64 x_part,.int .i64 x_ep] 3)) w11.heap.size [.int .i64 x_part,.int .i64 x_ep] 3) := Cl.new w11 _ _
 have D2 : Hid (Below w11.heap.size w11 (w11.alloc (.cells #[.int .i64 x_part,.int .i64 x_ep] 3))) := (Below.refl _ _).alloc (Nat.le_refl _) _
 have HC2 := hq' (wints_any [x_part,x_ep] (by simp) (by simp only [List.mem_cons,List.not_mem_nil,or_false,forall_eq_or_imp,forall_eq]; exact ⟨n3,n4⟩) _ _ (ints2_cl C2.out) (LW1.out.below (bt B1.out D2.out)))
 go_wp2_with fail
 refine HC2.out.mono ?_
 rintro e w12 ⟨v12,rfl,ho2,hb2⟩
 have B20 := hq' (bt D2.out hb2)
 have B2 := hq' (bt B1.out B20.out)
 have hs2 := HI.out _ B2.out
 have HR2 := hq' (ownsRow_weaken ho2 (show w1.heap.size ≤ (w11.alloc (.cells #[.int .i64 x_part,.int .i64 x_ep] 3)).heap.size by have := HI.out _ (bt B1.out D2.out); exact this))
 clear hb2 ho2 HC2 C2 D2
 clear CX a3 a4
 have HO2 := hq' (ownsRow_below HR1.out B20.out)
 clear HR1
 clear kx
 have HS3 := hq' (own_slice HR2.out (by simp))
 obtain ⟨g3,cap3,hv3,hc3⟩ := HS3.out
 subst hv3
 clear HS3
 go_wp2_with (at_builtin; refine wpList_append_own _ rfl _ _ 93 rfl w1.heap.size 9 i0 (.string ⟨#[]⟩) 1 16 Tryz.underlying93 hi hz0 hz1 hz2 rfl (by decide) _ _ _ rfl HO2.out ⟨g3,0,none⟩ _ _ (sv ([x_part,x_ep].map Bd.bInt)) rfl (by simp [sv]) hc3 ?_ ?_ ?_ ?_ ?_)
 ·simp [sv,Value.oneCell']
 ·unfold maxLen; simp
 ·simp
 ·omega
 intro v13 w13 hown3 hg3 _
 have HO3 : Hid (w13.ownsRow w1.heap.size 9 1 v13 (([4,x_frm,x_to].map Bd.bInt) ++ ([x_part,x_ep].map Bd.bInt)).length (sv (([4,x_frm,x_to].map Bd.bInt) ++ ([x_part,x_ep].map Bd.bInt)))) := by rw [Hid,sv_append]; exact hown3
 have B3 : Hid (Below w1.heap.size w1 w13) := B2.out.grown hg3 B2.out.size (fun kk hkk => (HO2.out.lt kk hkk).1)
 clear hown3 hg3 hc3
 have kx := (CA.out.below B3.out).cell 0
 simp only [g0',gs'] at kx
 have LV := hq' (HM.out.kept (BW.out _ B3.out)).lives
 obtain ⟨j0,hj,hjz0,hjz1,hjz2⟩ := info_parts cinfoInt
 have CX := hq' (CA.out.below B3.out)
 have a11 := CX.out.cell 11
 simp only [g0',gs'] at a11
 go_wp2
 clear CX a11
 go_loopw [6,114] (fun tv ti wr => ∃ k : Nat,ti = .int .i64 k ∧ k ≤ x_lives.length ∧ wr.ownsRow w13.heap.size 3 1 tv (k * 2) (iv (Wi.flatLives (x_lives.take k))) ∧ Below w13.heap.size w13 wr) (fun _ ti _ => x_lives.length - (intOf ti).toNat)
 case atStart => exact ⟨0,rfl,by omega,⟨by simp [iv,Wi.flatLives],.inl ⟨rfl,rfl⟩⟩,Below.refl _ _⟩
 case round =>
  obtain ⟨k,rfl,hk,ho,hb⟩ := hrel
  have HR := hq' ho
  have HB := hq' hb
  have hszr := hb.size
  clear ho hb
  by_cases hlt : k < x_lives.length
  ·obtain ⟨x,hx⟩ : ∃ x,x_lives[k]? = some x := ⟨x_lives[k],by simp [hlt]⟩
   have HS := hq' (flatLives_succ hx)
   obtain ⟨g,off,cap',he,hg,p0,p1⟩ := LV.out.getL HB.out hx
   injection he with he1 he2 he3
   subst he1 he3
   obtain ⟨y,z⟩ := x
   dsimp only at p0 p1 HS
   clear he2 hx
   go_wp2_with (at_builtin; refine wpList_append_own _ rfl _ _ 30 rfl w13.heap.size 3 j0 (.int .i64 0) 1 8 Tryz.underlying30 hj hjz0 hjz1 hjz2 rfl (by decide) _ _ _ rfl (World.ownsRow.alloc (World.ownsRow.alloc HR.out _) _) ⟨wr.heap.size + 1,0,none⟩ 2 2 (iv [y,z]) rfl rfl ?_ ?_ ?_ ?_ ?_ ?_)
   ·have := icells_new (wr.alloc (.cells #[.int .i64 y,.int .i64 z] 90)) [y,z] 3
    rw [World.size_alloc] at this
    exact this
   ·simp [iv,Value.oneCell']
   ·unfold maxLen; omega
   ·omega
   ·simp; omega
   intro v' w9 hown9 hg9 _
   have H9 : Hid (w9.ownsRow w13.heap.size 3 1 v' ((k + 1) * 2) (iv (Wi.flatLives (x_lives.take (k + 1))))) := by
    rw [Hid,HS.out,iv_append,show (k + 1) * 2 = k * 2 + 2 by omega]; exact hown9
   have B9 : Hid (Below w13.heap.size w13 w9) := ((HB.out.alloc hszr _).alloc (by simp; omega) _).grown hg9 (by simp; omega) (fun kk hkk => (HR.out.lt kk hkk).1)
   clear hown9 hg9
   go_wp2
   go_roundw
   case rel => exact ⟨k + 1,by go_num,by omega,H9.out,B9.out⟩
   case measure => simp [intOf]; omega
  ·obtain rfl : k = x_lives.length := by omega
   have h9 := HR.out
   rw [List.take_length] at h9
   have HIN := hq' (ints_own h9)
   have HOX := hq' (ownsRow_below HO3.out HB.out)
   have BX := hq' (bt B3.out HB.out)
   clear h9 HR hlt hk
   have hm0 : Hid (∀ W,Below wr.heap.size wr W → W.cell? ⟨pa,8,none⟩ = some (.int .i64 x_pep) ∧ W.cell? ⟨pa,9,none⟩ = some (.slice s0 x_chain.length c0) ∧ W.cell? ⟨pa,10,none⟩ = some (.int .i64 x_learner)) := fun W hW => ⟨Cl.cell (CA.out.below (bt BX.out hW)) 8,Cl.cell (CA.out.below (bt BX.out hW)) 9,Cl.cell (CA.out.below (bt BX.out hW)) 10⟩
   have hne : some pa ≠ Value.ownBlock v13 := fun h => by have := (HO3.out.lt _ h.symm).1; have := CA.out.lt; omega
   have BF : Hid (∀ W,Below wr.heap.size wr W → Below w1.heap.size w1 W) := fun W h => bt BX.out h
   have J1 := hq' (fun W (hW : Below wr.heap.size wr W) => beadInt_any x_pep n8 W (LW1.out.below (BF.out _ hW)))
   have J2 := hq' (fun W (hW : Below wr.heap.size wr W) => wints_any x_chain HL1.out HL2.out _ W (HM.out.kept (BW.out _ (BF.out _ hW))).chain (LW1.out.below (BF.out _ hW)))
   have J3 := hq' (fun W v (hv : Strs W v (x_chain.map Bd.bInt)) => beadList_any v _ W hv (by rw [List.length_map]; exact Nat.le_trans HL1.out (by decide)) HL3.out)
   have J4 := hq' (fun W (hW : Below wr.heap.size wr W) => beadInt_any x_learner n9 W (LW1.out.below (BF.out _ hW)))
   have J5 := hq' (fun W (hW : Below wr.heap.size wr W) => wints_any (Wi.flatLives x_lives) HL4.out HL5.out _ W (HIN.out.kept hW) (LW1.out.below (BF.out _ hW)))
   have J6 := hq' (fun W v (hv : Strs W v ((Wi.flatLives x_lives).map Bd.bInt)) => beadList_any v _ W hv (by rw [List.length_map]; exact Nat.le_trans HL4.out (by decide)) HL6.out)
   change Hid (∀ W v,Strs W v (x_chain.map Bd.bInt) → Calls Tryz.prog 46 #[v] W fun e w' => e = .returned (.string ⟨(Wi.listB (Wi.encInts x_chain)).toArray⟩) ∧ Below W.heap.size W w') at J3
   change Hid (∀ W v,Strs W v ((Wi.flatLives x_lives).map Bd.bInt) → Calls Tryz.prog 46 #[v] W fun e w' => e = .returned (.string ⟨(Wi.listB (Wi.encInts (Wi.flatLives x_lives))).toArray⟩) ∧ Below W.heap.size W w') at J6
   generalize hbl1 : Bd.bInt x_pep = t1 at J1 HFM
   generalize hbl2 : Wi.listB (Wi.encInts x_chain) = t2 at J3 HFM
   generalize hbl3 : Bd.bInt x_learner = t3 at J4 HFM
   generalize hbl4 : Wi.listB (Wi.encInts (Wi.flatLives x_lives)) = t4 at J6 HFM
   clear hbl1 hbl2 hbl3 hbl4
   have T0 : Hid (Below wr.heap.size wr wr.drew) := (Below.refl _ _).drew
   obtain ⟨q8,q9,q10⟩ := hm0.out _ (Below.refl _ _)
   have hs8 := HI.out _ BX.out
   have hone : ∀ u ∈ [Value.string ⟨t1.toArray⟩,.string ⟨t2.toArray⟩,.string ⟨t3.toArray⟩,.string ⟨t4.toArray⟩],u.oneCell' = true := by simp [Value.oneCell']
   generalize hLL : (([4,x_frm,x_to].map Bd.bInt) ++ ([x_part,x_ep].map Bd.bInt)) = LL at *
   have hLn : LL.length ≤ 20 := by rw [← hLL]; simp
   have h63 : LL.length + 4 ≤ maxLen := by unfold maxLen; omega
   have hby : (LL.length + 4) * 16 ≤ 140737488355328 := by omega
   go_upto_region 23 with (fail)
   go_region_held3 (fun W => W.cell? ⟨pa,8,none⟩ = some (.int .i64 x_pep) ∧ W.cell? ⟨pa,9,none⟩ = some (.slice s0 x_chain.length c0) ∧ W.cell? ⟨pa,10,none⟩ = some (.int .i64 x_learner)) (first | assumption | exact ⟨q8,q9,q10⟩ | exact S1.out | exact S2.out | exact S3.out | exact S4.out | exact S5.out | exact S6.out | exact hm0.out _ U5.out | exact S7.out) (first
    | (go_at_call 46; refine (J6.out _ _ HSJ.out).mono ?_; rintro e w95 ⟨rfl,hb95⟩; have T5 := hq' (bt T6.out hb95); have S6 := hq' (hm0.out _ T5.out); clear hb95; have U5 := hq' (T5.out.alloc T5.out.size (.cells #[.string ⟨t1.toArray⟩,.string ⟨t2.toArray⟩,.string ⟨t3.toArray⟩,.string ⟨t4.toArray⟩] 9)); have HO5 := hq' (ownsRow_below HOX.out T5.out))
    | (go_at_call 80; refine (J5.out _ T4.out).mono ?_; rintro e w96 ⟨vj,rfl,hoj,hb96⟩; have T6 := hq' (bt T4.out hb96); have S5 := hq' (hm0.out _ T6.out); have HSJ := hq' (strs_own hoj); clear hb96 hoj)
    | (go_at_call 83; refine (J4.out _ T3.out).mono ?_; rintro e w94 ⟨rfl,hb94⟩; have T4 := hq' (bt T3.out hb94); have S4 := hq' (hm0.out _ T4.out); clear hb94)
    | (go_at_call 46; refine (J3.out _ _ HSI.out).mono ?_; rintro e w93 ⟨rfl,hb93⟩; have T3 := hq' (bt T2.out hb93); have S3 := hq' (hm0.out _ T3.out); clear hb93)
    | (go_at_call 80; refine (J2.out _ T1.out).mono ?_; rintro e w92 ⟨vi,rfl,hoi,hb92⟩; have T2 := hq' (bt T1.out hb92); have S2 := hq' (hm0.out _ T2.out); have HSI := hq' (strs_own hoi); clear hb92 hoi)
    | (go_at_call 83; refine (J1.out _ T0.out).mono ?_; rintro e w91 ⟨rfl,hb91⟩; have T1 := hq' (bt T0.out hb91); have S1 := hq' (hm0.out _ T1.out); clear hb91)
    | (refine step_append_lies _ (by rfl) _ _ _ (by rfl) w1.heap.size 9 i0 _ 1 16 Tryz.underlying93 hi hz0 hz1 hz2 rfl Nat.one_pos v13 LL.length (sv LL) (by rfl) (World.ownsRow.alloc HO5.out _) ⟨w95.heap.size,0,none⟩ 4 4 [.string ⟨t1.toArray⟩,.string ⟨t2.toArray⟩,.string ⟨t3.toArray⟩,.string ⟨t4.toArray⟩] (by rfl) (by rfl) (cells_new _ [t1,t2,t3,t4] _) hone (by decide) h63 hby (Nat.le_trans hs8 U5.out.size) (w95.heap.size + 1) (World.size_alloc _ _) ?_; intro g11 cap11 w11z hown11 hg11 hat11 hlt11; have S7 := hq' (And.intro (hg11.cell (hm0.out _ U5.out).1 hne) (And.intro (hg11.cell (hm0.out _ U5.out).2.1 hne) (hg11.cell (hm0.out _ U5.out).2.2 hne)))))
   have HO99 : Hid (w11z.ownsRow w1.heap.size 9 1 (.slice (some ⟨g11,0,none⟩) (LL.length + 4) cap11) (LL ++ [t1,t2,t3,t4]).length (sv (LL ++ [t1,t2,t3,t4]))) := by rw [Hid,sv_append,show (LL ++ [t1,t2,t3,t4]).length = LL.length + 4 by simp]; exact hown11
   have B99 : Hid (Below w1.heap.size w1 w11z) := (BF.out _ U5.out).grown hg11 (BF.out _ U5.out).size (fun kk hkk => (HO5.out.lt kk hkk).1)
   clear hown11 hg11
   go_wp2
   go_ret
   refine ⟨_,rfl,?_,BW.out _ B99.out⟩
   rw [HFM.out]
   exact ownsRow_weaken HO99.out HSW.out
theorem wfields_k5 (m : Wi.Msg) (v : MsgV) (w : World) (h : MsgAt w m v) (ok : MsgOk m) (hk : m.kind = 5) (hg : Wi.good m = true) (hw : Lw w) :
  Calls Tryz.prog 47 #[msgV m v] w (WStrs w (Wi.fieldsL m)) := by
 have HW := hq' hw
 have HM := hq' h
 have HO := hq' ok
 have hn := ok.n
 simp only [List.mem_cons,List.not_mem_nil,or_false,forall_eq_or_imp,forall_eq] at hn
 obtain ⟨n0,n1,n2,n3,n4,n5,n6,n7,_⟩ := hn
 obtain ⟨i0,hi,hz0,hz1,hz2⟩ := info_parts cinfoStr
 obtain ⟨s0,c0,s1,c1,s2,c2,s3,c3,s4,c4,s5,c5,s6,c6,rfl⟩ := h.slices
 obtain ⟨x_kind,x_frm,x_to,x_part,x_ep,x_off,x_high,x_life,x_pep,x_chain,x_learner,x_lives,x_batch,x_table,x_req,x_resp⟩ := m
 dsimp only at *
 subst hk
 have GB : Hid (Cr.good x_batch = true) := by have := hg; simp [Wi.good,Wi.lastB] at this; exact this.2
 have HEL : Hid ((Cr.enc x_batch).length ≤ 140737488355328) := by have := Cr.enc_len GB.out; show _ ≤ _; omega
 clear h ok hw hg
 have HFM : Hid (Wi.fieldsL ⟨5,x_frm,x_to,x_part,x_ep,x_off,x_high,x_life,x_pep,x_chain,x_learner,x_lives,x_batch,x_table,x_req,x_resp⟩ = [5,x_frm,x_to].map Bd.bInt ++ [x_part,x_ep].map Bd.bInt ++ [Bd.bText (Cr.enc x_batch)]) := by rw [Hid]; simp [Wi.fieldsL,Wi.headL,Wi.tailL]
 unfold msgV msgC
 dsimp only
 go_enter Tryz.func47,Tryz.ntmps47
 obtain ⟨w1,hw1,CA,B1⟩ := oneBox (w := w) (.int .i64 5::.int .i64 x_frm::.int .i64 x_to::xt x_part x_ep x_off x_high x_life x_pep x_chain x_learner x_lives x_batch x_table x_req x_resp s0 c0 s1 c1 s2 c2 s3 c3 s4 c4 s5 c5 s6 c6) 44
 have HW1 := hq' hw1
 clear hw1
 go_upto_region 1 with (fail)
 first | rw [HW1.out] | skip
 clear HW1
 have hpa := CA.out.lt
 have HI : Hid (∀ W,Below w1.heap.size w1 W → w1.heap.size ≤ W.heap.size) := fun W h => h.size
 have BW : Hid (∀ W,Below w1.heap.size w1 W → Below w.heap.size w W) := fun W h => bt B1.out h
 have LW1 := hq' (HW.out.below B1.out)
 have HSW : Hid (w.heap.size ≤ w1.heap.size) := B1.out.size
 have B0 : Hid (Below w1.heap.size w1 w1) := Below.refl _ _
 obtain ⟨pa,hpa2⟩ : ∃ pa,pa = w.heap.size := ⟨_,rfl⟩
 rw [← hpa2] at CA ⊢
 have HPA := hq' hpa2
 clear hpa2 hpa
 have CX := hq' (CA.out.below B0.out)
 have a0 := CX.out.cell 0
 have a1 := CX.out.cell 1
 have a2 := CX.out.cell 2
 simp only [g0',gs'] at a0 a1 a2
 have C1 : Hid (Cl (w1.alloc (.cells #[.int .i64 5,.int .i64 x_frm,.int .i64 x_to] 3)) w1.heap.size [.int .i64 5,.int .i64 x_frm,.int .i64 x_to] 3) := Cl.new w1 _ _
 have D1 : Hid (Below w1.heap.size w1 (w1.alloc (.cells #[.int .i64 5,.int .i64 x_frm,.int .i64 x_to] 3))) := (Below.refl _ _).alloc (Nat.le_refl _) _
 have HC1 := hq' (wints_any [5,x_frm,x_to] (by simp) (by simp only [List.mem_cons,List.not_mem_nil,or_false,forall_eq_or_imp,forall_eq]; exact ⟨n0,n1,n2⟩) _ _ (ints3_cl C1.out) (LW1.out.below (bt B0.out D1.out)))
 go_wp2_with fail
 refine HC1.out.mono ?_
 rintro e w11 ⟨v11,rfl,ho1,hb1⟩
 have B10 := hq' (bt D1.out hb1)
 have B1 := hq' (bt B0.out B10.out)
 have hs1 := HI.out _ B1.out
 have HR1 := hq' (ownsRow_weaken ho1 (show w1.heap.size ≤ (w1.alloc (.cells #[.int .i64 5,.int .i64 x_frm,.int .i64 x_to] 3)).heap.size by have := HI.out _ (bt B0.out D1.out); exact this))
 clear hb1 ho1 HC1 C1 D1
 clear CX a0 a1 a2
 have kx := (CA.out.below B1.out).cell 0
 simp only [g0',gs'] at kx
 have CX := hq' (CA.out.below B1.out)
 have a3 := CX.out.cell 3
 have a4 := CX.out.cell 4
 simp only [g0',gs'] at a3 a4
 have C2 : Hid (Cl (w11.alloc (.cells #[.int .i64 x_part,.int .i64 x_ep] 3)) w11.heap.size [.int .i64 x_part,.int .i64 x_ep] 3) := Cl.new w11 _ _
 have D2 : Hid (Below w11.heap.size w11 (w11.alloc (.cells #[.int .i64 x_part,.int .i64 x_ep] 3))) := (Below.refl _ _).alloc (Nat.le_refl _) _
 have HC2 := hq' (wints_any [x_part,x_ep] (by simp) (by simp only [List.mem_cons,List.not_mem_nil,or_false,forall_eq_or_imp,forall_eq]; exact ⟨n3,n4⟩) _ _ (ints2_cl C2.out) (LW1.out.below (bt B1.out D2.out)))
 go_wp2_with fail
 refine HC2.out.mono ?_
 rintro e w12 ⟨v12,rfl,ho2,hb2⟩
 have B20 := hq' (bt D2.out hb2)
 have B2 := hq' (bt B1.out B20.out)
 have hs2 := HI.out _ B2.out
 have HR2 := hq' (ownsRow_weaken ho2 (show w1.heap.size ≤ (w11.alloc (.cells #[.int .i64 x_part,.int .i64 x_ep] 3)).heap.size by have := HI.out _ (bt B1.out D2.out); exact this))
 clear hb2 ho2 HC2 C2 D2
 clear CX a3 a4
 have HO2 := hq' (ownsRow_below HR1.out B20.out)
 clear HR1
 clear kx
 have HS3 := hq' (own_slice HR2.out (by simp))
 obtain ⟨g3,cap3,hv3,hc3⟩ := HS3.out
 subst hv3
 clear HS3
 go_wp2_with (at_builtin; refine wpList_append_own _ rfl _ _ 93 rfl w1.heap.size 9 i0 (.string ⟨#[]⟩) 1 16 Tryz.underlying93 hi hz0 hz1 hz2 rfl (by decide) _ _ _ rfl HO2.out ⟨g3,0,none⟩ _ _ (sv ([x_part,x_ep].map Bd.bInt)) rfl (by simp [sv]) hc3 ?_ ?_ ?_ ?_ ?_)
 ·simp [sv,Value.oneCell']
 ·unfold maxLen; simp
 ·simp
 ·omega
 intro v13 w13 hown3 hg3 _
 have HO3 : Hid (w13.ownsRow w1.heap.size 9 1 v13 (([5,x_frm,x_to].map Bd.bInt) ++ ([x_part,x_ep].map Bd.bInt)).length (sv (([5,x_frm,x_to].map Bd.bInt) ++ ([x_part,x_ep].map Bd.bInt)))) := by rw [Hid,sv_append]; exact hown3
 have B3 : Hid (Below w1.heap.size w1 w13) := B2.out.grown hg3 B2.out.size (fun kk hkk => (HO2.out.lt kk hkk).1)
 clear hown3 hg3 hc3
 have kx := (CA.out.below B3.out).cell 0
 simp only [g0',gs'] at kx
 have CX := hq' (CA.out.below B3.out)
 have a12 := CX.out.cell 12
 have a13 := CX.out.cell 13
 have a14 := CX.out.cell 14
 have a15 := CX.out.cell 15
 have a16 := CX.out.cell 16
 have a17 := CX.out.cell 17
 simp only [g0',gs'] at a12 a13 a14 a15 a16 a17
 have LW4 := hq' (LW1.out.below B3.out)
 have HJ4 := hq' (encode_any x_batch HO.out.b _ w13 (HM.out.kept (BW.out _ B3.out)).brecs LW4.out)
 rw [encR,if_pos GB.out] at HJ4
 unfold batV at HJ4
 go_wp2_with fail
 refine HJ4.out.mono ?_
 rintro e w14 ⟨rfl,hb4⟩
 have HO4 := hq' (ownsRow_below HO3.out hb4)
 have B4 := hq' (bt B3.out hb4)
 have hs4 := HI.out _ B4.out
 clear hb4 HJ4 HO3
 clear CX a12 a13 a14 a15 a16 a17
 clear kx
 have LW6 := hq' (LW1.out.below B4.out)
 have HJ6 := hq' (beadText_any (Cr.enc x_batch) HEL.out w14 LW6.out)
 generalize hbl6 : Bd.bText (Cr.enc x_batch) = bl6 at HJ6 HFM
 clear hbl6
 go_wp2_with fail
 refine HJ6.out.mono ?_
 rintro e w16 ⟨rfl,hb6⟩
 have HO6 := hq' (ownsRow_below HO4.out hb6)
 have B6 := hq' (bt B4.out hb6)
 have hs6 := HI.out _ B6.out
 clear hb6 HJ6 HO4
 go_wp2_with (at_builtin; refine wpList_append_own _ rfl _ _ 93 rfl w1.heap.size 9 i0 (.string ⟨#[]⟩) 1 16 Tryz.underlying93 hi hz0 hz1 hz2 rfl (by decide) _ _ _ rfl (World.ownsRow.alloc HO6.out _) ⟨w16.heap.size,0,none⟩ 1 1 [.string ⟨bl6.toArray⟩] rfl rfl (cells_new _ [bl6] _) ?_ ?_ ?_ ?_ ?_)
 ·simp [Value.oneCell']
 ·unfold maxLen; simp
 ·simp
 ·simp; omega
 intro v25 w25 hown5 hg5 _
 have HO5 : Hid (w25.ownsRow w1.heap.size 9 1 v25 ((([5,x_frm,x_to].map Bd.bInt) ++ ([x_part,x_ep].map Bd.bInt)) ++ [bl6]).length (sv ((([5,x_frm,x_to].map Bd.bInt) ++ ([x_part,x_ep].map Bd.bInt)) ++ [bl6]))) := by rw [Hid,sv_append]; exact hown5
 have B5 : Hid (Below w1.heap.size w1 w25) := (B6.out.alloc hs6 _).grown hg5 (by simp; omega) (fun kk hkk => (HO6.out.lt kk hkk).1)
 clear hown5 hg5 HO6
 go_wp2
 go_ret
 refine ⟨_,rfl,?_,BW.out _ B5.out⟩
 rw [HFM.out]
 exact ownsRow_weaken HO5.out HSW.out
theorem wfields_k6 (m : Wi.Msg) (v : MsgV) (w : World) (h : MsgAt w m v) (ok : MsgOk m) (hk : m.kind = 6) (hg : Wi.good m = true) (hw : Lw w) :
  Calls Tryz.prog 47 #[msgV m v] w (WStrs w (Wi.fieldsL m)) := by
 have HW := hq' hw
 have HM := hq' h
 have HO := hq' ok
 have hn := ok.n
 simp only [List.mem_cons,List.not_mem_nil,or_false,forall_eq_or_imp,forall_eq] at hn
 obtain ⟨n0,n1,n2,n3,n4,n5,n6,n7,_⟩ := hn
 obtain ⟨i0,hi,hz0,hz1,hz2⟩ := info_parts cinfoStr
 obtain ⟨s0,c0,s1,c1,s2,c2,s3,c3,s4,c4,s5,c5,s6,c6,rfl⟩ := h.slices
 obtain ⟨x_kind,x_frm,x_to,x_part,x_ep,x_off,x_high,x_life,x_pep,x_chain,x_learner,x_lives,x_batch,x_table,x_req,x_resp⟩ := m
 dsimp only at *
 subst hk
 clear h ok hw hg
 have HFM : Hid (Wi.fieldsL ⟨6,x_frm,x_to,x_part,x_ep,x_off,x_high,x_life,x_pep,x_chain,x_learner,x_lives,x_batch,x_table,x_req,x_resp⟩ = [6,x_frm,x_to].map Bd.bInt ++ [x_part,x_ep].map Bd.bInt ++ [x_off,x_high].map Bd.bInt) := by rw [Hid]; simp [Wi.fieldsL,Wi.headL,Wi.tailL]
 unfold msgV msgC
 dsimp only
 go_enter Tryz.func47,Tryz.ntmps47
 obtain ⟨w1,hw1,CA,B1⟩ := oneBox (w := w) (.int .i64 6::.int .i64 x_frm::.int .i64 x_to::xt x_part x_ep x_off x_high x_life x_pep x_chain x_learner x_lives x_batch x_table x_req x_resp s0 c0 s1 c1 s2 c2 s3 c3 s4 c4 s5 c5 s6 c6) 44
 have HW1 := hq' hw1
 clear hw1
 go_upto_region 1 with (fail)
 first | rw [HW1.out] | skip
 clear HW1
 have hpa := CA.out.lt
 have HI : Hid (∀ W,Below w1.heap.size w1 W → w1.heap.size ≤ W.heap.size) := fun W h => h.size
 have BW : Hid (∀ W,Below w1.heap.size w1 W → Below w.heap.size w W) := fun W h => bt B1.out h
 have LW1 := hq' (HW.out.below B1.out)
 have HSW : Hid (w.heap.size ≤ w1.heap.size) := B1.out.size
 have B0 : Hid (Below w1.heap.size w1 w1) := Below.refl _ _
 obtain ⟨pa,hpa2⟩ : ∃ pa,pa = w.heap.size := ⟨_,rfl⟩
 rw [← hpa2] at CA ⊢
 have HPA := hq' hpa2
 clear hpa2 hpa
 have CX := hq' (CA.out.below B0.out)
 have a0 := CX.out.cell 0
 have a1 := CX.out.cell 1
 have a2 := CX.out.cell 2
 simp only [g0',gs'] at a0 a1 a2
 have C1 : Hid (Cl (w1.alloc (.cells #[.int .i64 6,.int .i64 x_frm,.int .i64 x_to] 3)) w1.heap.size [.int .i64 6,.int .i64 x_frm,.int .i64 x_to] 3) := Cl.new w1 _ _
 have D1 : Hid (Below w1.heap.size w1 (w1.alloc (.cells #[.int .i64 6,.int .i64 x_frm,.int .i64 x_to] 3))) := (Below.refl _ _).alloc (Nat.le_refl _) _
 have HC1 := hq' (wints_any [6,x_frm,x_to] (by simp) (by simp only [List.mem_cons,List.not_mem_nil,or_false,forall_eq_or_imp,forall_eq]; exact ⟨n0,n1,n2⟩) _ _ (ints3_cl C1.out) (LW1.out.below (bt B0.out D1.out)))
 go_wp2_with fail
 refine HC1.out.mono ?_
 rintro e w11 ⟨v11,rfl,ho1,hb1⟩
 have B10 := hq' (bt D1.out hb1)
 have B1 := hq' (bt B0.out B10.out)
 have hs1 := HI.out _ B1.out
 have HR1 := hq' (ownsRow_weaken ho1 (show w1.heap.size ≤ (w1.alloc (.cells #[.int .i64 6,.int .i64 x_frm,.int .i64 x_to] 3)).heap.size by have := HI.out _ (bt B0.out D1.out); exact this))
 clear hb1 ho1 HC1 C1 D1
 clear CX a0 a1 a2
 have kx := (CA.out.below B1.out).cell 0
 simp only [g0',gs'] at kx
 have CX := hq' (CA.out.below B1.out)
 have a3 := CX.out.cell 3
 have a4 := CX.out.cell 4
 simp only [g0',gs'] at a3 a4
 have C2 : Hid (Cl (w11.alloc (.cells #[.int .i64 x_part,.int .i64 x_ep] 3)) w11.heap.size [.int .i64 x_part,.int .i64 x_ep] 3) := Cl.new w11 _ _
 have D2 : Hid (Below w11.heap.size w11 (w11.alloc (.cells #[.int .i64 x_part,.int .i64 x_ep] 3))) := (Below.refl _ _).alloc (Nat.le_refl _) _
 have HC2 := hq' (wints_any [x_part,x_ep] (by simp) (by simp only [List.mem_cons,List.not_mem_nil,or_false,forall_eq_or_imp,forall_eq]; exact ⟨n3,n4⟩) _ _ (ints2_cl C2.out) (LW1.out.below (bt B1.out D2.out)))
 go_wp2_with fail
 refine HC2.out.mono ?_
 rintro e w12 ⟨v12,rfl,ho2,hb2⟩
 have B20 := hq' (bt D2.out hb2)
 have B2 := hq' (bt B1.out B20.out)
 have hs2 := HI.out _ B2.out
 have HR2 := hq' (ownsRow_weaken ho2 (show w1.heap.size ≤ (w11.alloc (.cells #[.int .i64 x_part,.int .i64 x_ep] 3)).heap.size by have := HI.out _ (bt B1.out D2.out); exact this))
 clear hb2 ho2 HC2 C2 D2
 clear CX a3 a4
 have HO2 := hq' (ownsRow_below HR1.out B20.out)
 clear HR1
 clear kx
 have HS3 := hq' (own_slice HR2.out (by simp))
 obtain ⟨g3,cap3,hv3,hc3⟩ := HS3.out
 subst hv3
 clear HS3
 go_wp2_with (at_builtin; refine wpList_append_own _ rfl _ _ 93 rfl w1.heap.size 9 i0 (.string ⟨#[]⟩) 1 16 Tryz.underlying93 hi hz0 hz1 hz2 rfl (by decide) _ _ _ rfl HO2.out ⟨g3,0,none⟩ _ _ (sv ([x_part,x_ep].map Bd.bInt)) rfl (by simp [sv]) hc3 ?_ ?_ ?_ ?_ ?_)
 ·simp [sv,Value.oneCell']
 ·unfold maxLen; simp
 ·simp
 ·omega
 intro v13 w13 hown3 hg3 _
 have HO3 : Hid (w13.ownsRow w1.heap.size 9 1 v13 (([6,x_frm,x_to].map Bd.bInt) ++ ([x_part,x_ep].map Bd.bInt)).length (sv (([6,x_frm,x_to].map Bd.bInt) ++ ([x_part,x_ep].map Bd.bInt)))) := by rw [Hid,sv_append]; exact hown3
 have B3 : Hid (Below w1.heap.size w1 w13) := B2.out.grown hg3 B2.out.size (fun kk hkk => (HO2.out.lt kk hkk).1)
 clear hown3 hg3 hc3
 have kx := (CA.out.below B3.out).cell 0
 simp only [g0',gs'] at kx
 have CX := hq' (CA.out.below B3.out)
 have a5 := CX.out.cell 5
 have a6 := CX.out.cell 6
 simp only [g0',gs'] at a5 a6
 have C4 : Hid (Cl (w13.alloc (.cells #[.int .i64 x_off,.int .i64 x_high] 3)) w13.heap.size [.int .i64 x_off,.int .i64 x_high] 3) := Cl.new w13 _ _
 have D4 : Hid (Below w13.heap.size w13 (w13.alloc (.cells #[.int .i64 x_off,.int .i64 x_high] 3))) := (Below.refl _ _).alloc (Nat.le_refl _) _
 have HC4 := hq' (wints_any [x_off,x_high] (by simp) (by simp only [List.mem_cons,List.not_mem_nil,or_false,forall_eq_or_imp,forall_eq]; exact ⟨n5,n6⟩) _ _ (ints2_cl C4.out) (LW1.out.below (bt B3.out D4.out)))
 go_wp2_with fail
 refine HC4.out.mono ?_
 rintro e w14 ⟨v14,rfl,ho4,hb4⟩
 have B40 := hq' (bt D4.out hb4)
 have B4 := hq' (bt B3.out B40.out)
 have hs4 := HI.out _ B4.out
 have HR4 := hq' (ownsRow_weaken ho4 (show w1.heap.size ≤ (w13.alloc (.cells #[.int .i64 x_off,.int .i64 x_high] 3)).heap.size by have := HI.out _ (bt B3.out D4.out); exact this))
 clear hb4 ho4 HC4 C4 D4
 clear CX a5 a6
 have HO4 := hq' (ownsRow_below HO3.out B40.out)
 clear HO3
 clear kx
 have HS5 := hq' (own_slice HR4.out (by simp))
 obtain ⟨g5,cap5,hv5,hc5⟩ := HS5.out
 subst hv5
 clear HS5
 go_wp2_with (at_builtin; refine wpList_append_own _ rfl _ _ 93 rfl w1.heap.size 9 i0 (.string ⟨#[]⟩) 1 16 Tryz.underlying93 hi hz0 hz1 hz2 rfl (by decide) _ _ _ rfl HO4.out ⟨g5,0,none⟩ _ _ (sv ([x_off,x_high].map Bd.bInt)) rfl (by simp [sv]) hc5 ?_ ?_ ?_ ?_ ?_)
 ·simp [sv,Value.oneCell']
 ·unfold maxLen; simp
 ·simp
 ·omega
 intro v15 w15 hown5 hg5 _
 have HO5 : Hid (w15.ownsRow w1.heap.size 9 1 v15 ((([6,x_frm,x_to].map Bd.bInt) ++ ([x_part,x_ep].map Bd.bInt)) ++ ([x_off,x_high].map Bd.bInt)).length (sv ((([6,x_frm,x_to].map Bd.bInt) ++ ([x_part,x_ep].map Bd.bInt)) ++ ([x_off,x_high].map Bd.bInt)))) := by rw [Hid,sv_append]; exact hown5
 have B5 : Hid (Below w1.heap.size w1 w15) := B4.out.grown hg5 B4.out.size (fun kk hkk => (HO4.out.lt kk hkk).1)
 clear hown5 hg5 hc5
 go_wp2
 go_ret
 refine ⟨_,rfl,?_,BW.out _ B5.out⟩
 rw [HFM.out]
 exact ownsRow_weaken HO5.out HSW.out
theorem wfields_k7 (m : Wi.Msg) (v : MsgV) (w : World) (h : MsgAt w m v) (ok : MsgOk m) (hk : m.kind = 7) (hg : Wi.good m = true) (hw : Lw w) :
  Calls Tryz.prog 47 #[msgV m v] w (WStrs w (Wi.fieldsL m)) := by
 have HW := hq' hw
 have HM := hq' h
 have HO := hq' ok
 have hn := ok.n
 simp only [List.mem_cons,List.not_mem_nil,or_false,forall_eq_or_imp,forall_eq] at hn
 obtain ⟨n0,n1,n2,n3,n4,n5,n6,n7,n8,n9,q0,q1,q2,q3,q4,q5,q6,q7,r0,r1,r2,r3,r4,r5⟩ := hn
 obtain ⟨i0,hi,hz0,hz1,hz2⟩ := info_parts cinfoStr
 obtain ⟨s0,c0,s1,c1,s2,c2,s3,c3,s4,c4,s5,c5,s6,c6,rfl⟩ := h.slices
 obtain ⟨x_kind,x_frm,x_to,x_part,x_ep,x_off,x_high,x_life,x_pep,x_chain,x_learner,x_lives,x_batch,x_table,x_req,x_resp⟩ := m
 dsimp only at *
 subst hk
 have hrq := Wi.reqB_parts (q := x_req) (by have := hg; simp [Wi.good,Wi.lastB] at this; exact this.2)
 obtain ⟨_,_,_,_,_,_,_,_,hgr,hme,hrl,hrr⟩ := hrq
 have HL1 : Hid (x_req.group.length ≤ 140737488355328) := by rw [Hid]; omega
 have HL2 : Hid (x_req.member.length ≤ 140737488355328) := by rw [Hid]; omega
 have HL3 : Hid (x_req.recs.length ≤ 16) := by rw [Hid]; omega
 have HL4 : Hid (∀ x ∈ x_req.recs,Cr.isRec x = true ∧ 0 ≤ x.off ∧ x.off ≤ 1099511627776) := fun x hx => ⟨(hrr x hx).2,by have := (hrr x hx).1; omega,by have := (hrr x hx).1; omega⟩
 clear hgr hme hrl hrr
 clear h ok hw hg
 have HFM : Hid (Wi.fieldsL ⟨7,x_frm,x_to,x_part,x_ep,x_off,x_high,x_life,x_pep,x_chain,x_learner,x_lives,x_batch,x_table,x_req,x_resp⟩ = [7,x_frm,x_to].map Bd.bInt ++ [x_part,x_ep].map Bd.bInt ++ [x_req.client,x_req.n,x_req.kind,x_req.part,x_req.seq,x_req.off,x_req.max,x_req.gen].map Bd.bInt ++ [Bd.bText x_req.group,Bd.bText x_req.member,Wi.encRecs x_req.recs]) := by rw [Hid]; simp [Wi.fieldsL,Wi.headL,Wi.tailL,Wi.reqNumsL,Wi.respNumsL]
 unfold msgV msgC
 dsimp only
 go_enter Tryz.func47,Tryz.ntmps47
 obtain ⟨w1,hw1,CA,B1⟩ := oneBox (w := w) (.int .i64 7::.int .i64 x_frm::.int .i64 x_to::xt x_part x_ep x_off x_high x_life x_pep x_chain x_learner x_lives x_batch x_table x_req x_resp s0 c0 s1 c1 s2 c2 s3 c3 s4 c4 s5 c5 s6 c6) 44
 have HW1 := hq' hw1
 clear hw1
 go_upto_region 1 with (fail)
 first | rw [HW1.out] | skip
 clear HW1
 have hpa := CA.out.lt
 have HI : Hid (∀ W,Below w1.heap.size w1 W → w1.heap.size ≤ W.heap.size) := fun W h => h.size
 have BW : Hid (∀ W,Below w1.heap.size w1 W → Below w.heap.size w W) := fun W h => bt B1.out h
 have LW1 := hq' (HW.out.below B1.out)
 have HSW : Hid (w.heap.size ≤ w1.heap.size) := B1.out.size
 have B0 : Hid (Below w1.heap.size w1 w1) := Below.refl _ _
 obtain ⟨pa,hpa2⟩ : ∃ pa,pa = w.heap.size := ⟨_,rfl⟩
 rw [← hpa2] at CA ⊢
 have HPA := hq' hpa2
 clear hpa2 hpa
 have CX := hq' (CA.out.below B0.out)
 have a0 := CX.out.cell 0
 have a1 := CX.out.cell 1
 have a2 := CX.out.cell 2
 simp only [g0',gs'] at a0 a1 a2
 have C1 : Hid (Cl (w1.alloc (.cells #[.int .i64 7,.int .i64 x_frm,.int .i64 x_to] 3)) w1.heap.size [.int .i64 7,.int .i64 x_frm,.int .i64 x_to] 3) := Cl.new w1 _ _
 have D1 : Hid (Below w1.heap.size w1 (w1.alloc (.cells #[.int .i64 7,.int .i64 x_frm,.int .i64 x_to] 3))) := (Below.refl _ _).alloc (Nat.le_refl _) _
 have HC1 := hq' (wints_any [7,x_frm,x_to] (by simp) (by simp only [List.mem_cons,List.not_mem_nil,or_false,forall_eq_or_imp,forall_eq]; exact ⟨n0,n1,n2⟩) _ _ (ints3_cl C1.out) (LW1.out.below (bt B0.out D1.out)))
 go_wp2_with fail
 refine HC1.out.mono ?_
 rintro e w11 ⟨v11,rfl,ho1,hb1⟩
 have B10 := hq' (bt D1.out hb1)
 have B1 := hq' (bt B0.out B10.out)
 have hs1 := HI.out _ B1.out
 have HR1 := hq' (ownsRow_weaken ho1 (show w1.heap.size ≤ (w1.alloc (.cells #[.int .i64 7,.int .i64 x_frm,.int .i64 x_to] 3)).heap.size by have := HI.out _ (bt B0.out D1.out); exact this))
 clear hb1 ho1 HC1 C1 D1
 clear CX a0 a1 a2
 have kx := (CA.out.below B1.out).cell 0
 simp only [g0',gs'] at kx
 have CX := hq' (CA.out.below B1.out)
 have a3 := CX.out.cell 3
 have a4 := CX.out.cell 4
 simp only [g0',gs'] at a3 a4
 have C2 : Hid (Cl (w11.alloc (.cells #[.int .i64 x_part,.int .i64 x_ep] 3)) w11.heap.size [.int .i64 x_part,.int .i64 x_ep] 3) := Cl.new w11 _ _
 have D2 : Hid (Below w11.heap.size w11 (w11.alloc (.cells #[.int .i64 x_part,.int .i64 x_ep] 3))) := (Below.refl _ _).alloc (Nat.le_refl _) _
 have HC2 := hq' (wints_any [x_part,x_ep] (by simp) (by simp only [List.mem_cons,List.not_mem_nil,or_false,forall_eq_or_imp,forall_eq]; exact ⟨n3,n4⟩) _ _ (ints2_cl C2.out) (LW1.out.below (bt B1.out D2.out)))
 go_wp2_with fail
 refine HC2.out.mono ?_
 rintro e w12 ⟨v12,rfl,ho2,hb2⟩
 have B20 := hq' (bt D2.out hb2)
 have B2 := hq' (bt B1.out B20.out)
 have hs2 := HI.out _ B2.out
 have HR2 := hq' (ownsRow_weaken ho2 (show w1.heap.size ≤ (w11.alloc (.cells #[.int .i64 x_part,.int .i64 x_ep] 3)).heap.size by have := HI.out _ (bt B1.out D2.out); exact this))
 clear hb2 ho2 HC2 C2 D2
 clear CX a3 a4
 have HO2 := hq' (ownsRow_below HR1.out B20.out)
 clear HR1
 clear kx
 have HS3 := hq' (own_slice HR2.out (by simp))
 obtain ⟨g3,cap3,hv3,hc3⟩ := HS3.out
 subst hv3
 clear HS3
 go_wp2_with (at_builtin; refine wpList_append_own _ rfl _ _ 93 rfl w1.heap.size 9 i0 (.string ⟨#[]⟩) 1 16 Tryz.underlying93 hi hz0 hz1 hz2 rfl (by decide) _ _ _ rfl HO2.out ⟨g3,0,none⟩ _ _ (sv ([x_part,x_ep].map Bd.bInt)) rfl (by simp [sv]) hc3 ?_ ?_ ?_ ?_ ?_)
 ·simp [sv,Value.oneCell']
 ·unfold maxLen; simp
 ·simp
 ·omega
 intro v13 w13 hown3 hg3 _
 have HO3 : Hid (w13.ownsRow w1.heap.size 9 1 v13 (([7,x_frm,x_to].map Bd.bInt) ++ ([x_part,x_ep].map Bd.bInt)).length (sv (([7,x_frm,x_to].map Bd.bInt) ++ ([x_part,x_ep].map Bd.bInt)))) := by rw [Hid,sv_append]; exact hown3
 have B3 : Hid (Below w1.heap.size w1 w13) := B2.out.grown hg3 B2.out.size (fun kk hkk => (HO2.out.lt kk hkk).1)
 clear hown3 hg3 hc3
 have kx := (CA.out.below B3.out).cell 0
 simp only [g0',gs'] at kx
 have CX := hq' (CA.out.below B3.out)
 have a19 := CX.out.cell 19
 have a20 := CX.out.cell 20
 have a21 := CX.out.cell 21
 have a22 := CX.out.cell 22
 have a23 := CX.out.cell 23
 have a24 := CX.out.cell 24
 have a25 := CX.out.cell 25
 have a26 := CX.out.cell 26
 have a27 := CX.out.cell 27
 have a28 := CX.out.cell 28
 have a29 := CX.out.cell 29
 simp only [g0',gs'] at a19 a20 a21 a22 a23 a24 a25 a26 a27 a28 a29
 have CQ : Hid (Cl (w13.alloc (.cells #[.int .i64 x_req.client,.int .i64 x_req.n,.int .i64 x_req.kind,.int .i64 x_req.part,.int .i64 x_req.seq,.int .i64 x_req.off,.int .i64 x_req.max,.int .i64 x_req.gen,.string ⟨x_req.group.toArray⟩,.string ⟨x_req.member.toArray⟩,.slice s4 x_req.recs.length c4] 39)) w13.heap.size [.int .i64 x_req.client,.int .i64 x_req.n,.int .i64 x_req.kind,.int .i64 x_req.part,.int .i64 x_req.seq,.int .i64 x_req.off,.int .i64 x_req.max,.int .i64 x_req.gen,.string ⟨x_req.group.toArray⟩,.string ⟨x_req.member.toArray⟩,.slice s4 x_req.recs.length c4] 39) := Cl.new w13 _ _
 have BQ : Hid (Below w13.heap.size w13 (w13.alloc (.cells #[.int .i64 x_req.client,.int .i64 x_req.n,.int .i64 x_req.kind,.int .i64 x_req.part,.int .i64 x_req.seq,.int .i64 x_req.off,.int .i64 x_req.max,.int .i64 x_req.gen,.string ⟨x_req.group.toArray⟩,.string ⟨x_req.member.toArray⟩,.slice s4 x_req.recs.length c4] 39))) := (Below.refl _ _).alloc (Nat.le_refl _) _
 go_upto_region 8 with (fail)
 generalize (w13.alloc (.cells #[.int .i64 x_req.client,.int .i64 x_req.n,.int .i64 x_req.kind,.int .i64 x_req.part,.int .i64 x_req.seq,.int .i64 x_req.off,.int .i64 x_req.max,.int .i64 x_req.gen,.string ⟨x_req.group.toArray⟩,.string ⟨x_req.member.toArray⟩,.slice s4 x_req.recs.length c4] 39)) = w8 at *
 have HO8 := hq' (ownsRow_below HO3.out BQ.out)
 have B8 := hq' (bt B3.out BQ.out)
 generalize w13.heap.size = px at *
 clear CX a19 a20 a21 a22 a23 a24 a25 a26 a27 a28 a29
 clear HO3 BQ
 have CX := hq' (CQ.out)
 have a0 := CX.out.cell 0
 have a1 := CX.out.cell 1
 have a2 := CX.out.cell 2
 have a3 := CX.out.cell 3
 have a4 := CX.out.cell 4
 have a5 := CX.out.cell 5
 have a6 := CX.out.cell 6
 have a7 := CX.out.cell 7
 simp only [g0',gs'] at a0 a1 a2 a3 a4 a5 a6 a7
 have C4 : Hid (Cl (w8.alloc (.cells #[.int .i64 x_req.client,.int .i64 x_req.n,.int .i64 x_req.kind,.int .i64 x_req.part,.int .i64 x_req.seq,.int .i64 x_req.off,.int .i64 x_req.max,.int .i64 x_req.gen] 3)) w8.heap.size [.int .i64 x_req.client,.int .i64 x_req.n,.int .i64 x_req.kind,.int .i64 x_req.part,.int .i64 x_req.seq,.int .i64 x_req.off,.int .i64 x_req.max,.int .i64 x_req.gen] 3) := Cl.new w8 _ _
 have D4 : Hid (Below w8.heap.size w8 (w8.alloc (.cells #[.int .i64 x_req.client,.int .i64 x_req.n,.int .i64 x_req.kind,.int .i64 x_req.part,.int .i64 x_req.seq,.int .i64 x_req.off,.int .i64 x_req.max,.int .i64 x_req.gen] 3))) := (Below.refl _ _).alloc (Nat.le_refl _) _
 have HC4 := hq' (wints_any [x_req.client,x_req.n,x_req.kind,x_req.part,x_req.seq,x_req.off,x_req.max,x_req.gen] (by simp) (by simp only [List.mem_cons,List.not_mem_nil,or_false,forall_eq_or_imp,forall_eq]; exact ⟨q0,q1,q2,q3,q4,q5,q6,q7⟩) _ _ (ints8_cl C4.out) (LW1.out.below (bt B8.out D4.out)))
 go_wp2_with fail
 refine HC4.out.mono ?_
 rintro e w14 ⟨v14,rfl,ho4,hb4⟩
 have B40 := hq' (bt D4.out hb4)
 have B4 := hq' (bt B8.out B40.out)
 have hs4 := HI.out _ B4.out
 have HR4 := hq' (ownsRow_weaken ho4 (show w1.heap.size ≤ (w8.alloc (.cells #[.int .i64 x_req.client,.int .i64 x_req.n,.int .i64 x_req.kind,.int .i64 x_req.part,.int .i64 x_req.seq,.int .i64 x_req.off,.int .i64 x_req.max,.int .i64 x_req.gen] 3)).heap.size by have := HI.out _ (bt B8.out D4.out); exact this))
 clear hb4 ho4 HC4 C4 D4
 clear CX a0 a1 a2 a3 a4 a5 a6 a7
 have HO4 := hq' (ownsRow_below HO8.out B40.out)
 clear HO8
 have HS5 := hq' (own_slice HR4.out (by simp))
 obtain ⟨g5,cap5,hv5,hc5⟩ := HS5.out
 subst hv5
 clear HS5
 go_wp2_with (at_builtin; refine wpList_append_own _ rfl _ _ 93 rfl w1.heap.size 9 i0 (.string ⟨#[]⟩) 1 16 Tryz.underlying93 hi hz0 hz1 hz2 rfl (by decide) _ _ _ rfl HO4.out ⟨g5,0,none⟩ _ _ (sv ([x_req.client,x_req.n,x_req.kind,x_req.part,x_req.seq,x_req.off,x_req.max,x_req.gen].map Bd.bInt)) rfl (by simp [sv]) hc5 ?_ ?_ ?_ ?_ ?_)
 ·simp [sv,Value.oneCell']
 ·unfold maxLen; simp
 ·simp
 ·omega
 intro v15 w15 hown5 hg5 _
 have HO5 : Hid (w15.ownsRow w1.heap.size 9 1 v15 ((([7,x_frm,x_to].map Bd.bInt) ++ ([x_part,x_ep].map Bd.bInt)) ++ ([x_req.client,x_req.n,x_req.kind,x_req.part,x_req.seq,x_req.off,x_req.max,x_req.gen].map Bd.bInt)).length (sv ((([7,x_frm,x_to].map Bd.bInt) ++ ([x_part,x_ep].map Bd.bInt)) ++ ([x_req.client,x_req.n,x_req.kind,x_req.part,x_req.seq,x_req.off,x_req.max,x_req.gen].map Bd.bInt)))) := by rw [Hid,sv_append]; exact hown5
 have B5 : Hid (Below w1.heap.size w1 w15) := B4.out.grown hg5 B4.out.size (fun kk hkk => (HO4.out.lt kk hkk).1)
 have CQ5 := hq' (Cl.grown (CQ.out.below B40.out) hg5 (own_ne HO4.out (CQ.out.below B40.out) (by decide)))
 clear CQ
 clear hown5 hg5 hc5
 have hm0 : Hid (∀ W,Below w15.heap.size w15 W → W.cell? ⟨px,8,none⟩ = some (.string ⟨x_req.group.toArray⟩) ∧ W.cell? ⟨px,9,none⟩ = some (.string ⟨x_req.member.toArray⟩) ∧ W.cell? ⟨px,10,none⟩ = some (.slice s4 x_req.recs.length c4)) := fun W hW => ⟨Cl.cell (CQ5.out.below hW) 8,Cl.cell (CQ5.out.below hW) 9,Cl.cell (CQ5.out.below hW) 10⟩
 have hne := own_ne HO5.out CQ5.out (by decide)
 have BF : Hid (∀ W,Below w15.heap.size w15 W → Below w1.heap.size w1 W) := fun W h => bt B5.out h
 have J1 := hq' (fun W (hW : Below w15.heap.size w15 W) => beadText_any x_req.group HL1.out W (LW1.out.below (BF.out _ hW)))
 have J2 := hq' (fun W (hW : Below w15.heap.size w15 W) => beadText_any x_req.member HL2.out W (LW1.out.below (BF.out _ hW)))
 have J3 := hq' (fun W (hW : Below w15.heap.size w15 W) => wrecs_any x_req.recs HL3.out HL4.out _ W (HM.out.kept (BW.out _ (BF.out _ hW))).qrecs (LW1.out.below (BF.out _ hW)))
 generalize hbl1 : Bd.bText x_req.group = t1 at J1 HFM
 generalize hbl2 : Bd.bText x_req.member = t2 at J2 HFM
 generalize hbl3 : Wi.encRecs x_req.recs = t3 at J3 HFM
 clear hbl1 hbl2 hbl3
 have T0 : Hid (Below w15.heap.size w15 w15.drew) := (Below.refl _ _).drew
 obtain ⟨q8,q9,q10⟩ := hm0.out _ (Below.refl _ _)
 have hs8 := HI.out _ B5.out
 have hone : ∀ u ∈ [Value.string ⟨t1.toArray⟩,.string ⟨t2.toArray⟩,.string ⟨t3.toArray⟩],u.oneCell' = true := by simp [Value.oneCell']
 generalize hLL : ((([7,x_frm,x_to].map Bd.bInt) ++ ([x_part,x_ep].map Bd.bInt)) ++ ([x_req.client,x_req.n,x_req.kind,x_req.part,x_req.seq,x_req.off,x_req.max,x_req.gen].map Bd.bInt)) = LL at *
 have hLn : LL.length ≤ 20 := by rw [← hLL]; simp
 have h63 : LL.length + 3 ≤ maxLen := by unfold maxLen; omega
 have hby : (LL.length + 3) * 16 ≤ 140737488355328 := by omega
 go_upto_region 9 with (fail)
 go_region_held3 (fun W => W.cell? ⟨px,8,none⟩ = some (.string ⟨x_req.group.toArray⟩) ∧ W.cell? ⟨px,9,none⟩ = some (.string ⟨x_req.member.toArray⟩) ∧ W.cell? ⟨px,10,none⟩ = some (.slice s4 x_req.recs.length c4)) (first | assumption | exact ⟨q8,q9,q10⟩ | exact S1.out | exact S2.out | exact S3.out | exact hm0.out _ U5.out | exact S7.out) (first
  | (go_at_call 81; refine (J1.out _ T0.out).mono ?_; rintro e w91 ⟨rfl,hb91⟩; have T1 := hq' (bt T0.out hb91); have S1 := hq' (hm0.out _ T1.out); clear hb91)
  | (go_at_call 81; refine (J2.out _ T1.out).mono ?_; rintro e w92 ⟨rfl,hb92⟩; have T2 := hq' (bt T1.out hb92); have S2 := hq' (hm0.out _ T2.out); clear hb92)
  | (go_at_call 82; refine (J3.out _ T2.out).mono ?_; rintro e w95 ⟨rfl,hb95⟩; have T5 := hq' (bt T2.out hb95); have S3 := hq' (hm0.out _ T5.out); clear hb95; have U5 := hq' (T5.out.alloc T5.out.size (.cells #[.string ⟨t1.toArray⟩,.string ⟨t2.toArray⟩,.string ⟨t3.toArray⟩] 9)); have HO5 := hq' (ownsRow_below HO5.out T5.out))
  | (refine step_append_lies _ (by rfl) _ _ _ (by rfl) w1.heap.size 9 i0 _ 1 16 Tryz.underlying93 hi hz0 hz1 hz2 rfl Nat.one_pos v15 LL.length (sv LL) (by rfl) (World.ownsRow.alloc HO5.out _) ⟨w95.heap.size,0,none⟩ 3 3 [.string ⟨t1.toArray⟩,.string ⟨t2.toArray⟩,.string ⟨t3.toArray⟩] (by rfl) (by rfl) (cells_new _ [t1,t2,t3] _) hone (by decide) h63 hby (Nat.le_trans hs8 U5.out.size) (w95.heap.size + 1) (World.size_alloc _ _) ?_; intro g11 cap11 w11z hown11 hg11 hat11 hlt11; have S7 := hq' (And.intro (hg11.cell (hm0.out _ U5.out).1 hne) (And.intro (hg11.cell (hm0.out _ U5.out).2.1 hne) (hg11.cell (hm0.out _ U5.out).2.2 hne)))))
 have HO99 : Hid (w11z.ownsRow w1.heap.size 9 1 (.slice (some ⟨g11,0,none⟩) (LL.length + 3) cap11) (LL ++ [t1,t2,t3]).length (sv (LL ++ [t1,t2,t3]))) := by rw [Hid,sv_append,show (LL ++ [t1,t2,t3]).length = LL.length + 3 by simp]; exact hown11
 have B99 : Hid (Below w1.heap.size w1 w11z) := (BF.out _ U5.out).grown hg11 (BF.out _ U5.out).size (fun kk hkk => (HO5.out.lt kk hkk).1)
 clear hown11 hg11
 go_wp2
 go_ret
 refine ⟨_,rfl,?_,BW.out _ B99.out⟩
 rw [HFM.out]
 exact ownsRow_weaken HO99.out HSW.out
end Go.Proofs.YtbljbdjmgogknaaGreatDoor
