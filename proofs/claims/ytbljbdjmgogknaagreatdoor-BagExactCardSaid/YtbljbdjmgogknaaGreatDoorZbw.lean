/-
  He: texts of one proof, one behind the other.
  Conditions: none of its own.
-/
import Derived.Test.YtbljbdjmgogknaaGreatDoorZbv
set_option linter.unusedVariables false
set_option linter.unusedSimpArgs false
set_option maxHeartbeats 25600000
namespace Go.Proofs.YtbljbdjmgogknaaGreatDoor
open Go.RowKit
attribute [local go_sem] Oper.semAt_some
def ActK (x : ActX) : Prop := ActOk x ∧ CapOk x.v.arecs
def actMX (x : ActX) : MX := ⟨x.m,x.v⟩
theorem act_msg {w : World} {b off : Nat} {x : ActX} {cs : List Value} (hcs : actC x = cs) (h : w.rangeAt b off cs) : w.rangeAt b (off + 1) (msgC x.m x.v) := fun j v hv => by
 rw [Nat.add_assoc]
 refine h (1 + j) v ?_
 rw [← hcs,actC,Nat.add_comm 1 j,List.getElem?_cons_succ,List.getElem?_append_left (List.getElem?_eq_some_iff.1 hv).1]
 exact hv
theorem EX.of {w0 w : World} {pb ub : Nat} {X : List (Nat × List Value × TypeId)} (h : BagW w w0.heap.size pb (.slice none 0 0) []) (c : Cl w ub [.slice none 0 0] 29) (g : w0.heap.size ≤ ub) (hp : pb ≠ ub) (b : Below w0.heap.size w0 w)
  (x : ∀ y ∈ X,Cl w y.1 y.2.1 y.2.2 ∧ pb ≠ y.1 ∧ y.1 ≠ ub) : EX w0 w pb (.slice none 0 0) ub (.slice none 0 0) (itsX []) [] X :=
 ⟨h,⟨c,Sl.nil _ _ _,g,fun j hj => by simp [Value.ownBlock] at hj,b⟩,⟨hp,fun j hj => by simp [Value.ownBlock] at hj⟩,fun j hj => by simp [Value.ownBlock] at hj,
  fun y hy => ⟨(x y hy).1,⟨(x y hy).2.1,fun j hj => by simp [Value.ownBlock] at hj⟩,(x y hy).2.2,fun j hj => by simp [Value.ownBlock] at hj⟩⟩
theorem quiet_row {o : Oper} {a : Act} {w : World} {K : Act → Prop} {x : Operand} {g off : Nat} {cs : List Value} (ho : o.op = .load 44 x) (hx : a.eval x = .pointer (some ⟨g,off,none⟩)) (hc : w.rangeAt g off cs) (hi : (Tryz.prog.info? 44).map (·.size) = some cs.length) (hk : K (a.put o.dst (.agg cs.toArray))) : o.quiet Tryz.prog a (fun W => ∃ b : BelowOf w,W = b.1) K :=
 ⟨_,fun W hW => by
  obtain ⟨b,rfl⟩ := hW
  unfold Oper.quietAt
  rw [exec_load ho hx (run_loadAt_mid (P := Tryz.prog) b.1 g off 44 cs _ (fun j v hv => b.cell (hc j v hv)) Tryz.underlying44 rfl hi)]
  exact ⟨rfl,rfl⟩,hk⟩
theorem EX.boxKeep {w0 w w' : World} {pb ub b : Nat} {lv uv : Value} {I : List Item} {L : List MX} {cs : List Value} {t : TypeId} {X : List (Nat × List Value × TypeId)} (h : EX w0 w pb lv ub uv I L ((b,cs,t)::X)) (hn : ∀ y ∈ X,y.1 ≠ b) (hb : w0.heap.size ≤ b) (k : Keeps (fun j => j = b) w w') : EX w0 w' pb lv ub uv I L X := by
 obtain ⟨h1,h2,h3,h4⟩ := h.x _ (List.mem_cons_self ..)
 refine ⟨h.h.keep k (fun e => h2.b e) (fun j hj e => h2.n j hj e),h.u.keep k (fun e => h3 e.symm) (fun j hj e => h4 j hj e) (fun j hj e => by subst e; omega),h.pu,h.pr,fun y hy => ?_⟩
 obtain ⟨g1,g2⟩ := h.x y (List.mem_cons_of_mem _ hy)
 exact ⟨g1.keep k (hn y hy),g2⟩
set_option maxRecDepth 100000 in
theorem bagExact_walk (v : Value) (xs : List ActX) (w : World) (hz : ActsAt w v xs) (hl : xs.length ≤ maxLen) (ho : ∀ x ∈ xs,ActK x) (hw : Lw w) :
  Calls Tryz.prog 3 #[v] w fun e w' => e = .returned (.bool true) ∧ Below w.heap.size w w' := by
 have HZ := hq' hz
 have HW := hq' hw
 have HO := hq' ho
 obtain ⟨az,capz,rfl,_⟩ := id hz
 clear hz hw ho
 unfold maxLen at hl
 refine (callsIn_wide (n := 6)).1 ?_
 refine callsIn_of_wp_marks Tryz.func3 rfl trivial ?_ rfl
 simp only [Tryz.ntmps3,List.size_toArray,List.length_cons,List.length_nil,Nat.reduceAdd,Nat.reduceSub,Array.replicate_succ,Array.replicate_zero,List.push_toArray,List.append_toArray,List.nil_append,List.cons_append]
 refine wpIn_wide.2 ?_
 let zBP : Exit → Act → World → Prop := bodyPost Tryz.prog Tryz.f3 (fun _ _ => True)
 have R0 : Hid (Cl (w.alloc (.cells #[.bool false] 4)) w.heap.size [.bool false] 4) := Cl.new w _ _
 have B0 : Hid (Below w.heap.size w (w.alloc (.cells #[.bool false] 4))) := (Below.refl _ _).alloc (Nat.le_refl _) _
 go_upto_region 1 with (fail)
 generalize w.alloc (.cells #[.bool false] 4) = w1 at *
 go_wp2_with fail
 refine (awakeM_any w1 (HW.out.below B0.out)).mono ?_
 rintro e w2 ⟨rfl,hb1⟩
 have B1 := hq' (bt B0.out hb1)
 have R1 := hq' (R0.out.below hb1)
 clear hb1 B0 R0
 go_wp2_with fail
 refine (bagNew_any w2).mono ?_
 rintro e w3 ⟨rfl,h,hb⟩
 have H3 : Hid (BagW w3 w.heap.size w2.heap.size (.slice none 0 0) []) := ⟨h.c,Sl.nil _ _ _,h.n,B1.out.size,h.m⟩
 have B3 : Hid (Below w.heap.size w w3) := bt B1.out hb
 have R3 := hq' (R1.out.below hb)
 have hrb0 := R1.out.lt
 have hpb3 := H3.out.c.lt
 clear h hb R1 B1
 have hsz := World.size_alloc w3 (.cells #[.slice none 0 0] 29)
 have EA : Hid (EX w (w3.alloc (.cells #[.slice none 0 0] 29)) w2.heap.size (.slice none 0 0) w3.heap.size (.slice none 0 0) (itsX []) [] [(w.heap.size,[.bool false],4)]) :=
  EX.of (H3.out.below ((Below.refl _ _).alloc (Nat.le_refl _) _)) (Cl.new w3 [.slice none 0 0] 29) (by have := B3.out.size; omega) (by omega) (B3.out.alloc B3.out.size _) (fun y hy => by
   rw [List.mem_singleton.1 hy]
   exact ⟨R3.out.alloc _,by simp only; omega,by have := R3.out.lt; simp only; omega⟩)
 have EB := EA.out.box (Cl.new (w3.alloc (.cells #[.slice none 0 0] 29)) [.pointer (some ⟨w3.heap.size,0,none⟩)] 26) ((Below.refl _ _).alloc (Nat.le_refl _) _)
 rw [hsz] at EB
 have E0 := hq' EB
 clear EA EB H3 B3 R3 hrb0 hpb3
 go_upto_region 5 with (fail)
 first | rw [hsz] | skip
 clear hsz
 generalize (w3.alloc (.cells #[.slice none 0 0] 29)).alloc (.cells #[.pointer (some ⟨w3.heap.size,0,none⟩)] 26) = w4 at *
 generalize w2.heap.size = pb at *
 generalize w3.heap.size + 1 = bx at *
 generalize w3.heap.size = ub at *
 generalize hrb : w.heap.size = rb at *
 have HRB := hq' hrb
 clear hrb
 go_wp2
 go_loopw [5] (fun ti wr => ∃ (k : Nat) (L : List MX),ti = .int .i64 (k : Int) ∧ k ≤ xs.length ∧ k ≤ 400 ∧ ExOk w L ∧ exQ w pb ub (itsX L) L [(bx,[.pointer (some ⟨ub,0,none⟩)],26),(rb,[.bool false],4)] wr) (fun ti _ => xs.length - (intOf ti).toNat)
 case atStart => exact ⟨0,[],rfl,by omega,by omega,⟨by simp,fun x hx => by cases hx⟩,_,_,E0.out⟩
 case round =>
  obtain ⟨k,L,rfl,hk,hk2,hL,hC⟩ := hrel
  have CK := hq' hC
  have HL := hq' hL
  clear hC E0 hL
  by_cases hgo : k < xs.length ∧ k < 400
  ·obtain ⟨hlt,h60⟩ := hgo
   have hlti : (k : Int) < (xs.length : Int) := by omega
   have h60i : (k : Int) < 400 := by omega
   obtain ⟨x,hx⟩ : ∃ x,xs[k]? = some x := ⟨xs[k],by simp [hlt]⟩
   have hox := HO.out x (List.mem_of_getElem? hx)
   obtain ⟨az',capz',he,hz⟩ := HZ.out
   obtain ⟨g,off,e1,hg,hr,hmx⟩ := hz k x hx
   injection he with f1 f2 f3
   subst f1 f3 e1
   obtain ⟨cs,hcs,h0,h39,HLN,HIA,HIL,HSZ,HON⟩ := act_cells x hox.1
   have HCS := hq' hcs
   have HOX := hq' hox
   have HMX := hq' hmx
   have MK : Hid (MxOk (actMX x)) := ⟨hox.1.1,hox.2⟩
   rw [hcs] at hr
   obtain ⟨lv,uv,hE⟩ := CK.out
   have EK := hq' hE
   have RG : Hid (wr.rangeAt g (off + k * 40) cs) := fun j u hu => (EK.out.u.b.cell (p := ⟨g,off + k * 40 + j,none⟩) hg).trans (hr j u hu)
   obtain ⟨cm,hcm,hmv,hcm2,HL38,HIM,HIMA,HMA,HMO⟩ := mx_cells (actMX x) w hmx
   have HCM := hq' hcm
   obtain ⟨w5,hw5,C5,B5,Q5⟩ := box_row wr (.int .i64 0::.int .i64 0::.int .i64 0::.int .i64 0::.int .i64 0::.int .i64 0::.int .i64 0::.int .i64 0::.int .i64 0::.int .i64 0::.slice none 0 0::.int .i64 0::.slice none 0 0::.int .i64 0::.int .i64 0::.int .i64 0::.int .i64 0::.int .i64 0::.slice none 0 0::.slice none 0 0::.int .i64 0::.int .i64 0::.int .i64 0::.int .i64 0::.int .i64 0::.int .i64 0::.int .i64 0::.int .i64 0::.string ⟨#[]⟩::.string ⟨#[]⟩::.slice none 0 0::.int .i64 0::.int .i64 0::.int .i64 0::.int .i64 0::.int .i64 0::.int .i64 0::.slice none 0 0::.slice none 0 0::.int .i64 0::[]) cs 46
   have HW5 := hq' hw5
   have E5 := hq' (EK.out.box C5.out B5.out)
   clear hx hox hz hr hcs f2 hE CK hw5 hmv hcm hmx
   go_upto_region 9 with (first
    | (refine wpList_load_mid (by rfl) _ _ (by rfl) g (off + k * 40) (by rfl) cs _ RG.out Tryz.underlying46 (by rfl) HIL.out ?_)
    | (refine wpList_store_row (by rfl) _ _ _ (by rfl) wr.heap.size cs.toArray (by rfl) (by rfl) 46 _ Q5.out HIA.out HSZ.out HON.out ?_))
   first | rw [HW5.out] | skip
   have KR : Hid (Keeps (fun _ => False) wr w5) := Keeps.below _ B5.out
   clear Q5 RG EK HIA HIL HSZ HON HLN HW5 B5
   generalize wr.heap.size = xb at *
   have RM5 : Hid (w5.rangeAt xb 1 cm) := by
    have := act_msg (b := xb) (off := 0) HCS.out C5.out.range
    rw [Nat.zero_add] at this
    exact HCM.out ▸ this
   have HSM := hq' (small_any (actMX x) w5 (HMX.out.kept E5.out.u.b) HOX.out.1.1 cm HCM.out)
   unfold SomeB at HSM
   go_wp2_with (refine wpList_load_mid (by rfl) _ _ (by rfl) xb 1 (by rfl) cm _ RM5.out Tryz.underlying44 (by rfl) HIM.out ?_)
   refine HSM.out.mono ?_
   rintro e w6 ⟨sb,rfl,hb⟩
   have E6 := hq' (E5.out.below hb)
   have C6 := hq' (C5.out.below hb)
   clear hb E5 C5 RM5 HSM KR
   cases sb with
   | false =>
    have dr : w6.cell? ⟨rb,0,none⟩ = some (.bool false) := (E6.out.x (rb,[.bool false],4) (by simp)).1.cell 0
    have fr : w6.frozen? ⟨rb,0,none⟩ = false := (E6.out.x (rb,[.bool false],4) (by simp)).1.free 0
    go_wp2
    have hc5 := World.cell?_setCell_same' w6 ⟨rb,0,none⟩ (.bool true) (by rw [dr]; rfl)
    refine ⟨.bool true,?_,rfl,E6.out.u.b.setCell (p := ⟨rb,0,none⟩) (Nat.le_of_eq HRB.out) _⟩
    simp [results,Tryz.f3,go_sem,hc5]
   | true =>
    have HX6 : Hid (exQ w pb ub (itsX L) L ((xb,cs,46)::[(bx,[.pointer (some ⟨ub,0,none⟩)],26),(rb,[.bool false],4)]) w6) := ⟨lv,uv,E6.out⟩
    have d0 : w6.cell? ⟨xb,0,none⟩ = some (.int .i64 x.kind) := (C6.out.cell 0).trans h0
    have HC39 := hq' h39
    clear h0 h39 E6 C6
    go_upto_block 2 with (fail)
    go_cut [] (fun wz => ∃ L' : List MX,ExOk w L' ∧ exQ w pb ub (itsX L') L' ((xb,cs,46)::[(bx,[.pointer (some ⟨ub,0,none⟩)],26),(rb,[.bool false],4)]) wz)
    case first =>
     by_cases eK : x.kind = 1
     ·as_aux_lemma =>
       have hq1 : (x.kind == 1) = true := by rw [eK]; rfl
       have hq2 : (x.kind == 2) = false := by rw [eK]; rfl
       have hq3 : (x.kind == 3) = false := by rw [eK]; rfl
       have hq4 : (x.kind == 4) = false := by rw [eK]; rfl
       have HK0 := hq' eK
       clear eK
       have HB := hq' (fun W h => ex_put_b w pb ub L ((xb,cs,46)::[(bx,[.pointer (some ⟨ub,0,none⟩)],26),(rb,[.bool false],4)]) (actMX x) cm HCM.out HMX.out MK.out HW.out W h)
       have HU := hq' (fun W h => ex_put_u w pb ub (itsX (putL (actMX x) L)) L ((xb,cs,46)::[(bx,[.pointer (some ⟨ub,0,none⟩)],26),(rb,[.bool false],4)]) (actMX x) cm HCM.out HMX.out MK.out W h)
       have HOK := hq' (putL_ok HL.out MK.out HMX.out)
       have hv0 : (putN (actMX x) L != putN (actMX x) L) = false := by simp
       generalize hvv : putN (actMX x) L = vv at *
       generalize hL2 : putL (actMX x) L = L2 at *
       clear hL2 hvv
       obtain ⟨QC,hQC⟩ : ∃ QC,QC = exC 3 7 (exQ w pb ub (itsX L) L ((xb,cs,46)::[(bx,[.pointer (some ⟨ub,0,none⟩)],26),(rb,[.bool false],4)])) (exQ w pb ub (itsX L2) L ((xb,cs,46)::[(bx,[.pointer (some ⟨ub,0,none⟩)],26),(rb,[.bool false],4)])) (exQ w pb ub (itsX L2) L2 ((xb,cs,46)::[(bx,[.pointer (some ⟨ub,0,none⟩)],26),(rb,[.bool false],4)])) := ⟨_,rfl⟩
       have MC : Hid (∀ W,(exQ w pb ub (itsX L) L ((xb,cs,46)::[(bx,[.pointer (some ⟨ub,0,none⟩)],26),(rb,[.bool false],4)]) W ∨ exQ w pb ub (itsX L2) L ((xb,cs,46)::[(bx,[.pointer (some ⟨ub,0,none⟩)],26),(rb,[.bool false],4)]) W ∨ exQ w pb ub (itsX L2) L2 ((xb,cs,46)::[(bx,[.pointer (some ⟨ub,0,none⟩)],26),(rb,[.bool false],4)]) W) → Cl W xb cs 46 ∧ Cl W bx [.pointer (some ⟨ub,0,none⟩)] 26) := fun W h => by
        rcases h with h | h | h <;> exact ⟨h.cl (by simp),h.cl (by simp)⟩
       have MR : Hid (∀ W,(exQ w pb ub (itsX L) L ((xb,cs,46)::[(bx,[.pointer (some ⟨ub,0,none⟩)],26),(rb,[.bool false],4)]) W ∨ exQ w pb ub (itsX L2) L ((xb,cs,46)::[(bx,[.pointer (some ⟨ub,0,none⟩)],26),(rb,[.bool false],4)]) W ∨ exQ w pb ub (itsX L2) L2 ((xb,cs,46)::[(bx,[.pointer (some ⟨ub,0,none⟩)],26),(rb,[.bool false],4)]) W) → W.rangeAt xb 1 cm) := fun W h => by
        have := act_msg (b := xb) (off := 0) HCS.out (MC.out W h).1.range
        rw [Nat.zero_add] at this
        exact HCM.out ▸ this
       subst hQC
       have m0 := fun y : AnyOf (exC 3 7 (exQ w pb ub (itsX L) L ((xb,cs,46)::[(bx,[.pointer (some ⟨ub,0,none⟩)],26),(rb,[.bool false],4)])) (exQ w pb ub (itsX L2) L ((xb,cs,46)::[(bx,[.pointer (some ⟨ub,0,none⟩)],26),(rb,[.bool false],4)])) (exQ w pb ub (itsX L2) L2 ((xb,cs,46)::[(bx,[.pointer (some ⟨ub,0,none⟩)],26),(rb,[.bool false],4)]))) => ((MC.out y.1 y.2.choose_spec.any).2.cell 0).trans (show [Value.pointer (some ⟨ub,0,none⟩)][0]? = some (.pointer (some ⟨ub,0,none⟩)) from rfl)
       have m39 := fun y : AnyOf (exC 3 7 (exQ w pb ub (itsX L) L ((xb,cs,46)::[(bx,[.pointer (some ⟨ub,0,none⟩)],26),(rb,[.bool false],4)])) (exQ w pb ub (itsX L2) L ((xb,cs,46)::[(bx,[.pointer (some ⟨ub,0,none⟩)],26),(rb,[.bool false],4)])) (exQ w pb ub (itsX L2) L2 ((xb,cs,46)::[(bx,[.pointer (some ⟨ub,0,none⟩)],26),(rb,[.bool false],4)]))) => ((MC.out y.1 y.2.choose_spec.any).1.cell 39).trans HC39.out
       clear d0
       go_upto_region 13 with (fail)
       have hC0 : exC 3 7 (exQ w pb ub (itsX L) L ((xb,cs,46)::[(bx,[.pointer (some ⟨ub,0,none⟩)],26),(rb,[.bool false],4)])) (exQ w pb ub (itsX L2) L ((xb,cs,46)::[(bx,[.pointer (some ⟨ub,0,none⟩)],26),(rb,[.bool false],4)])) (exQ w pb ub (itsX L2) L2 ((xb,cs,46)::[(bx,[.pointer (some ⟨ub,0,none⟩)],26),(rb,[.bool false],4)])) (Array.replicate 9 false) w6.drew := HX6.out.below (Below.refl _ _).drew
       have hne : Nonempty (AnyOf (exC 3 7 (exQ w pb ub (itsX L) L ((xb,cs,46)::[(bx,[.pointer (some ⟨ub,0,none⟩)],26),(rb,[.bool false],4)])) (exQ w pb ub (itsX L2) L ((xb,cs,46)::[(bx,[.pointer (some ⟨ub,0,none⟩)],26),(rb,[.bool false],4)])) (exQ w pb ub (itsX L2) L2 ((xb,cs,46)::[(bx,[.pointer (some ⟨ub,0,none⟩)],26),(rb,[.bool false],4)])))) := ⟨⟨_,_,hC0⟩⟩
       refine wp_region_ranks (exC 3 7 (exQ w pb ub (itsX L) L ((xb,cs,46)::[(bx,[.pointer (some ⟨ub,0,none⟩)],26),(rb,[.bool false],4)])) (exQ w pb ub (itsX L2) L ((xb,cs,46)::[(bx,[.pointer (some ⟨ub,0,none⟩)],26),(rb,[.bool false],4)])) (exQ w pb ub (itsX L2) L2 ((xb,cs,46)::[(bx,[.pointer (some ⟨ub,0,none⟩)],26),(rb,[.bool false],4)]))) _ (by kernel_rfl) (by kernel_rfl) rfl hC0 ?_
       clear hC0
       refine rQuiet_head 2 (by decide) (by kernel_rfl) (fun i L W h1 h2 hc => hc.set (by omega) (by omega)) ?_
       simp only [tk',t0',dk',d0']
       repeat (go_big_quiet_step (fail))
       refine wpQuiet_nil ?_
       refine rQuiet_value (.agg cm.toArray) (fun W => W) rfl (fun L w hD hi hc => ⟨exec_load rfl rfl (run_loadAt_mid (P := Tryz.prog) _ xb 1 44 cm _ (MR.out _ hc.any) Tryz.underlying44 rfl HIM.out),hc.set (by omega) (by omega)⟩) ?_
       simp only [Act.put,ta',sz',ss']
       refine rQuiet_call (f := 10) (args := #[.pointer (some ⟨pb,0,none⟩),.agg cm.toArray]) (.int .i64 vv) rfl (fun w => exec_call2 _ _ _ _ 42 44 _ _ _ rfl rfl rfl rfl (enters_of Tryz.func10 (by kernel_rfl) rfl _ _)) (fun L w hD hi hc => ?_) ?_
       ·have h1 := ready_not hi
        have h2 := DCl.no hD (i := 3) (j := 7) (by kernel_rfl) h1
        exact (HB.out _ (hc.zero h1 h2)).mono fun e w' ⟨he,hq⟩ => ⟨he,exC.at1 (by rw [hD.1]; decide) (by decide) h2 hq⟩
       simp only [Act.put,ta',sz',ss']
       refine rQuiet_head 2 (by decide) (by kernel_rfl) (fun i L W h1 h2 hc => hc.set (by omega) (by omega)) ?_
       simp only [tk',t0',dk',d0']
       repeat (go_big_quiet_step (fail))
       refine wpQuiet_nil ?_
       refine rQuiet_value (.agg cm.toArray) (fun W => W) rfl (fun L w hD hi hc => ⟨exec_load rfl rfl (run_loadAt_mid (P := Tryz.prog) _ xb 1 44 cm _ (MR.out _ hc.any) Tryz.underlying44 rfl HIM.out),hc.set (by omega) (by omega)⟩) ?_
       simp only [Act.put,ta',sz',ss']
       refine rQuiet_call (f := 11) (args := #[.pointer (some ⟨ub,0,none⟩),.agg cm.toArray]) (.int .i64 vv) rfl (fun w => exec_call2 _ _ _ _ 46 48 _ _ _ rfl rfl rfl rfl (enters_of Tryz.func11 (by kernel_rfl) rfl _ _)) (fun L w hD hi hc => ?_) ?_
       ·have h2 := ready_not hi
        have h1 : L.getD 3 false = true := ready_wait hi (i := 3) (by kernel_rfl)
        exact (HU.out _ (hc.one h1 h2)).mono fun e w' ⟨he,hq⟩ => ⟨he,exC.at2 (by rw [hD.1]; decide) hq⟩
       simp only [Act.put,ta',sz',ss']
       refine rQuiet_head 1 (by decide) (by kernel_rfl) (fun i L W h1 h2 hc => hc.set (by omega) (by omega)) ?_
       simp only [tk',t0',dk',d0']
       repeat (go_big_quiet_step (fail))
       refine wpQuiet_nil ?_
       intro w9 h9
       have H9 : Hid (exQ w pb ub (itsX L2) L2 ((xb,cs,46)::[(bx,[.pointer (some ⟨ub,0,none⟩)],26),(rb,[.bool false],4)]) w9) := h9
       clear h9 m0 m39 hne MC MR HB HU HX6
       go_wp2
       go_meet
       case rel => exact ⟨L2,HOK.out,H9.out⟩
     have hq1 : (x.kind == 1) = false := beq_eq_false_iff_ne.2 eK
     clear eK
     by_cases eK : x.kind = 3
     ·as_aux_lemma =>
       have hq1 : (x.kind == 1) = false := by rw [eK]; rfl
       have hq2 : (x.kind == 2) = false := by rw [eK]; rfl
       have hq3 : (x.kind == 3) = true := by rw [eK]; rfl
       have hq4 : (x.kind == 4) = false := by rw [eK]; rfl
       have HK0 := hq' eK
       clear eK
       have HB := hq' (fun W h => ex_copy_b w pb ub L ((xb,cs,46)::[(bx,[.pointer (some ⟨ub,0,none⟩)],26),(rb,[.bool false],4)]) x.n HL.out.1 W h)
       have HU := hq' (fun W h => ex_copy_u w pb ub (itsX (copyL x.n L)) L ((xb,cs,46)::[(bx,[.pointer (some ⟨ub,0,none⟩)],26),(rb,[.bool false],4)]) x.n HL.out W h)
       have HOK := hq' (copyL_ok (n := x.n) HL.out)
       have hv0 : (copyB x.n L != copyB x.n L) = false := by simp
       generalize hvv : copyB x.n L = vv at *
       generalize hL2 : copyL x.n L = L2 at *
       clear hL2 hvv
       obtain ⟨QC,hQC⟩ : ∃ QC,QC = exC 3 7 (exQ w pb ub (itsX L) L ((xb,cs,46)::[(bx,[.pointer (some ⟨ub,0,none⟩)],26),(rb,[.bool false],4)])) (exQ w pb ub (itsX L2) L ((xb,cs,46)::[(bx,[.pointer (some ⟨ub,0,none⟩)],26),(rb,[.bool false],4)])) (exQ w pb ub (itsX L2) L2 ((xb,cs,46)::[(bx,[.pointer (some ⟨ub,0,none⟩)],26),(rb,[.bool false],4)])) := ⟨_,rfl⟩
       have MC : Hid (∀ W,(exQ w pb ub (itsX L) L ((xb,cs,46)::[(bx,[.pointer (some ⟨ub,0,none⟩)],26),(rb,[.bool false],4)]) W ∨ exQ w pb ub (itsX L2) L ((xb,cs,46)::[(bx,[.pointer (some ⟨ub,0,none⟩)],26),(rb,[.bool false],4)]) W ∨ exQ w pb ub (itsX L2) L2 ((xb,cs,46)::[(bx,[.pointer (some ⟨ub,0,none⟩)],26),(rb,[.bool false],4)]) W) → Cl W xb cs 46 ∧ Cl W bx [.pointer (some ⟨ub,0,none⟩)] 26) := fun W h => by
        rcases h with h | h | h <;> exact ⟨h.cl (by simp),h.cl (by simp)⟩
       have MR : Hid (∀ W,(exQ w pb ub (itsX L) L ((xb,cs,46)::[(bx,[.pointer (some ⟨ub,0,none⟩)],26),(rb,[.bool false],4)]) W ∨ exQ w pb ub (itsX L2) L ((xb,cs,46)::[(bx,[.pointer (some ⟨ub,0,none⟩)],26),(rb,[.bool false],4)]) W ∨ exQ w pb ub (itsX L2) L2 ((xb,cs,46)::[(bx,[.pointer (some ⟨ub,0,none⟩)],26),(rb,[.bool false],4)]) W) → W.rangeAt xb 1 cm) := fun W h => by
        have := act_msg (b := xb) (off := 0) HCS.out (MC.out W h).1.range
        rw [Nat.zero_add] at this
        exact HCM.out ▸ this
       subst hQC
       have m0 := fun y : AnyOf (exC 3 7 (exQ w pb ub (itsX L) L ((xb,cs,46)::[(bx,[.pointer (some ⟨ub,0,none⟩)],26),(rb,[.bool false],4)])) (exQ w pb ub (itsX L2) L ((xb,cs,46)::[(bx,[.pointer (some ⟨ub,0,none⟩)],26),(rb,[.bool false],4)])) (exQ w pb ub (itsX L2) L2 ((xb,cs,46)::[(bx,[.pointer (some ⟨ub,0,none⟩)],26),(rb,[.bool false],4)]))) => ((MC.out y.1 y.2.choose_spec.any).2.cell 0).trans (show [Value.pointer (some ⟨ub,0,none⟩)][0]? = some (.pointer (some ⟨ub,0,none⟩)) from rfl)
       have m39 := fun y : AnyOf (exC 3 7 (exQ w pb ub (itsX L) L ((xb,cs,46)::[(bx,[.pointer (some ⟨ub,0,none⟩)],26),(rb,[.bool false],4)])) (exQ w pb ub (itsX L2) L ((xb,cs,46)::[(bx,[.pointer (some ⟨ub,0,none⟩)],26),(rb,[.bool false],4)])) (exQ w pb ub (itsX L2) L2 ((xb,cs,46)::[(bx,[.pointer (some ⟨ub,0,none⟩)],26),(rb,[.bool false],4)]))) => ((MC.out y.1 y.2.choose_spec.any).1.cell 39).trans HC39.out
       clear d0
       go_upto_region 21 with (fail)
       have hC0 : exC 3 7 (exQ w pb ub (itsX L) L ((xb,cs,46)::[(bx,[.pointer (some ⟨ub,0,none⟩)],26),(rb,[.bool false],4)])) (exQ w pb ub (itsX L2) L ((xb,cs,46)::[(bx,[.pointer (some ⟨ub,0,none⟩)],26),(rb,[.bool false],4)])) (exQ w pb ub (itsX L2) L2 ((xb,cs,46)::[(bx,[.pointer (some ⟨ub,0,none⟩)],26),(rb,[.bool false],4)])) (Array.replicate 9 false) w6.drew := HX6.out.below (Below.refl _ _).drew
       have hne : Nonempty (AnyOf (exC 3 7 (exQ w pb ub (itsX L) L ((xb,cs,46)::[(bx,[.pointer (some ⟨ub,0,none⟩)],26),(rb,[.bool false],4)])) (exQ w pb ub (itsX L2) L ((xb,cs,46)::[(bx,[.pointer (some ⟨ub,0,none⟩)],26),(rb,[.bool false],4)])) (exQ w pb ub (itsX L2) L2 ((xb,cs,46)::[(bx,[.pointer (some ⟨ub,0,none⟩)],26),(rb,[.bool false],4)])))) := ⟨⟨_,_,hC0⟩⟩
       refine wp_region_ranks (exC 3 7 (exQ w pb ub (itsX L) L ((xb,cs,46)::[(bx,[.pointer (some ⟨ub,0,none⟩)],26),(rb,[.bool false],4)])) (exQ w pb ub (itsX L2) L ((xb,cs,46)::[(bx,[.pointer (some ⟨ub,0,none⟩)],26),(rb,[.bool false],4)])) (exQ w pb ub (itsX L2) L2 ((xb,cs,46)::[(bx,[.pointer (some ⟨ub,0,none⟩)],26),(rb,[.bool false],4)]))) _ (by kernel_rfl) (by kernel_rfl) rfl hC0 ?_
       clear hC0
       refine rQuiet_head 3 (by decide) (by kernel_rfl) (fun i L W h1 h2 hc => hc.set (by omega) (by omega)) ?_
       simp only [tk',t0',dk',d0']
       repeat (go_big_quiet_step (fail))
       refine wpQuiet_nil ?_
       refine rQuiet_call (f := 15) (args := #[.pointer (some ⟨pb,0,none⟩),.int .i64 x.n]) (.bool vv) rfl (fun w => exec_call2 _ _ _ _ 78 80 _ _ _ rfl rfl rfl rfl (enters_of Tryz.func15 (by kernel_rfl) rfl _ _)) (fun L w hD hi hc => ?_) ?_
       ·have h1 := ready_not hi
        have h2 := DCl.no hD (i := 3) (j := 7) (by kernel_rfl) h1
        exact (HB.out _ (hc.zero h1 h2)).mono fun e w' ⟨he,hq⟩ => ⟨he,exC.at1 (by rw [hD.1]; decide) (by decide) h2 hq⟩
       simp only [Act.put,ta',sz',ss']
       refine rQuiet_head 3 (by decide) (by kernel_rfl) (fun i L W h1 h2 hc => hc.set (by omega) (by omega)) ?_
       simp only [tk',t0',dk',d0']
       repeat (go_big_quiet_step (fail))
       refine wpQuiet_nil ?_
       refine rQuiet_call (f := 16) (args := #[.pointer (some ⟨ub,0,none⟩),.int .i64 x.n]) (.bool vv) rfl (fun w => exec_call2 _ _ _ _ 82 84 _ _ _ rfl rfl rfl rfl (enters_of Tryz.func16 (by kernel_rfl) rfl _ _)) (fun L w hD hi hc => ?_) ?_
       ·have h2 := ready_not hi
        have h1 : L.getD 3 false = true := ready_wait hi (i := 3) (by kernel_rfl)
        exact (HU.out _ (hc.one h1 h2)).mono fun e w' ⟨he,hq⟩ => ⟨he,exC.at2 (by rw [hD.1]; decide) hq⟩
       simp only [Act.put,ta',sz',ss']
       refine rQuiet_head 1 (by decide) (by kernel_rfl) (fun i L W h1 h2 hc => hc.set (by omega) (by omega)) ?_
       simp only [tk',t0',dk',d0']
       repeat (go_big_quiet_step (fail))
       refine wpQuiet_nil ?_
       intro w9 h9
       have H9 : Hid (exQ w pb ub (itsX L2) L2 ((xb,cs,46)::[(bx,[.pointer (some ⟨ub,0,none⟩)],26),(rb,[.bool false],4)]) w9) := h9
       clear h9 m0 m39 hne MC MR HB HU HX6
       go_wp2
       go_meet
       case rel => exact ⟨L2,HOK.out,H9.out⟩
     have hq3 : (x.kind == 3) = false := beq_eq_false_iff_ne.2 eK
     clear eK
     by_cases eK : x.kind = 4
     ·as_aux_lemma =>
       have hq1 : (x.kind == 1) = false := by rw [eK]; rfl
       have hq2 : (x.kind == 2) = false := by rw [eK]; rfl
       have hq3 : (x.kind == 3) = false := by rw [eK]; rfl
       have hq4 : (x.kind == 4) = true := by rw [eK]; rfl
       have HK0 := hq' eK
       clear eK
       have HB := hq' (fun W h => ex_clear_b w pb ub L ((xb,cs,46)::[(bx,[.pointer (some ⟨ub,0,none⟩)],26),(rb,[.bool false],4)]) x.n W h)
       have HU := hq' (fun W h => ex_clear_u w pb ub (itsX (L.filter (offU x.n))) L ((xb,cs,46)::[(bx,[.pointer (some ⟨ub,0,none⟩)],26),(rb,[.bool false],4)]) x.n HL.out W h)
       have HOK := hq' (clear_ok (u := x.n) HL.out)
       have hv0 : (((L.length : Int) - ((L.filter (offU x.n)).length : Int)) != ((L.length : Int) - ((L.filter (offU x.n)).length : Int))) = false := by simp
       generalize hvv : ((L.length : Int) - ((L.filter (offU x.n)).length : Int)) = vv at *
       generalize hL2 : L.filter (offU x.n) = L2 at *
       clear hL2 hvv
       obtain ⟨QC,hQC⟩ : ∃ QC,QC = exC 3 7 (exQ w pb ub (itsX L) L ((xb,cs,46)::[(bx,[.pointer (some ⟨ub,0,none⟩)],26),(rb,[.bool false],4)])) (exQ w pb ub (itsX L2) L ((xb,cs,46)::[(bx,[.pointer (some ⟨ub,0,none⟩)],26),(rb,[.bool false],4)])) (exQ w pb ub (itsX L2) L2 ((xb,cs,46)::[(bx,[.pointer (some ⟨ub,0,none⟩)],26),(rb,[.bool false],4)])) := ⟨_,rfl⟩
       have MC : Hid (∀ W,(exQ w pb ub (itsX L) L ((xb,cs,46)::[(bx,[.pointer (some ⟨ub,0,none⟩)],26),(rb,[.bool false],4)]) W ∨ exQ w pb ub (itsX L2) L ((xb,cs,46)::[(bx,[.pointer (some ⟨ub,0,none⟩)],26),(rb,[.bool false],4)]) W ∨ exQ w pb ub (itsX L2) L2 ((xb,cs,46)::[(bx,[.pointer (some ⟨ub,0,none⟩)],26),(rb,[.bool false],4)]) W) → Cl W xb cs 46 ∧ Cl W bx [.pointer (some ⟨ub,0,none⟩)] 26) := fun W h => by
        rcases h with h | h | h <;> exact ⟨h.cl (by simp),h.cl (by simp)⟩
       have MR : Hid (∀ W,(exQ w pb ub (itsX L) L ((xb,cs,46)::[(bx,[.pointer (some ⟨ub,0,none⟩)],26),(rb,[.bool false],4)]) W ∨ exQ w pb ub (itsX L2) L ((xb,cs,46)::[(bx,[.pointer (some ⟨ub,0,none⟩)],26),(rb,[.bool false],4)]) W ∨ exQ w pb ub (itsX L2) L2 ((xb,cs,46)::[(bx,[.pointer (some ⟨ub,0,none⟩)],26),(rb,[.bool false],4)]) W) → W.rangeAt xb 1 cm) := fun W h => by
        have := act_msg (b := xb) (off := 0) HCS.out (MC.out W h).1.range
        rw [Nat.zero_add] at this
        exact HCM.out ▸ this
       subst hQC
       have m0 := fun y : AnyOf (exC 3 7 (exQ w pb ub (itsX L) L ((xb,cs,46)::[(bx,[.pointer (some ⟨ub,0,none⟩)],26),(rb,[.bool false],4)])) (exQ w pb ub (itsX L2) L ((xb,cs,46)::[(bx,[.pointer (some ⟨ub,0,none⟩)],26),(rb,[.bool false],4)])) (exQ w pb ub (itsX L2) L2 ((xb,cs,46)::[(bx,[.pointer (some ⟨ub,0,none⟩)],26),(rb,[.bool false],4)]))) => ((MC.out y.1 y.2.choose_spec.any).2.cell 0).trans (show [Value.pointer (some ⟨ub,0,none⟩)][0]? = some (.pointer (some ⟨ub,0,none⟩)) from rfl)
       have m39 := fun y : AnyOf (exC 3 7 (exQ w pb ub (itsX L) L ((xb,cs,46)::[(bx,[.pointer (some ⟨ub,0,none⟩)],26),(rb,[.bool false],4)])) (exQ w pb ub (itsX L2) L ((xb,cs,46)::[(bx,[.pointer (some ⟨ub,0,none⟩)],26),(rb,[.bool false],4)])) (exQ w pb ub (itsX L2) L2 ((xb,cs,46)::[(bx,[.pointer (some ⟨ub,0,none⟩)],26),(rb,[.bool false],4)]))) => ((MC.out y.1 y.2.choose_spec.any).1.cell 39).trans HC39.out
       clear d0
       go_upto_region 24 with (fail)
       have hC0 : exC 3 7 (exQ w pb ub (itsX L) L ((xb,cs,46)::[(bx,[.pointer (some ⟨ub,0,none⟩)],26),(rb,[.bool false],4)])) (exQ w pb ub (itsX L2) L ((xb,cs,46)::[(bx,[.pointer (some ⟨ub,0,none⟩)],26),(rb,[.bool false],4)])) (exQ w pb ub (itsX L2) L2 ((xb,cs,46)::[(bx,[.pointer (some ⟨ub,0,none⟩)],26),(rb,[.bool false],4)])) (Array.replicate 9 false) w6.drew := HX6.out.below (Below.refl _ _).drew
       have hne : Nonempty (AnyOf (exC 3 7 (exQ w pb ub (itsX L) L ((xb,cs,46)::[(bx,[.pointer (some ⟨ub,0,none⟩)],26),(rb,[.bool false],4)])) (exQ w pb ub (itsX L2) L ((xb,cs,46)::[(bx,[.pointer (some ⟨ub,0,none⟩)],26),(rb,[.bool false],4)])) (exQ w pb ub (itsX L2) L2 ((xb,cs,46)::[(bx,[.pointer (some ⟨ub,0,none⟩)],26),(rb,[.bool false],4)])))) := ⟨⟨_,_,hC0⟩⟩
       refine wp_region_ranks (exC 3 7 (exQ w pb ub (itsX L) L ((xb,cs,46)::[(bx,[.pointer (some ⟨ub,0,none⟩)],26),(rb,[.bool false],4)])) (exQ w pb ub (itsX L2) L ((xb,cs,46)::[(bx,[.pointer (some ⟨ub,0,none⟩)],26),(rb,[.bool false],4)])) (exQ w pb ub (itsX L2) L2 ((xb,cs,46)::[(bx,[.pointer (some ⟨ub,0,none⟩)],26),(rb,[.bool false],4)]))) _ (by kernel_rfl) (by kernel_rfl) rfl hC0 ?_
       clear hC0
       refine rQuiet_head 3 (by decide) (by kernel_rfl) (fun i L W h1 h2 hc => hc.set (by omega) (by omega)) ?_
       simp only [tk',t0',dk',d0']
       repeat (go_big_quiet_step (fail))
       refine wpQuiet_nil ?_
       refine rQuiet_call (f := 17) (args := #[.pointer (some ⟨pb,0,none⟩),.int .i64 x.n]) (.int .i64 vv) rfl (fun w => exec_call2 _ _ _ _ 89 91 _ _ _ rfl rfl rfl rfl (enters_of Tryz.func17 (by kernel_rfl) rfl _ _)) (fun L w hD hi hc => ?_) ?_
       ·have h1 := ready_not hi
        have h2 := DCl.no hD (i := 3) (j := 7) (by kernel_rfl) h1
        exact (HB.out _ (hc.zero h1 h2)).mono fun e w' ⟨he,hq⟩ => ⟨he,exC.at1 (by rw [hD.1]; decide) (by decide) h2 hq⟩
       simp only [Act.put,ta',sz',ss']
       refine rQuiet_head 3 (by decide) (by kernel_rfl) (fun i L W h1 h2 hc => hc.set (by omega) (by omega)) ?_
       simp only [tk',t0',dk',d0']
       repeat (go_big_quiet_step (fail))
       refine wpQuiet_nil ?_
       refine rQuiet_call (f := 18) (args := #[.pointer (some ⟨ub,0,none⟩),.int .i64 x.n]) (.int .i64 vv) rfl (fun w => exec_call2 _ _ _ _ 93 95 _ _ _ rfl rfl rfl rfl (enters_of Tryz.func18 (by kernel_rfl) rfl _ _)) (fun L w hD hi hc => ?_) ?_
       ·have h2 := ready_not hi
        have h1 : L.getD 3 false = true := ready_wait hi (i := 3) (by kernel_rfl)
        exact (HU.out _ (hc.one h1 h2)).mono fun e w' ⟨he,hq⟩ => ⟨he,exC.at2 (by rw [hD.1]; decide) hq⟩
       simp only [Act.put,ta',sz',ss']
       refine rQuiet_head 1 (by decide) (by kernel_rfl) (fun i L W h1 h2 hc => hc.set (by omega) (by omega)) ?_
       simp only [tk',t0',dk',d0']
       repeat (go_big_quiet_step (fail))
       refine wpQuiet_nil ?_
       intro w9 h9
       have H9 : Hid (exQ w pb ub (itsX L2) L2 ((xb,cs,46)::[(bx,[.pointer (some ⟨ub,0,none⟩)],26),(rb,[.bool false],4)]) w9) := h9
       clear h9 m0 m39 hne MC MR HB HU HX6
       go_wp2
       go_meet
       case rel => exact ⟨L2,HOK.out,H9.out⟩
     have hq4 : (x.kind == 4) = false := beq_eq_false_iff_ne.2 eK
     clear eK
     by_cases eK : x.kind = 2
     ·as_aux_lemma =>
       have hq1 : (x.kind == 1) = false := by rw [eK]; rfl
       have hq2 : (x.kind == 2) = true := by rw [eK]; rfl
       have hq3 : (x.kind == 3) = false := by rw [eK]; rfl
       have hq4 : (x.kind == 4) = false := by rw [eK]; rfl
       have HK0 := hq' eK
       clear eK
       have HTB := hq' (ex_tk_b w pb ub L ((xb,cs,46)::[(bx,[.pointer (some ⟨ub,0,none⟩)],26),(rb,[.bool false],4)]) x.n HL.out HW.out w6 HX6.out)
       have HTU := hq' (fun X lv uv W h => ex_tk_u w pb ub (itsX (tkL x.n L)) L X x.n HL.out lv uv W h)
       have HMT := hq' (tkM_at (n := x.n) HL.out)
       have HOK := hq' (tkL_ok (n := x.n) HL.out)
       generalize tkL x.n L = L2 at *
       generalize hmt : tkM x.n L = xm at *
       generalize tkB x.n L = tb at *
       clear hmt
       have d39 : w6.cell? ⟨xb,39,none⟩ = some (.int .i64 x.n) := ((HX6.out.cl (b := xb) (cs := cs) (t := 46) (by simp)).cell 39).trans HC39.out
       clear d0
       go_wp2_with fail
       refine HTB.out.mono ?_
       rintro e w7 ⟨v7,rfl,hmo,hok,lv7,uv7,hE7,hub,huv⟩
       obtain ⟨c1,hc1,_,_,HL1,HI1,HI1A,HA1,HO1⟩ := mx_cells ⟨xm.m,v7⟩ w7 hmo.at
       have hc1' : msgC xm.m v7 = c1 := hc1
       rw [hc1']
       obtain ⟨w8,hw8,C8,B8,Q8⟩ := box_row w7 (zt0) c1 44
       have HW8 := hq' hw8
       have E8 := hq' (hE7.box C8.out B8.out)
       have MO8 : Hid (MsgO w8 w6.heap.size xm.m v7) := hmo.keepsS (Keeps.below (fun _ => False) B8.out) (fun _ _ => id)
       have MK8 := hq' hok
       have HS1 : Hid (((zt0).toArray : Array Value).size = (c1.toArray : Array Value).size) := by rw [Hid,List.size_toArray,List.size_toArray,HL1.out]; rfl
       have HUB := hq' hub
       have HUV := hq' huv
       have HC1 := hq' hc1'
       clear hmo hok hE7 hub huv hc1 hc1' hw8 HTB d39 HX6
       go_upto_region 17 with (refine wpList_store_row (by rfl) _ _ _ (by rfl) w7.heap.size c1.toArray (by rfl) (by rfl) 44 _ Q8.out HI1A.out HS1.out HA1.out ?_)
       first | rw [HW8.out] | skip
       clear HW8 Q8 B8 C8
       generalize w7.heap.size = mb1 at *
       have e39 : w8.cell? ⟨xb,39,none⟩ = some (.int .i64 x.n) := ((E8.out.x (xb,cs,46) (by simp)).1.cell 39).trans HC39.out
       have eb : w8.cell? ⟨bx,0,none⟩ = some (.pointer (some ⟨ub,0,none⟩)) := (E8.out.x (bx,[.pointer (some ⟨ub,0,none⟩)],26) (by simp)).1.cell 0
       go_wp2_with fail
       refine (HTU.out ((mb1,c1,44)::((xb,cs,46)::[(bx,[.pointer (some ⟨ub,0,none⟩)],26),(rb,[.bool false],4)])) lv7 uv7 w8 E8.out).mono ?_
       rintro e w9 ⟨rfl,hq,hk⟩
       have H9 := hq' hq
       have MO9 : Hid (MsgO w9 w6.heap.size xm.m v7) := MO8.out.keepsS hk (fun j hj e => by
        rcases e with e | e
        ·have := HUB.out; omega
        ·have := HUV.out j e; omega)
       obtain ⟨c2,hc2,_,_,HL2c,HI2,HI2A,HA2,HO2⟩ := mx_cells xm w HMT.out
       have hc2' : msgC xm.m xm.v = c2 := hc2
       rw [hc2']
       obtain ⟨w10,hw10,C10,B10,Q10⟩ := box_row w9 (zt0) c2 44
       have HW10 := hq' hw10
       have H10 := hq' (H9.out.box C10.out B10.out)
       have MO10 : Hid (MsgO w10 w6.heap.size xm.m v7) := MO9.out.keepsS (Keeps.below (fun _ => False) B10.out) (fun _ _ => id)
       have HS2 : Hid (((zt0).toArray : Array Value).size = (c2.toArray : Array Value).size) := by rw [Hid,List.size_toArray,List.size_toArray,HL2c.out]; rfl
       have HC2 := hq' hc2'
       clear hq hk hc2 hc2' hw10 e39 eb E8 MO8 MO9 H9 HTU
       go_upto_region 18 with (refine wpList_store_row (by rfl) _ _ _ (by rfl) w9.heap.size c2.toArray (by rfl) (by rfl) 44 _ Q10.out HI2A.out HS2.out HA2.out ?_)
       first | rw [HW10.out] | skip
       clear HW10 Q10 B10 C10
       generalize w9.heap.size = mb2 at *
       have HSM2 := hq' (refsameM_any xm.m xm.m v7 xm.v w10 MO10.out.at (HMT.out.kept H10.out.bel) MK8.out MK8.out)
       rw [Wi.same_refl] at HSM2
       unfold msgV at HSM2
       rw [HC1.out,HC2.out] at HSM2
       have RR1 : Hid (w10.rangeAt mb1 0 c1) := (H10.out.cl (b := mb1) (cs := c1) (t := 44) (by simp)).range
       have RR2 : Hid (w10.rangeAt mb2 0 c2) := (H10.out.cl (b := mb2) (cs := c2) (t := 44) (by simp)).range
       have htb : (tb != tb) = false := by simp
       go_wp2_with (first
        | (refine wpList_load_yes (by rfl) _ _ (by rfl) mb1 0 (by rfl) c1 _ RR1.out Tryz.underlying44 (by rfl) HI1.out ?_)
        | (refine wpList_load_yes (by rfl) _ _ (by rfl) mb2 0 (by rfl) c2 _ RR2.out Tryz.underlying44 (by rfl) HI2.out ?_)
        | fail)
       refine HSM2.out.mono ?_
       rintro e w11 ⟨rfl,hb⟩
       have H11 := hq' (H10.out.below hb).drop.drop
       clear hb H10 HSM2 RR1 RR2 MO10
       go_wp2
       go_meet
       case rel => exact ⟨L2,HOK.out,H11.out⟩
     have hq2 : (x.kind == 2) = false := beq_eq_false_iff_ne.2 eK
     clear eK
     go_wp2
     go_meet
     case rel => exact ⟨L,HL.out,HX6.out⟩
    case rest =>
     obtain ⟨L',hL',lv',uv',hE⟩ := hcut
     have CC := hq' hE
     have HL' := hq' hL'
     clear hE hL' HX6 HC39 HCS HOX HMX MK HCM HIM HIMA HMA HMO HL38 HL hcm2
     obtain ⟨a9,cap9,huv9,_⟩ := CC.out.u.o.form
     subst huv9
     have mb := fun y : BelowOf wc => y.cell (show wc.cell? ⟨bx,0,none⟩ = some (.pointer (some ⟨ub,0,none⟩)) from (CC.out.x (bx,[.pointer (some ⟨ub,0,none⟩)],26) (by simp)).1.cell 0)
     have mu := fun y : BelowOf wc => y.cell (show wc.cell? ⟨ub,0,none⟩ = some (.slice a9 L'.length cap9) from CC.out.u.c.cell 0)
     have HLN := hq' (fun y : BelowOf wc => (bagLen_any w.heap.size pb lv' (itsX L') y.1 (CC.out.h.below y.2)).mono (fun e w' (h : _ ∧ _) => (⟨h.1,y,h.2⟩ : _ ∧ ∃ c : BelowOf wc,w' = c.1)))
     rw [itsX_len] at HLN
     go_upto_region 26 with (fail)
     refine wp_region_below (by kernel_rfl) (by kernel_rfl) ?_
     go_big_quiet_step (fail)
     go_big_quiet_step ((exact HLN.out _))
     repeat (go_big_quiet_step (fail))
     refine wpQuiet_nil ?_
     intro w8 h8
     obtain ⟨⟨w8,hb8⟩,rfl⟩ := h8
     have C8 := hq' (CC.out.below hb8).drop
     clear hb8 CC mb mu HLN
     go_wp2
     go_roundw
     case rel => exact ⟨k + 1,L',by go_num,by omega,by omega,HL'.out,_,_,C8.out⟩
     case measure => simp [intOf]; omega
  ·have hend : k = xs.length ∨ k = 400 := by omega
   go_upto_region 6 with (fail)
   go_cut [27] (fun t wz => t = .bool false ∧ wz = wr)
   case first =>
    by_cases hkl : k < xs.length
    ·have hkli : (k : Int) < (xs.length : Int) := by omega
     have hk2 : ¬ ((k : Int) < 400) := by omega
     go_wp2
     go_meet
     case rel => exact ⟨rfl,rfl⟩
    ·have hkli : ¬ ((k : Int) < (xs.length : Int)) := by omega
     go_wp2
     go_meet
     case rel => exact ⟨rfl,rfl⟩
   case rest =>
    obtain ⟨rfl,hwc⟩ := hcut
    have hwc' := hwc.symm
    clear hwc hgo hend
    subst hwc'
    obtain ⟨lv,uv,hE⟩ := CK.out
    have CE : Hid (EX w wr pb lv ub uv (itsX L) L [(bx,[.pointer (some ⟨ub,0,none⟩)],26),(rb,[.bool false],4)]) := hE
    have C9 := hq' (CE.out.box (Cl.new wr [.pointer (some ⟨pb,0,none⟩)] 24) ((Below.refl _ _).alloc (Nat.le_refl _) _))
    clear CE CK hE
    go_wp2_with fail
    refine (bagAll_any pb wr).mono ?_
    rintro e w9 ⟨rfl,hw9⟩
    rw [hw9] at C9
    clear hw9
    generalize wr.heap.size = ax at *
    have hnf := eq_nilFunc
    go_upto_region 32 with (fail)
    have hlt9 : ∀ y ∈ (((ax,[.pointer (some ⟨pb,0,none⟩)],24)::[(bx,[.pointer (some ⟨ub,0,none⟩)],26),(rb,[.bool false],4)]) : List (Nat × List Value × TypeId)),y.1 ≠ w9.heap.size := fun y hy => Nat.ne_of_lt (C9.out.x y hy).1.lt
    have hnb : w.heap.size ≤ w9.heap.size := C9.out.u.b.size
    have hsz := World.size_alloc w9 (.cells #[.int .i64 0] 3)
    have C10 : Hid (EX w (w9.alloc (.cells #[.int .i64 0] 3)) pb lv ub uv (itsX L) L ((w9.heap.size,[.int .i64 0],3)::(ax,[.pointer (some ⟨pb,0,none⟩)],24)::[(bx,[.pointer (some ⟨ub,0,none⟩)],26),(rb,[.bool false],4)])) := C9.out.box (Cl.new w9 [.int .i64 0] 3) ((Below.refl _ _).alloc (Nat.le_refl _) _)
    clear C9
    have hxa : ax ≠ w9.heap.size := hlt9 _ (List.mem_cons_self ..)
    have hxr : rb ≠ w9.heap.size := hlt9 (rb,[.bool false],4) (by simp)
    generalize w9.alloc (.cells #[.int .i64 0] 3) = w10 at *
    generalize w9.heap.size = nb at *
    have HLT := hq' hlt9
    clear hlt9
    go_wp2_with fail
    refine (wpIn_wide (n := 6)).1 ?_
    refine rangeBoxD rfl (by omega) (gf := 36) (lb := #[.pointer (some ⟨ax,0,none⟩)]) rfl trivial (enters_of Tryz.func36 (by kernel_rfl) rfl)
     (bagAll_msgs (6 - 1) (by omega) ax w.heap.size w10.heap.size w.heap.size pb lv L w w10 HW.out rfl C10.out.u.b ((C10.out.x _ (List.mem_cons_of_mem _ (List.mem_cons_self ..))).1.lt) (Nat.le_refl _) ((C10.out.x _ (List.mem_cons_of_mem _ (List.mem_cons_self ..))).1.cell 0) C10.out.h (fun x hx => (HL.out.2 x hx).1)) KpA.trans (KpA.book C10.out.u.b.size) (Below.refl _ _) (fun _ => rfl)
     (fun pre W => Keeps (fun j => j = nb) w10 W ∧ Cl W nb [.int .i64 (pre.length : Int)] 3) (fun _ _ _ => False)
     (fun pre X Y row hs hg hr => ⟨hs.1.own hg (fun r e => (hr r e).1),cl_own (g := nb) _ () X Y row hs.2 hg hr⟩) (fun _ _ _ _ _ hs _ _ => hs) ⟨Keeps.refl _ _,(C10.out.x _ (List.mem_cons_self ..)).1⟩
     (fun x b => [(111,.int .i64 x.1),(112,msgV x.2.m x.2.v),(13,.int .i64 x.1),(14,.pointer (some ⟨b,0,none⟩))])
     (fun pre x b W => Cl W b (msgC x.2.m x.2.v) 44 ∧ w10.heap.size + 2 ≤ b ∧ comeM L (w10.heap.size + 2) pre x W)
     (fun pre x b W o h ⟨h1,h2,h3,h4,h5,h6⟩ => ⟨h1.keep (keeps_putObj W _ o) (by omega),h2,h3,h4,h5.keepsS (keeps_putObj W _ o) (fun j hj e => by omega),h6⟩)
     ?assign ?body ?done ?stop
    case assign => as_aux_lemma =>
     rintro l pre x W K ⟨hk10,hcn⟩ hlt ⟨hd1,hd2,hd3,hd4⟩ hK
     obtain ⟨cs,hcs,hmv,_,HLN,HIL,HIA,HON,_⟩ := mx_cells x.2 W hd3.at
     obtain ⟨W6,hW6,C6,B6,Q6⟩ := box_row W (zt0) cs 44
     have HSZ : Hid (((zt0).toArray : Array Value).size = (cs.toArray : Array Value).size) := by rw [Hid,List.size_toArray,List.size_toArray,HLN.out]; rfl
     have hs10 := hk10.size
     have hn1 := C10.out.u.b.size
     have hcs' : msgC x.2.m x.2.v = cs := hcs
     have hKK := hq' (hK W.heap.size W6 (keepsFrom_below B6.out) (KpA.below B6.out (Nat.le_trans hn1 hs10)) ⟨hk10.trans (Keeps.below _ B6.out),hcn.below B6.out⟩
      ⟨by rw [hcs']; exact C6.out,by omega,hd1,hd2,hd3.keepsS (Keeps.below (fun _ => False) B6.out) (fun _ _ => id),hd4⟩)
     have HW6 := hq' hW6
     clear hK hcs hcs' hW6 hd1 hd2 hd3 hd4 hk10 hcn C10 HLT HL HW HO HZ
     unfold encsM
     dsimp only [updA] at hKK ⊢
     rw [hmv] at hKK ⊢
     generalize x.1 = x1 at *
     gi_wp2_with (refine wpListIn_store_row (by rfl) _ _ _ (by rfl) W.heap.size cs.toArray (by rfl) (by rfl) 44 _ Q6.out HIA.out HSZ.out HON.out ?_)
     first | rw [HW6.out] | skip
     exact hKK.out
    case body => as_aux_lemma =>
     rintro l pre x b W ⟨hk10,hcn⟩ ⟨hb1,hb2,hb3,⟨y,hy,hym⟩,hb5,hb6⟩ hlen
     obtain ⟨au,capu,huv,_⟩ := C10.out.u.o.form
     subst huv
     have CW := hq' (C10.out.boxKeep HLT.out hnb hk10)
     have hyo := HL.out.2 y (List.mem_of_getElem? hy)
     have hya := hyo.2.2.kept CW.out.u.b
     obtain ⟨cs,hcs,hmv,_,HLN,HIL,HIA,HON,_⟩ := mx_cells x.2 W hb5.at
     obtain ⟨cy,hcy,hyv,_,HLNy,HILy,HIAy,HONy,_⟩ := mx_cells y W hya
     obtain ⟨gw,offw,capw,hv2,hgw,hcw⟩ := CW.out.u.o.at (by omega)
     injection hv2 with e1 e2 e3
     subst e1 e3
     have RY : Hid (W.rangeAt gw (offw + pre.length * 38) cy) := fun j v hv => by rw [Nat.add_assoc]; exact hcw _ _ (cellsX_at L pre.length y hy j v (by rw [hcy]; exact hv))
     have RX : Hid (W.rangeAt b 0 cs) := by
      have h := hb1.range
      have hcs' : msgC x.2.m x.2.v = cs := hcs
      rwa [hcs'] at h
     have HS := hq' (below_class (P := Tryz.prog) (fun V (hV : Below W.heap.size W V) => refsameM_any x.2.m y.m x.2.v y.v V (hb5.at.kept hV) (hya.kept hV) hb6 hyo.2.1.1))
     rw [hmv,hyv,hym,Wi.same_refl] at HS
     have mn := fun z : BelowOf W => z.cell (show W.cell? ⟨nb,0,none⟩ = some (.int .i64 (pre.length : Int)) from hcn.cell 0)
     have mb := fun z : BelowOf W => z.cell (show W.cell? ⟨bx,0,none⟩ = some (.pointer (some ⟨ub,0,none⟩)) from (CW.out.x (bx,[.pointer (some ⟨ub,0,none⟩)],26) (by simp)).1.cell 0)
     have mu := fun z : BelowOf W => z.cell (show W.cell? ⟨ub,0,none⟩ = some (.slice (some ⟨gw,offw,none⟩) L.length capu) from CW.out.u.c.cell 0)
     have HCN := hq' hcn
     have HK10 := hq' hk10
     have hn1 := C10.out.u.b.size
     have hnl : nb < w10.heap.size := (C10.out.x _ (List.mem_cons_self ..)).1.lt
     have hlti : (pre.length : Int) < (L.length : Int) := by omega
     have hx1g : ¬ ((L.length : Int) ≤ (pre.length : Int)) := by omega
     have hL256 := HL.out.1
     have hx1d : decide (L.length ≤ pre.length) = false := decide_eq_false (by omega)
     have hx1e : decide ((L.length : Int) ≤ (pre.length : Int)) = false := decide_eq_false (by omega)
     have hlen1 : Hid (((pre ++ [x]).length : Int) = (pre.length : Int) + 1) := by rw [Hid,List.length_append,List.length_singleton]; rfl
     simp only [updA,List.foldl_cons,List.foldl_nil,List.setIfInBounds_toArray,List.set_cons_succ,List.set_cons_zero]
     rw [hb3,hmv]
     have hpp : ((pre.length : Int) != (pre.length : Int)) = false := by simp
     clear hcs hcy hmv hyv hb1 hb3 hy hym hb5 hb6 hya hyo hcw hk10 hcn C10 HLT HL HW HO HZ e2 HLN HIA HON HLNy HIAy HONy hnf
     have hsz2 : w10.heap.size ≤ W.heap.size := HK10.out.size
     generalize hpl : pre.length = n at *
     gi_wp2_with fail
     refine wpIn_round_below (by kernel_rfl) (by kernel_rfl) (by rfl) ?_
     repeat (go_big_quiet_step (fail))
     go_big_quiet_want
     refine quiet_row rfl rfl RX.out HIL.out ?_
     go_big_quiet_on
     simp only [Act.put,ta',sz',ss']
     repeat (go_big_quiet_step (fail))
     go_big_quiet_want
     refine quiet_row rfl rfl RY.out HILy.out ?_
     go_big_quiet_on
     simp only [Act.put,ta',sz',ss']
     go_big_quiet_step ((exact HS.out _))
     repeat (go_big_quiet_step (fail))
     refine wpQuiet_nil ?_
     intro w8 h8
     obtain ⟨⟨w8,hb8⟩,rfl⟩ := h8
     have HB8 := hq' hb8
     have CN8 := hq' (HCN.out.below hb8)
     have dn : w8.cell? ⟨nb,0,none⟩ = some (.int .i64 (n : Int)) := CN8.out.cell 0
     have fn8 : w8.frozen? ⟨nb,0,none⟩ = false := CN8.out.free 0
     clear hb8 mn mb mu HS RX RY
     gi_wp2
     refine ⟨(keepsFrom_below HB8.out).trans ((KeepsOthers.setCell w8 ⟨nb,0,none⟩ (.int .i64 ((n : Int) + 1))).from _),(KpA.below HB8.out (Nat.le_trans hn1 hsz2)).trans ⟨(Below.refl _ _).setCell (p := ⟨nb,0,none⟩) hnb _,by simp,fun g o hg hgo _ => (Below.heap_setCell _ _ _ _ (show g ≠ nb by omega)).trans hgo⟩,(HK10.out.trans (Keeps.below _ HB8.out)).trans (Keeps.setCell _ _ _ _ rfl),?_⟩
     rw [hlen1.out]
     exact CN8.out.set 0 _
    case done => as_aux_lemma =>
     rintro D ys W hD hys ⟨hk10,hcn⟩ hK
     obtain ⟨au,capu,huv,_⟩ := C10.out.u.o.form
     subst huv
     have CW := hq' (C10.out.boxKeep HLT.out hnb hk10)
     have dn : W.cell? ⟨nb,0,none⟩ = some (.int .i64 (L.length : Int)) := by rw [← hys]; exact hcn.cell 0
     have db : W.cell? ⟨bx,0,none⟩ = some (.pointer (some ⟨ub,0,none⟩)) := (CW.out.x (bx,[.pointer (some ⟨ub,0,none⟩)],26) (by simp)).1.cell 0
     have du : W.cell? ⟨ub,0,none⟩ = some (.slice au L.length capu) := CW.out.u.c.cell 0
     have dr : W.cell? ⟨rb,0,none⟩ = some (.bool false) := (CW.out.x (rb,[.bool false],4) (by simp)).1.cell 0
     have fr : W.frozen? ⟨rb,0,none⟩ = false := (CW.out.x (rb,[.bool false],4) (by simp)).1.free 0
     have HK := hq' hK
     have hn1 := C10.out.u.b.size
     clear hk10 hcn hK hys C10 HLT HL HW HO HZ hnf
     dsimp only
     go_wp2_with fail
     go_region
     go_wp2
     have hK' : ((W.setCell ⟨rb,0,none⟩ (.bool true)).drew).heap[D]? = some (.deferred (some [])) := (KeepsOthers.setCell W ⟨rb,0,none⟩ (.bool true)).same D _ HK.out rfl
     have hc0 : ((W.setCell ⟨rb,0,none⟩ (.bool true)).drew).cell? ⟨rb,0,none⟩ = some (.bool true) := World.cell?_setCell_same' W ⟨rb,0,none⟩ (.bool true) (by rw [dr]; rfl)
     have hc5 := cell_kept hc0 (grownBy_putObj' _ D (.deferred none)) (fun r e => by cases e; exact ⟨_,hK',rfl⟩)
     refine ⟨by simp,.inl ⟨_,_,rfl,run_takeDeferred hK',?_⟩⟩
     refine ⟨.bool true,?_,rfl,?_⟩
     ·simp [results,Tryz.f3,go_sem,hc5]
     ·exact ((CW.out.u.b.setCell (p := ⟨rb,0,none⟩) (Nat.le_of_eq HRB.out) _).drew).trans (belowK_b (w := w) (Nat.le_refl _) _ D _ _ (Nat.le_trans hn1 hD) hK' rfl rfl)
    case stop =>
     rintro D c pre W hD hpre h hK
     exact h.elim
end Go.Proofs.YtbljbdjmgogknaaGreatDoor
