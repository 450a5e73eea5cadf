/-
  Wr3 / Ga / Gi / Gb / Gc / Wg0: texts of one proof, one behind the other.
  Conditions: none of its own.
-/
import Derived.Test.YtbljbdjmgogknaaGreatDoorZah
import Derived.Deep.RegionLaw
import Derived.RangeFuncNested
import Derived.RangeFuncBound
import Derived.RangeFuncCalls
import Derived.RangeFuncLeaves
import Derived.Shelf.Abstract
import Derived.Shelf.RegionOpen
import Derived.OwnWalkIn
import Derived.TacticsInMore
import Derived.LoopNIn
import Derived.LoopIn
import Derived.Lib.JoinLaws
import Derived.Lib.SliceRun
set_option linter.unusedVariables false
set_option linter.unusedSimpArgs false
set_option maxHeartbeats 12800000
set_option maxRecDepth 20000
namespace Go.Proofs.YtbljbdjmgogknaaGreatDoor
open Go.RowKit
def beatM (f t n : Int) : Wi.Msg := ⟨3,f,t,0,0,0,0,n,0,[],0,[],Wi.zBatch,[],Wi.zReq,Wi.zResp⟩
def zeroV : MsgV := ⟨.slice none 0 0,.slice none 0 0,.slice none 0 0,.slice none 0 0,.slice none 0 0,.slice none 0 0,.slice none 0 0⟩
theorem beat_at (f t n : Int) (w : World) : MsgAt w (beatM f t n) zeroV := ⟨Ints.nil w,Rw.nil _ _ w,recs_nil0 w,Tbl.nil w,recs_nil0 w,Ints.nil w,recs_nil0 w⟩
theorem wpList_load_yes {P : Program} {ops : Array Oper} {rest : List Oper} {op : Oper} {a : Act} {w : World} {Q : Exit → Act → World → Prop} (hw : Region.wanted op (yielded ops a.tmps) = true) (ty : TypeId) (x : Operand) (ho : op.op = .load ty x)
  (b o : Nat) (hx : a.eval x = .pointer (some ⟨b,o,none⟩)) (cs : List Value) (d : TypeDesc) (hc : w.rangeAt b o cs)
  (hu : P.underlying ty = some d) (hd : d.isRow = true) (hi : (P.info? ty).map (·.size) = some cs.length)
  (h : wpList P ops Q rest (a.put op.dst (.agg cs.toArray)) w) : wpList P ops Q (op::rest) a w :=
 wpList_step fun K hK => by rw [if_pos hw]; exact wp_load_mid ty x ho b o hx cs d hc hu hd hi (hK _ _ h)
abbrev Item := List UInt8 × Int
def itC (l : List Item) : List Value := l.flatMap fun x => [.string ⟨x.1.toArray⟩,.int .i64 x.2]
theorem itC_len (l : List Item) : (itC l).length = l.length * 2 := by
 induction l with
 | nil => rfl
 | cons x l ih => simp only [itC,List.flatMap_cons,List.length_append,List.length_cons,List.length_nil] at ih ⊢; omega
theorem itC_append (a b : List Item) : itC (a ++ b) = itC a ++ itC b := by simp [itC]
theorem itC_one (l : List Item) : ∀ u ∈ itC l,u.oneCell' = true := by
 intro u hu
 obtain ⟨x,_,hx⟩ := List.mem_flatMap.1 hu
 simp only [List.mem_cons,List.not_mem_nil,or_false] at hx
 rcases hx with rfl | rfl <;> rfl
theorem itC_at {l : List Item} {k : Nat} {x : Item} (h : l[k]? = some x) : (itC l)[k * 2]? = some (.string ⟨x.1.toArray⟩) ∧ (itC l)[k * 2 + 1]? = some (.int .i64 x.2) := by
 induction l generalizing k with
 | nil => simp at h
 | cons y l ih =>
  cases k with
  | zero =>
   simp only [List.getElem?_cons_zero,Option.some.injEq] at h
   subst h
   exact ⟨rfl,rfl⟩
  | succ k =>
   have := ih (k := k) (by simpa using h)
   rw [show (k + 1) * 2 = k * 2 + 2 by omega]
   exact this
structure BagW (w : World) (B pb : Nat) (lv : Value) (l : List Item) : Prop where
 c : Cl w pb [lv] 65
 s : Sl w B 2 lv l.length (itC l)
 n : ∀ j,lv.ownBlock = some j → j ≠ pb
 b : B ≤ pb
 m : l.length ≤ 256
theorem BagW.below {w w' : World} {B pb : Nat} {lv : Value} {l : List Item} (h : BagW w B pb lv l) (hb : Below w.heap.size w w') : BagW w' B pb lv l :=
 ⟨Cl.below h.c hb,h.s.kept (Keeps.below (fun _ => False) hb) (fun _ _ => id),h.n,h.b,h.m⟩
theorem BagW.keep {S : Nat → Prop} {w w' : World} {B pb : Nat} {lv : Value} {l : List Item} (h : BagW w B pb lv l) (k : Keeps S w w') (hp : ¬ S pb) (hl : ∀ j,lv.ownBlock = some j → ¬ S j) : BagW w' B pb lv l :=
 ⟨Cl.keep h.c k hp,h.s.kept k hl,h.n,h.b,h.m⟩
structure BagK (pb : Nat) (lv lv' : Value) (w w' : World) : Prop where
 k : Keeps (fun j => j = pb ∨ lv.ownBlock = some j) w w'
 n : ∀ j,lv'.ownBlock = some j → lv.ownBlock = some j ∨ w.heap.size ≤ j
theorem BagK.below {B pb : Nat} {lv lv' : Value} {l : List Item} {w w' : World} (k : BagK pb lv lv' w w') (h : BagW w B pb lv l) (hB : B ≤ w.heap.size) : Below B w w' :=
 k.k.toBelow hB (fun j hj e => by
  rcases e with e | e
  ·have := h.b; omega
  ·have := (h.s.lt j e).1; omega)
theorem BagK.of {pb : Nat} {lv : Value} {w w' : World} (b : Below w.heap.size w w') : BagK pb lv lv w w' := ⟨Keeps.below _ b,fun j h => .inl h⟩
theorem BagK.trans {pb : Nat} {lv lv1 lv2 : Value} {w w1 w2 : World} (a : BagK pb lv lv1 w w1) (b : BagK pb lv1 lv2 w1 w2) : BagK pb lv lv2 w w2 :=
 ⟨a.k.fresh b.k (fun k hk e => by
  rcases e with e | e
  ·exact .inl e
  ·rcases a.n k e with e2 | e2
   ·exact .inr e2
   ·omega),fun j hj => by
  rcases b.n j hj with e | e
  ·exact a.n j e
  ·exact .inr (Nat.le_trans a.k.size e)⟩
theorem bagNew_any (w : World) : Calls Tryz.prog 8 #[] w fun e w' => e = .returned (.pointer (some ⟨w.heap.size,0,none⟩)) ∧ BagW w' w.heap.size w.heap.size (.slice none 0 0) [] ∧ Below w.heap.size w w' := by
 have C : Hid (Cl (w.alloc (.cells #[.slice none 0 0] 65)) w.heap.size [.slice none 0 0] 65) := Cl.new w _ _
 have B : Hid (Below w.heap.size w (w.alloc (.cells #[.slice none 0 0] 65))) := (Below.refl _ _).alloc (Nat.le_refl _) _
 go_enter Tryz.func8,Tryz.ntmps8
 go_wp2
 go_ret
 exact ⟨rfl,⟨C.out,Sl.nil _ _ _,fun j hj => by simp [Value.ownBlock] at hj,Nat.le_refl _,by simp⟩,B.out⟩
theorem bagLen_any (B pb : Nat) (lv : Value) (l : List Item) (w : World) (h : BagW w B pb lv l) :
  Calls Tryz.prog 19 #[.pointer (some ⟨pb,0,none⟩)] w fun e w' => e = .returned (.int .i64 l.length) ∧ w' = w := by
 have c0 := h.c.cell 0
 obtain ⟨a,cap,rfl,_⟩ := h.s.form
 simp only [List.getElem?_cons_zero] at c0
 have hm := h.m
 clear h
 go_enter Tryz.func19,Tryz.ntmps19
 go_wp2
 go_ret
 exact ⟨rfl,rfl⟩
theorem bagHas_any (B pb : Nat) (lv : Value) (l : List Item) (n : Int) (w : World) (h : BagW w B pb lv l) :
  Calls Tryz.prog 25 #[.pointer (some ⟨pb,0,none⟩),.int .i64 n] w fun e w' => e = .returned (.bool (decide (0 ≤ n ∧ n < l.length))) ∧ w' = w := by
 have HL := hq' (bagLen_any B pb lv l w h)
 clear h
 by_cases h0 : 0 ≤ n
 ·by_cases h1 : n < l.length
  ·go_enter Tryz.func25,Tryz.ntmps25
   go_wp2_with fail
   refine HL.out.mono ?_
   rintro e w1 ⟨rfl,rfl⟩
   go_wp2
   go_ret
   exact ⟨by simp [h0,h1] <;> omega,rfl⟩
  ·go_enter Tryz.func25,Tryz.ntmps25
   go_wp2_with fail
   refine HL.out.mono ?_
   rintro e w1 ⟨rfl,rfl⟩
   go_wp2
   go_ret
   exact ⟨by simp [h0,h1] <;> omega,rfl⟩
 ·go_enter Tryz.func25,Tryz.ntmps25
  go_wp2
  go_ret
  exact ⟨by simp [h0] <;> omega,rfl⟩
theorem bag_put_post {B pb : Nat} {lv : Value} {l : List Item} {x : Item} {w2 w4 : World} {v' : Value} (H : BagW w2 B pb lv l) (hlt : l.length < 256)
  (h1 : Sl w4 B 2 v' (l.length + 1) (itC l ++ [.string ⟨x.1.toArray⟩,.int .i64 x.2])) (h2 : (w2.alloc (.cells #[.string ⟨x.1.toArray⟩,.int .i64 x.2] 74)).drew.grownBy w4 lv.ownBlock)
  (h3 : v'.ownBlock = lv.ownBlock ∨ ∀ k,v'.ownBlock = some k → (w2.alloc (.cells #[.string ⟨x.1.toArray⟩,.int .i64 x.2] 74)).drew.heap.size ≤ k) :
  (BagW (w4.setCell ⟨pb,0,none⟩ v') B pb v' (l ++ [x]) ∧ BagK pb lv v' w2 (w4.setCell ⟨pb,0,none⟩ v')) ∧ w4.cell? ⟨pb,0,none⟩ = some lv ∧ w4.frozen? ⟨pb,0,none⟩ = false := by
 have C0 : Cl (w2.alloc (.cells #[.string ⟨x.1.toArray⟩,.int .i64 x.2] 74)).drew pb [lv] 65 := Cl.drewN (H.c.alloc _) 1
 have C4 : Cl w4 pb [lv] 65 := C0.grown h2 (fun e => H.n pb e.symm rfl)
 have hsz : (w2.alloc (.cells #[.string ⟨x.1.toArray⟩,.int .i64 x.2] 74)).drew.heap.size = w2.heap.size + 1 := World.size_alloc _ _
 have HN : ∀ j,v'.ownBlock = some j → j ≠ pb := fun j hj => by
  have hlt := H.c.lt
  rcases h3 with e | e
  ·exact H.n j (e ▸ hj)
  ·have := e j hj
   omega
 have k : Keeps (fun j => j = pb) w4 (w4.setCell ⟨pb,0,none⟩ v') := Keeps.setCell _ _ _ _ rfl
 have KK : BagK pb lv v' w2 (w4.setCell ⟨pb,0,none⟩ v') := by
  refine ⟨(((Keeps.alloc _ _ _).trans (Keeps.drew _ _)).trans (Keeps.grown h2 (fun j hj => .inr hj))).trans (k.mono (fun j _ e => .inl e)),fun j hj => ?_⟩
  rcases h3 with e | e
  ·exact .inl (e ▸ hj)
  ·exact .inr (by have := e j hj; omega)
 refine ⟨⟨⟨Cl.set C4 0 v',?_,HN,H.b,by simp; omega⟩,KK⟩,C4.cell 0,C4.free 0⟩
 have := h1.kept k (fun j hj e => HN j hj e)
 rw [itC_append,List.length_append]
 exact this
theorem infoItem : (Tryz.prog.info? 74).map (fun i => (i.zero,i.size,i.bytes)) = some (some (.agg #[.string ⟨#[]⟩,.int .i64 0]),2,24) := by kernel_rfl
def PutPost (B pb : Nat) (lv : Value) (l : List Item) (x : Item) (w : World) (e : Ending) (w' : World) : Prop :=
 e = .returned (.int .i64 (if l.length < 256 then 0 else 11)) ∧ ∃ lv',BagW w' B pb lv' (if l.length < 256 then l ++ [x] else l) ∧ BagK pb lv lv' w w'
theorem bagPut_cs (cs : List Value) (hlen : cs.length = 38) (t : Int) (ht : cs[2]? = some (.int .i64 t)) (B pb : Nat) (lv : Value) (l : List Item) (data : List UInt8) (w : World) (h : BagW w B pb lv l) (hB : B ≤ w.heap.size)
  (HE : ∀ W,Below w.heap.size w W → Calls Tryz.prog 23 #[.agg cs.toArray] W fun e w' => e = .returned (.tuple #[.string ⟨data.toArray⟩,.int .i64 0]) ∧ Below W.heap.size W w') :
  Calls Tryz.prog 10 #[.pointer (some ⟨pb,0,none⟩),.agg cs.toArray] w (PutPost B pb lv l (data,t) w) := by
 have H0 := hq' h
 have HEE := hq' HE
 obtain ⟨a,cap,hlv,_⟩ := h.s.form
 subst hlv
 have hm := h.m
 clear h HE
 have HI38 : Hid ((Tryz.prog.info? 44).map (·.size) = some cs.length) := by rw [Hid,hlen]; kernel_rfl
 have HU := hq' Tryz.underlying44
 obtain ⟨i0,hi,hz0,hz1,hz2⟩ := info_parts infoItem
 go_enter Tryz.func10,Tryz.ntmps10
 obtain ⟨w1,hw1,CA,B1⟩ := oneBox (w := w) cs 44
 have HW1 := hq' hw1
 clear hw1
 go_upto_region 3 with (fail)
 first | rw [HW1.out] | skip
 clear HW1
 have H1 := hq' (H0.out.below B1.out)
 have BB : Hid (∀ W,Below w1.heap.size w1 W → Below B w W ∧ B ≤ W.heap.size) := fun W hW => ⟨(bt B1.out hW).mono hB,Nat.le_trans hB (Nat.le_trans B1.out.size hW.size)⟩
 have HE1 := hq' (HEE.out _ B1.out)
 obtain ⟨pa,hpa⟩ : ∃ pa,pa = w.heap.size := ⟨_,rfl⟩
 have hpl := H0.out.c.lt
 have hpne : pa ≠ pb := by omega
 rw [← hpa] at CA
 first | rw [← hpa] | skip
 have HPA := hq' hpa
 clear hpa hpl
 have R1 := hq' CA.out.range
 go_wp2_with (refine wpList_load_mid (by rfl) _ _ (by rfl) pa 0 (by rfl) cs _ R1.out HU.out (by rfl) HI38.out ?_)
 refine HE1.out.mono ?_
 rintro e w2 ⟨rfl,hb2⟩
 have H2 := hq' (H1.out.below hb2)
 have C2 := hq' (Cl.below CA.out hb2)
 have B2 := hq' (BB.out _ hb2)
 have B22 := hq' (bt B1.out hb2)
 clear hb2 R1 HE1 HEE H1 CA BB B1
 have c0 := H2.out.c.cell 0
 simp only [List.getElem?_cons_zero] at c0
 by_cases hlt : l.length < 256
 ·have g0 := H2.out.c.cell 0
  have f0 := H2.out.c.free 0
  have m0 := fun x : BelowOf w2 => x.cell (show w2.cell? ⟨pb,0,none⟩ = _ from H2.out.c.cell 0)
  have m2 := fun x : BelowOf w2 => x.cell (show w2.cell? ⟨pa,2,none⟩ = some (.int .i64 t) from (C2.out.cell 2).trans ht)
  simp only [List.getElem?_cons_zero] at g0 m0
  have ITM : Hid (Cl (w2.alloc (.cells #[.string ⟨data.toArray⟩,.int .i64 t] 74)) w2.heap.size [.string ⟨data.toArray⟩,.int .i64 t] 74) := Cl.new w2 _ _
  have hsl : Hid (Sl (w2.alloc (.cells #[.string ⟨data.toArray⟩,.int .i64 t] 74)).drew B 2 (.slice a l.length cap) l.length (itC l)) := H2.out.s.kept (S := fun _ => False) ((Keeps.alloc _ _ _).trans (Keeps.drew _ _)) (fun _ _ => id)
  have hsrc : Hid (SrcIs (w2.alloc (.cells #[.string ⟨data.toArray⟩,.int .i64 t] 74)).drew 2 (.slice (some ⟨w2.heap.size,0,none⟩) 1 1) 1 [.string ⟨data.toArray⟩,.int .i64 t]) := ITM.out.src 2 1 1 rfl
  have hone : ∀ u ∈ [Value.string ⟨data.toArray⟩,.int .i64 t],u.oneCell' = true := by simp [Value.oneCell']
  have h63 : l.length + 1 ≤ maxLen := by unfold maxLen; omega
  have hby : (l.length + 1) * 24 ≤ 140737488355328 := by omega
  have hba : B ≤ ((w2.alloc (.cells #[.string ⟨data.toArray⟩,.int .i64 t] 74)).drew).heap.size := by have := B2.out.2; have h2 := World.size_alloc w2 (.cells #[.string ⟨data.toArray⟩,.int .i64 t] 74); show B ≤ (w2.alloc (.cells #[.string ⟨data.toArray⟩,.int .i64 t] 74)).heap.size; omega
  have HPO := hq' (fun (w4 : World) (v' : Value) h1 h2 h3 => bag_put_post (x := (data,t)) (w4 := w4) (v' := v') H2.out hlt h1 h2 h3)
  have gA : (w2.alloc (.cells #[.string ⟨data.toArray⟩,.int .i64 t] 74)).cell? ⟨pb,0,none⟩ = some (.slice a l.length cap) := (H2.out.c.alloc _).cell 0
  have d2 : w2.cell? ⟨pa,2,none⟩ = some (.int .i64 t) := (C2.out.cell 2).trans ht
  have dA : (w2.alloc (.cells #[.string ⟨data.toArray⟩,.int .i64 t] 74)).cell? ⟨pa,2,none⟩ = some (.int .i64 t) := ((C2.out.alloc _).cell 2).trans ht
  clear m0 m2 c0
  go_upto_region 8 with (fail)
  go_region_law (first
   | (refine step_append_sl _ (by rfl) _ _ _ (by rfl) B 74 i0 _ 2 24 Tryz.underlying63 hi hz0 hz1 hz2 rfl (by decide) (.slice a l.length cap) l.length (itC l) (by rfl) hsl.out (.slice (some ⟨w2.heap.size,0,none⟩) 1 1) 1 [.string ⟨data.toArray⟩,.int .i64 t] (by rfl) hsrc.out hone h63 hby hba Nat.one_pos ?_; intro g4 off4 cap4 w4 hown4 hg4 hnew4; obtain ⟨hpost,hcell4,hfree4⟩ := HPO.out _ _ hown4 hg4 (hnew4.imp (fun e => e.symm) (fun e k hk => (Option.some.inj hk) ▸ e)); have HP := hq' hpost; clear hpost hown4 hg4 hnew4))
  all_goals
   go_wp2
   go_ret
   unfold PutPost
   rw [if_pos hlt,if_pos hlt]
   exact ⟨rfl,_,HP.out.1,(BagK.of B22.out).trans HP.out.2⟩
 ·go_wp2
  go_ret
  unfold PutPost
  rw [if_neg hlt,if_neg hlt]
  exact ⟨rfl,_,H2.out,BagK.of B22.out⟩
open Go.RowKit Go.Shelf
attribute [local go_sem] Oper.semAt_some
theorem wpListIn_store_row {F : Fence} {n : Nat} {P : Program} {ops : Array Oper} {rest : List Oper} {o : Oper} {a : Act} {w : World} {Q : Exit → Act → World → Prop} (hgd : o.guard = none) (ty : TypeId) (x y : Operand) (ho : o.op = .store ty x y)
  (g : Nat) (cells : Array Value) (hx : a.eval x = .pointer (some ⟨g,0,none⟩)) (hy : a.eval y = .agg cells)
  (t : TypeId) (old : Array Value) (hg : w.heap[g]? = some (.cells old t (0,0))) (hi : (P.info? ty).map (·.size) = some cells.size)
  (hold : old.size = cells.size) (h1 : cells.all (·.oneCell') = true)
  (h : wpListIn F n P ops Q rest (a.put o.dst undef) (w.setRow g cells)) : wpListIn F n P ops Q (o::rest) a w := by
 refine wpListIn_plain hgd fun K hK => ?_
 unfold Oper.wpIn
 refine ⟨?_,?_⟩
 ·simp [Oper.about,ho]
 ·rw [Oper.semAt_eq _ _ _ (by simp [ho])]
  simp only [execOp,ho,hx,hy,Instr.storeAt,Instr.sureAddr,Sem.run_bind,Sem.run_pure,Result.andThen_ok,run_storeVar_row w g t ty old cells hg hi hold h1]
  exact hK _ _ h
theorem wpListIn_load_mid {F : Fence} {n : Nat} {P : Program} {ops : Array Oper} {rest : List Oper} {o : Oper} {a : Act} {w : World} {Q : Exit → Act → World → Prop} (hgd : o.guard = none) (ty : TypeId) (x : Operand) (ho : o.op = .load ty x)
  (b off : Nat) (hx : a.eval x = .pointer (some ⟨b,off,none⟩)) (cs : List Value) (d : TypeDesc) (hc : w.rangeAt b off cs)
  (hu : P.underlying ty = some d) (hd : d.isRow = true) (hi : (P.info? ty).map (·.size) = some cs.length)
  (h : wpListIn F n P ops Q rest (a.put o.dst (.agg cs.toArray)) w) : wpListIn F n P ops Q (o::rest) a w := by
 refine wpListIn_plain hgd fun K hK => ?_
 unfold Oper.wpIn
 refine ⟨?_,?_⟩
 ·simp [Oper.about,ho]
 ·rw [Oper.semAt_eq _ _ _ (by simp [ho])]
  simp only [execOp,ho,hx,Instr.loadAt,Instr.sureAddr,Sem.run_bind,Sem.run_pure,Result.andThen_ok,run_loadVar_mid w b off ty cs d hc hu hd hi]
  exact hK _ _ h
theorem bagAll_any (pb : Nat) (w : World) : Calls Tryz.prog 20 #[.pointer (some ⟨pb,0,none⟩)] w fun e w' =>
  e = .returned (.func (.func 36) #[] #[.pointer (some ⟨w.heap.size,0,none⟩)]) ∧ w.alloc (.cells #[.pointer (some ⟨pb,0,none⟩)] 24) = w' := by
 go_enter Tryz.func20,Tryz.ntmps20
 go_wp2
 go_ret
 exact ⟨rfl,rfl⟩
theorem cloneItems_any (B : Nat) (lv : Value) (l : List Item) (w : World) (h : Sl w B 2 lv l.length (itC l)) (hm : l.length ≤ 256) :
  Calls Tryz.prog 37 #[lv] w fun e w' => ∃ v,e = .returned v ∧ Sl w' w.heap.size 2 v l.length (itC l) ∧ Below w.heap.size w w' := by
 have heq : ∀ (a : Option Addr) (l c : Nat) (w : World),(binOp .eql 63 (.slice a l c) (.slice none 0 0)).run Tryz.prog w = .ok (.bool a.isNone) w := fun a l c w => Go.Lib.run_eql_slice_nil w 63 74 a l c 0 0 Tryz.underlying63
 rcases h.2 with ⟨rfl,h0⟩ | ⟨g,off,cap,rfl,hgB,hg,hnc,hmc,hr,ht⟩
 ·obtain rfl : l = [] := List.eq_nil_of_length_eq_zero h0
  clear h
  go_enter Tryz.func37,Tryz.ntmps37
  go_wp2
  go_ret
  exact ⟨_,rfl,Sl.nil _ _ _,Below.refl _ _⟩
 ·obtain ⟨i0,hi,hz0,hz1,hz2⟩ := info_parts infoItem
  have hmade : Hid (Sl (w.alloc (.cells #[] 74)) w.heap.size 2 (.slice (some ⟨w.heap.size,0,none⟩) 0 0) 0 []) := Sl.ofOwn (e := 74) (World.ownsRow_made w #[] 0 (Nat.le_refl _) (by unfold maxLen; omega) rfl)
  have hsrc : Hid (SrcIs (w.alloc (.cells #[] 74)) 2 (.slice (some ⟨g,off,none⟩) l.length cap) l.length (itC l)) := by
   refine .inr ⟨_,_,rfl,itC_len l,fun j u hu => ?_⟩
   have e3 : (⟨g,off,none⟩ : Addr).add j = ⟨g,off + j,none⟩ := by unfold Addr.add; split <;> simp_all
   rw [e3]
   exact ((Keeps.alloc (fun _ => False) w _).cell (a := ⟨g,off + j,none⟩) hg id).trans (hr j u hu)
  have hone := itC_one l
  clear h hr ht
  go_enter Tryz.func37,Tryz.ntmps37
  go_wp2_with (at_builtin; refine wpList_append_sl rfl (.tmp 5) (.tmp 6) 63 rfl 74 i0 _ 2 24 Tryz.underlying63 hi hz0 hz1 hz2 rfl (by decide) w.heap.size _ _ _ rfl hmade.out _ _ _ rfl hsrc.out ?_ ?_ ?_ ?_ ?_)
  ·exact hone
  ·unfold maxLen; omega
  ·omega
  ·simp
  intro v' w2 hown hgr hnew
  have HO : Hid (Sl w2 w.heap.size 2 v' l.length (itC l)) := by
   show Sl _ _ _ _ _ _
   simpa using hown
  have HB : Hid (Below w.heap.size w w2) := ((Below.refl _ _).alloc (Nat.le_refl _) _).grown hgr (by simp) (fun k hk => by simp [Value.ownBlock] at hk; omega)
  clear hown hgr hnew
  go_wp2
  go_ret
  exact ⟨_,rfl,HO.out,HB.out⟩
structure KpA (n₁ n₀ : Nat) (A B : World) : Prop where
 bel : Below n₁ A B
 size : A.heap.size ≤ B.heap.size
 keep : ∀ g o,n₀ ≤ g → A.heap[g]? = some o → Obj.isCells o = true → B.heap[g]? = some o
theorem KpA.trans {n₁ n₀ : Nat} {A B C : World} (h : KpA n₁ n₀ A B) (k : KpA n₁ n₀ B C) : KpA n₁ n₀ A C :=
 ⟨h.bel.trans k.bel,Nat.le_trans h.size k.size,fun g o hn hg ho => k.keep g o hn (h.keep g o hn hg ho) ho⟩
theorem KpA.book {n₁ n₀ : Nat} {w : World} (h1 : n₁ ≤ w.heap.size) (W : World) (l : Nat) (o o' : Obj) (hl : w.heap.size ≤ l) (h : W.heap[l]? = some o) (ho : Obj.isCells o = false) (_ : o.isWalk = false) : KpA n₁ n₀ W (W.putObj l o') := by
 refine ⟨belowK_b h1 W l o o' hl h ho (by assumption),by simp,fun g o1 _ hg ho1 => ?_⟩
 rw [World.putObj_heap_other (fun e => by subst e; rw [h] at hg; injection hg with hg; subst hg; rw [ho] at ho1; cases ho1)]
 exact hg
theorem cells_of_cell {w : World} {a : Addr} {u : Value} (h : w.cell? a = some u) : ∃ o,w.heap[a.block]? = some o ∧ Obj.isCells o = true := by
 unfold World.cell? at h
 split at h
 ·rename_i hb
  exact ⟨_,hb,rfl⟩
 ·cases h
def CloneI (wr : World) (n₀ : Nat) (v : Value) (l : List Item) : Prop :=
 ∀ k x,l[k]? = some x → ∃ g off cap,v = .slice (some ⟨g,off,none⟩) l.length cap ∧ n₀ ≤ g ∧ g < wr.heap.size ∧ wr.cell? ⟨g,off + k * 2,none⟩ = some (.string ⟨x.1.toArray⟩) ∧ wr.cell? ⟨g,off + k * 2 + 1,none⟩ = some (.int .i64 x.2)
theorem CloneI.kept {n₁ n₀ : Nat} {A B : World} {v : Value} {l : List Item} (h : CloneI A n₀ v l) (k : KpA n₁ n₀ A B) : CloneI B n₀ v l := fun j x hj => by
 obtain ⟨g,off,cap,e,hg,hlt,hc,hd⟩ := h j x hj
 obtain ⟨o,ho,hoc⟩ := cells_of_cell hc
 have hb := (k.keep g o hg ho hoc).trans ho.symm
 exact ⟨g,off,cap,e,hg,Nat.lt_of_lt_of_le hlt k.size,(World.cell?_of_block hb).trans hc,(World.cell?_of_block hb).trans hd⟩
theorem CloneI.below {n₀ : Nat} {A B : World} {v : Value} {l : List Item} (h : CloneI A n₀ v l) (hb : Below A.heap.size A B) : CloneI B n₀ v l := fun j x hj => by
 obtain ⟨g,off,cap,e,hg,hlt,hc,hd⟩ := h j x hj
 exact ⟨g,off,cap,e,hg,Nat.lt_of_lt_of_le hlt hb.size,(hb.cell (p := ⟨g,off + j * 2,none⟩) hlt).trans hc,(hb.cell (p := ⟨g,off + j * 2 + 1,none⟩) hlt).trans hd⟩
theorem CloneI.of {w w' : World} {n₀ : Nat} {v : Value} {l : List Item} (h : Sl w' w.heap.size 2 v l.length (itC l)) (hn : n₀ ≤ w.heap.size) : CloneI w' n₀ v l := fun k x hk => by
 rcases h.2 with ⟨_,h0⟩ | ⟨g,off,cap,rfl,hB,hg,hc,hm,hr,ht⟩
 ·have := (List.getElem?_eq_some_iff.1 hk).1; omega
 ·exact ⟨g,off,cap,rfl,by omega,hg,hr _ _ (itC_at hk).1,by rw [Nat.add_assoc]; exact hr _ _ (itC_at hk).2⟩
theorem itC_take (l : List Item) (k : Nat) : itC (l.take k) = (itC l).take (k * 2) := by
 induction l generalizing k with
 | nil => simp [itC]
 | cons x l ih =>
  cases k with
  | zero => simp [itC]
  | succ k =>
   have := ih k
   simp only [itC,List.take_succ_cons,List.flatMap_cons] at this ⊢
   rw [this,show (k + 1) * 2 = k * 2 + 1 + 1 by omega]
   rfl
theorem itC_drop (l : List Item) (k : Nat) : itC (l.drop k) = (itC l).drop (k * 2) := by
 induction l generalizing k with
 | nil => simp [itC]
 | cons x l ih =>
  cases k with
  | zero => simp [itC]
  | succ k =>
   have := ih k
   simp only [itC,List.drop_succ_cons,List.flatMap_cons] at this ⊢
   rw [this,show (k + 1) * 2 = k * 2 + 1 + 1 by omega]
   rfl
def DelPost (B : Nat) (l : List Item) (k : Nat) (lv : Value) (w : World) (e : Ending) (w' : World) : Prop :=
 ∃ v',e = .returned v' ∧ v'.ownBlock = lv.ownBlock ∧ Sl w' B 2 v' (l.eraseIdx k).length (itC (l.eraseIdx k)) ∧ Keeps (fun j => lv.ownBlock = some j) w w'
theorem run_clear_rows {P : Program} (w : World) (t e ty : TypeId) (z : Value) (ht : P.underlying t = some (.slice e)) (hv : ∀ w,(zeroValue e).run P w = .ok z w) (b o n c : Nat) (hn : 0 < n)
  (h1 : ∀ v ∈ (Builtin.zeroCells z.cells n).toList,v.oneCell' = true)
  (hc : ∀ j,j < (Builtin.zeroCells z.cells n).toList.length → (w.cell? ⟨b,o + j,none⟩).isSome = true) (hf : ∀ j,j < (Builtin.zeroCells z.cells n).toList.length → w.frozen? ⟨b,o + j,none⟩ = false) :
  (Builtin.clear_ #[t] ty #[.slice (some ⟨b,o,none⟩) n c]).run P w = .ok (.tuple #[]) (w.setCells b o (Builtin.zeroCells z.cells n).toList) := by
 have hst := run_storeCells_cells (P := P) b o (Builtin.zeroCells z.cells n).toList 0 w (by simpa using hc) (by simpa using hf) h1
 simp only [Nat.add_zero] at hst
 obtain ⟨m,rfl⟩ : ∃ m,n = m + 1 := ⟨n - 1,by omega⟩
 simp [Builtin.clear_,run_underlying ht,hv,hst]
theorem wpList_clear {P : Program} {w : World} {ops : Array Oper} {rest : List Oper} {o : Oper} {a : Act} {Q : Exit → Act → World → Prop} (hgd : o.guard = none) (x : Operand) (t : TypeId)
  (ho : o.op = .call { callee := .builtin .clear,args := #[x],argTypes := #[t] }) (v : Value) (hx : a.eval x = v) (w' : World) (hr : ∀ ty,(Builtin.clear_ #[t] ty #[v]).run P w = .ok (.tuple #[]) w')
  (h : wpList P ops Q rest (a.put o.dst (.tuple #[])) w') : wpList P ops Q (o::rest) a w := by
 refine wpList_plain hgd fun K hK => ?_
 unfold Oper.wp execOp
 simp only [ho,resolve,invoke,builtin,Sem.run_bind,Sem.run_pure,Result.andThen_ok,List.map_toArray,List.map_cons,List.map_nil,hx,hr]
 exact hK _ _ h
theorem Keeps.cells {S : Nat → Prop} (w : World) (g o : Nat) (vs : List Value) (h : S g) : Keeps S w (w.setCells g o vs) := by
 induction vs generalizing o w with
 | nil => exact Keeps.refl _ _
 | cons v r ih => exact (Keeps.setCell S w ⟨g,o,none⟩ v h).trans (ih _ _)
theorem bagDelete (B : Nat) (l : List Item) (k : Nat) (hk : k < l.length) (hl : l.length ≤ 256) (lv : Value) (w : World) (h : Sl w B 2 lv l.length (itC l)) :
  Calls Tryz.prog 27 #[lv,.int .i64 k,.int .i64 (k + 1)] w (DelPost B l k lv w) := by
 obtain ⟨n,hnl⟩ : ∃ n,n = l.length := ⟨_,rfl⟩
 rw [← hnl] at hk hl h
 rcases h.2 with ⟨_,h0⟩ | ⟨g,off,cap,rfl,hB,hg,hn,hm,hr,ht⟩
 ·omega
 have hm' : cap ≤ 2 ^ 63 - 1 := hm
 obtain ⟨i0,hi,hz0,hz1,hz2⟩ := info_parts infoItem
 have hlen : (itC l).length = n * 2 := by rw [hnl]; exact itC_len l
 -- what is moved
 have hnews : ((itC l).drop ((k + 1) * 2)).length = (n - (k + 1)) * 2 := by rw [List.length_drop,hlen]; omega
 obtain ⟨A,hA,hcell⟩ : ∃ A : Addr,(if cap = k + 1 then some (⟨g,off,none⟩ : Addr) else some ⟨g,off + (k + 1) * 2,none⟩) = some A ∧ Hid (∀ j u,((itC l).drop ((k + 1) * 2))[j]? = some u → w.drew.cell? (A.add j) = some u) := by
  by_cases hc : cap = k + 1
  ·refine ⟨⟨g,off,none⟩,by simp [hc],fun j u hu => ?_⟩
   have h0 : ((itC l).drop ((k + 1) * 2)).length = 0 := by rw [hnews]; omega
   rw [List.length_eq_zero_iff.1 h0] at hu
   simp at hu
  ·refine ⟨⟨g,off + (k + 1) * 2,none⟩,by simp [hc],fun j u hu => ?_⟩
   rw [Addr.add_mid]
   have := hr ((k + 1) * 2 + j) u (by rw [← hu,List.getElem?_drop])
   rw [show off + (k + 1) * 2 + j = off + ((k + 1) * 2 + j) by omega]
   exact this
 have hone : Hid (∀ u ∈ (itC l).drop ((k + 1) * 2),u.oneCell' = true) := fun u hu => itC_one l u (List.mem_of_mem_drop hu)
 have hspare : Hid (∀ j,j < ((itC l).drop ((k + 1) * 2)).length → (w.drew.cell? ⟨g,off + k * 2 + j,none⟩).isSome = true ∧ w.drew.frozen? ⟨g,off + k * 2 + j,none⟩ = false) := fun j hj => by
  rw [hnews] at hj
  have := ht (k * 2 + j) (by omega)
  rw [show off + (k * 2 + j) = off + k * 2 + j by omega] at this
  exact this
 have HN := hq' hnews
 have HE : Hid (itC (l.eraseIdx k) = (itC l).take (k * 2) ++ (itC l).drop ((k + 1) * 2)) := by rw [Hid,List.eraseIdx_eq_take_drop_succ,itC_append,itC_take,itC_drop]
 have HEL : Hid ((l.eraseIdx k).length = n - 1) := by rw [Hid,hnl]; exact List.length_eraseIdx_of_lt (hnl ▸ hk)
 have W1 : ∃ w1,w.drew.setCells g (off + k * 2) ((itC l).drop ((k + 1) * 2)) = w1 ∧ Hid (w1.rangeAt g off (itC (l.eraseIdx k))) ∧ Hid (w1.there g off (cap * 2)) ∧ Hid (Keeps (fun j => j = g) w w1) := by
  refine ⟨_,rfl,?_,World.there_setCells (w := w.drew) ht _ _ _,(Keeps.drew _ _).trans (Keeps.cells _ _ _ _ rfl)⟩
  rw [Hid,HE.out]
  have hlt : ((itC l).take (k * 2)).length = k * 2 := by rw [List.length_take,hlen]; omega
  refine rangeAt_append ?_ ?_
  ·refine World.rangeAt_setCells_apart (w := w.drew) (fun j v hv => ?_) _ _ _ (.inr (.inl (by rw [hlt]; omega)))
   have hj : j < k * 2 := by have := (List.getElem?_eq_some_iff.1 hv).1; rw [hlt] at this; exact this
   rw [List.getElem?_take_of_lt hj] at hv
   exact hr j v hv
  ·rw [hlt]
   exact World.rangeAt_setCells_same _ _ _ _ (fun j hj => hspare.out j hj)
 obtain ⟨w1,hw1,R1,T1,K1⟩ := W1
 have HW1 := hq' hw1
 clear hw1
 have hzv := Tryz.zeroValue74
 have HNL := hq' hnl
 clear hnl hlen hr ht h hnews
 generalize hnw : (itC l).drop ((k + 1) * 2) = news at *
 clear hnw
 have hkk : ((k : Int) == (k : Int) + 1) = false := by rw [beq_eq_false_iff_ne]; omega
 have hkn : (k : Int) + 1 ≤ (n : Int) := by omega
 have hk0 : (0 : Int) ≤ (k : Int) + 1 := by omega
 have hki : (k : Int) ≤ (n : Int) := by omega
 have hkc : k ≤ cap := by omega
 have hne : n ≠ k := by omega
 have hne2 : ¬ n = k := by omega
 have hp2 : ((k : Int) + 1).toNat = k + 1 := by omega
 go_enter Tryz.func27,Tryz.ntmps27
 go_upto_region 5 with (fail)
 go_region_law (first
  | (refine step_append_room rfl (.tmp 22) (.tmp 25) 63 rfl 74 i0 2 Tryz.underlying63 hi hz1 g off k cap (by simp [Act.eval,Act.put]) A (n - (k + 1)) (cap - (k + 1)) news (by simp [Act.eval,Act.put]) HN.out hcell.out hone.out (by omega) hspare.out ?_))
 rename_i K hK
 refine hK _ _ ?_
 clear hK K
 simp only [Act.put,List.getElem_toArray,List.getElem_cons_succ,List.getElem_cons_zero]
 rw [HW1.out,show k + (n - (k + 1)) = n - 1 by omega]
 clear HW1 hcell hone hspare HN hA
 have hm1 : ((n - 1 : Nat) : Int) ≤ (n : Int) := by omega
 have hm2 : ((n - 1 : Nat) : Int) ≤ (cap : Int) := by omega
 have hm3 : n - 1 ≤ n := by omega
 have hm4 : n - (n - 1) = 1 := by omega
 have hm5 : cap ≠ n - 1 := by omega
 have hm6 : ¬ cap = n - 1 := by omega
 have hm7 : n ≠ n - 1 := by omega
 have hzl : (Builtin.zeroCells (Value.agg #[Value.string { data := #[] },Value.int IntKind.i64 0]).cells 1).toList = [Value.string { data := #[] },Value.int IntKind.i64 0] := by kernel_rfl
 have hcl := run_clear_rows (P := Tryz.prog) w1 63 74 63 (Value.agg #[Value.string { data := #[] },Value.int IntKind.i64 0]) Tryz.underlying63 hzv g (off + (n - 1) * 2) 1 (cap - (n - 1)) Nat.one_pos (by rw [hzl]; simp [Value.oneCell']) (fun j hj => by
  rw [hzl] at hj
  have := (T1.out ((n - 1) * 2 + j) (by simp at hj; omega)).1
  rw [← Nat.add_assoc] at this
  exact this) (fun j hj => by
  rw [hzl] at hj
  have := (T1.out ((n - 1) * 2 + j) (by simp at hj; omega)).2
  rw [← Nat.add_assoc] at this
  exact this)
 have HCL := hq' hcl
 clear hcl hzv
 go_wp2_with (first
  | (refine wpList_clear rfl _ _ rfl _ rfl _ (fun _ => HCL.out) ?_))
 go_ret
 have hown : (Value.slice (some ⟨g,off,none⟩) n cap).ownBlock = some g := by
  simp only [Value.ownBlock]
 generalize hzz : (Builtin.zeroCells #[Value.string { data := #[] },Value.int IntKind.i64 0] 1).toList = zz
 have K2 : Keeps (fun j => j = g) w (w1.setCells g (off + (n - 1) * 2) zz) := K1.out.trans (Keeps.cells _ _ _ _ rfl)
 refine ⟨.slice (some ⟨g,off,none⟩) (n - 1) cap,rfl,?_,⟨itC_len _,.inr ⟨g,off,cap,by rw [HEL.out],hB,Nat.lt_of_lt_of_le hg K2.size,by rw [HEL.out]; omega,hm,?_,World.there_setCells (w := w1) T1.out _ _ _⟩⟩,⟨K2.os,K2.tape,K2.output,K2.size,fun i hi hs => K2.block i hi (fun e => hs (by subst e; exact hown))⟩⟩
 ·rfl
 ·refine World.rangeAt_setCells_apart (w := w1) R1.out _ _ _ (.inr (.inl ?_))
  rw [itC_len,HEL.out]
  omega
def DecPost (D : List Value → World → Prop) (W : World) (e : Ending) (w' : World) : Prop :=
 ∃ cs,e = .returned (.tuple #[.agg cs.toArray,.int .i64 0]) ∧ cs.length = 38 ∧ cs.all (·.oneCell') = true ∧ Below W.heap.size W w' ∧ (∀ S b,Keeps S w' b → (∀ j,W.heap.size ≤ j → j < w'.heap.size → ¬ S j) → D cs b)
def TakePost (B pb : Nat) (lv : Value) (l : List Item) (D : List Value → World → Prop) (w : World) (e : Ending) (w' : World) : Prop :=
 ∃ cs lv',e = .returned (.tuple #[.agg cs.toArray,.bool true]) ∧ D cs w' ∧ BagW w' B pb lv' l ∧ BagK pb lv lv' w w'
def NoPost (B pb : Nat) (lv : Value) (l : List Item) (w : World) (e : Ending) (w' : World) : Prop :=
 e = .returned (.tuple #[.agg (zt0).toArray,.bool false]) ∧ BagW w' B pb lv l ∧ Below w.heap.size w w'
theorem bagTake_no (B pb : Nat) (lv : Value) (l : List Item) (n : Int) (hn : ¬ (0 ≤ n ∧ n < l.length)) (w : World) (h : BagW w B pb lv l) :
  Calls Tryz.prog 12 #[.pointer (some ⟨pb,0,none⟩),.int .i64 n] w (NoPost B pb lv l w) := by
 have H0 := hq' h
 clear h
 have HI38 := hq' (show (Tryz.prog.info? 44).map (·.size) = some ((zt0) : List Value).length by kernel_rfl)
 have HI39 := hq' (show (Tryz.prog.info? 44).map (·.size) = some ((zt0).toArray : Array Value).size by kernel_rfl)
 have HONE : Hid (((zt0).toArray : Array Value).all (·.oneCell') = true) := by simp [Hid,Value.oneCell']
 go_enter Tryz.func12,Tryz.ntmps12
 obtain ⟨w1,hw1,CR,B1⟩ := oneBox (w := w) (zt0) 44
 have HW1 := hq' hw1
 clear hw1
 go_upto_region 1 with (fail)
 first | rw [HW1.out] | skip
 clear HW1
 have H1 := hq' (H0.out.below B1.out)
 have HH := bagHas_any B pb lv l n w1 H1.out
 rw [show decide (0 ≤ n ∧ n < (l.length : Int)) = false from decide_eq_false hn] at HH
 have HHA := hq' HH
 clear HH hn
 obtain ⟨pr,hpr⟩ : ∃ pr,pr = w.heap.size := ⟨_,rfl⟩
 rw [← hpr] at CR
 first | rw [← hpr] | skip
 have HPR := hq' hpr
 clear hpr
 go_wp2_with fail
 refine HHA.out.mono ?_
 rintro e w2 ⟨rfl,rfl⟩
 have CQ : Hid (w2.heap[pr]? = some (.cells (zt0).toArray 44 (0,0))) := CR.out
 have CF : Hid (Cl (w2.setRow pr (zt0).toArray) pr (zt0) 44) := CR.out.row _
 have KF : Hid (Keeps (fun j => j = pr) w2 (w2.setRow pr (zt0).toArray)) := Keeps.row _ _ _ rfl
 go_wp2_with (refine wpList_store_row (by rfl) _ _ _ (by rfl) pr (zt0).toArray (by rfl) (by rfl) 44 _ CQ.out HI39.out rfl HONE.out ?_)
 refine bodyPost_ret (results_cl_tmp rfl _ _ _ _ _ _ rfl CF.out Tryz.underlying44 rfl HI38.out) rfl ?_
 have hlt := H0.out.c.lt
 have hp := HPR.out
 refine ⟨rfl,H1.out.keep KF.out (by omega) (fun j hj e => by have := (H0.out.s.lt j hj).2; omega),B1.out.trans (KF.out.toBelow B1.out.size (fun j hj e => by omega))⟩
theorem bagTake_any (B pb : Nat) (lv : Value) (l : List Item) (k : Nat) (x : Item) (hx : l[k]? = some x) (D : List Value → World → Prop) (w : World) (h : BagW w B pb lv l) (hB : B ≤ w.heap.size)
  (HD : ∀ W,Below w.heap.size w W → Calls Tryz.prog 26 #[.string ⟨x.1.toArray⟩] W (DecPost D W)) :
  Calls Tryz.prog 12 #[.pointer (some ⟨pb,0,none⟩),.int .i64 k] w (TakePost B pb lv (l.eraseIdx k) D w) := by
 have H0 := hq' h
 have HDD := hq' HD
 have hk : k < l.length := (List.getElem?_eq_some_iff.1 hx).1
 have hm := h.m
 have HX := hq' hx
 clear h HD hx
 have HI38 := hq' (show (Tryz.prog.info? 44).map (·.size) = some 38 by kernel_rfl)
 go_enter Tryz.func12,Tryz.ntmps12
 obtain ⟨w1,hw1,CR,B1⟩ := oneBox (w := w) (zt0) 44
 have HW1 := hq' hw1
 clear hw1
 go_upto_region 1 with (fail)
 first | rw [HW1.out] | skip
 clear HW1
 have H1 := hq' (H0.out.below B1.out)
 have HH := bagHas_any B pb lv l k w1 H1.out
 rw [show decide (0 ≤ (k : Int) ∧ (k : Int) < (l.length : Int)) = true from decide_eq_true (by omega)] at HH
 have HHA := hq' HH
 clear HH
 obtain ⟨pr,hpr⟩ : ∃ pr,pr = w.heap.size := ⟨_,rfl⟩
 rw [← hpr] at CR
 first | rw [← hpr] | skip
 have HPR := hq' hpr
 clear hpr
 have HD1 := hq' (HDD.out _ B1.out)
 have HDEL := hq' (fun (W : World) => bagDelete B l k hk hm lv W)
 have hpl := H0.out.c.lt
 have hol : Hid (∀ j,lv.ownBlock = some j → j < w.heap.size) := fun j hj => (H0.out.s.lt j hj).2
 have hnb : Hid (∀ j,lv.ownBlock = some j → j ≠ pb) := H0.out.n
 have hbb : B ≤ pb := H0.out.b
 have hbo : Hid (∀ j,lv.ownBlock = some j → B ≤ j) := fun j hj => (H0.out.s.lt j hj).1
 have hpc := HPR.out
 have hpne : pr ≠ pb := by omega
 clear hpc
 have s1 : Sl w1 B 2 lv l.length (itC l) := H1.out.s
 rcases s1.2 with ⟨_,h0⟩ | ⟨g,off,cap,hlv,hgB,hg,hnc,hmc,hr,ht⟩
 ·omega
 subst hlv
 have c1 : w1.cell? ⟨pb,0,none⟩ = some (.slice (some ⟨g,off,none⟩) l.length cap) := H1.out.c.cell 0
 have cx : w1.cell? ⟨g,off + k * 2,none⟩ = some (.string ⟨x.1.toArray⟩) := hr _ _ (itC_at HX.out).1
 have hki : (k : Int) < (l.length : Int) := by omega
 clear s1 hr ht HDD
 go_upto_region 3 with (first
  | (refine HHA.out.mono ?_; rintro e w2 ⟨rfl,rfl⟩))
 clear HHA
 go_wp2_with fail
 refine HD1.out.mono ?_
 rintro e w3 ⟨cs,rfl,hlen,hone,hb3,hD3⟩
 have B3 := hq' hb3
 have HD3 := hq' hD3
 have H3 := hq' (H1.out.below hb3)
 have C3 := hq' (CR.out.below hb3)
 have HLEN := hq' hlen
 have HON := hq' hone
 clear hb3 hD3 c1 cx HD1 hlen hone
 have HOA : Hid ((cs.toArray : Array Value).all (·.oneCell') = true) := by rw [Hid,List.all_toArray]; exact HON.out
 have HIA : Hid ((Tryz.prog.info? 44).map (·.size) = some (cs.toArray : Array Value).size) := by rw [Hid,HI38.out,List.size_toArray,HLEN.out]
 have HIL : Hid ((Tryz.prog.info? 44).map (·.size) = some cs.length) := by rw [Hid,HI38.out,HLEN.out]
 have HSZ : Hid (((zt0).toArray : Array Value).size = (cs.toArray : Array Value).size) := by rw [Hid]; show _ = cs.length; rw [HLEN.out]; rfl
 have CM : Hid ((w3.alloc (.cells (zt0).toArray 44)).heap[w3.heap.size]? = some (.cells (zt0).toArray 44 (0,0))) := Cl.new w3 (zt0) _
 have C5 : Hid (Cl ((w3.alloc (.cells (zt0).toArray 44)).setRow w3.heap.size cs.toArray) w3.heap.size cs 44) := by
  have := Cl.row (Cl.new w3 (zt0) 44) cs.toArray
  rwa [List.toList_toArray] at this
 have K5 : Hid (Keeps (fun j => j = w3.heap.size) w3 ((w3.alloc (.cells (zt0).toArray 44)).setRow w3.heap.size cs.toArray)) := (Keeps.alloc _ _ _).trans (Keeps.row _ _ _ rfl)
 go_upto_region 4 with (refine wpList_store_row (by rfl) _ _ _ (by rfl) w3.heap.size cs.toArray (by rfl) (by rfl) 44 _ CM.out HIA.out HSZ.out HOA.out ?_)
 generalize (w3.alloc (.cells (zt0).toArray 44)).setRow w3.heap.size cs.toArray = w5 at *
 clear CM
 obtain ⟨pm,hpm⟩ : ∃ pm,pm = w3.heap.size := ⟨_,rfl⟩
 rw [← hpm] at C5 K5 ⊢
 have hs1 := B1.out.size
 have hs3 := B3.out.size
 have hl1 := CR.out.lt
 have hl3 := H3.out.c.lt
 have H5 := hq' (H3.out.keep K5.out (by omega) (fun j hj e => by have := (H3.out.s.lt j hj).2; omega))
 have CR5 := hq' (C3.out.keep K5.out (by have := C3.out.lt; omega))
 have hpm1 : pm ≠ pr := by omega
 have hpm2 : pm ≠ pb := by omega
 have c5 : w5.cell? ⟨pb,0,none⟩ = some (.slice (some ⟨g,off,none⟩) l.length cap) := H5.out.c.cell 0
 have hwk : IntKind.i64.wrap ((k : Int) + 1) = (k : Int) + 1 := by rw [IntKind.wrap_i64]; omega
 have HDE := hq' (HDEL.out w5 H5.out.s)
 clear HDEL
 have HPM := hq' hpm
 clear hpm
 go_wp2_with fail
 refine HDE.out.mono ?_
 rintro e w6 ⟨v',rfl,hown,hs6,hk6⟩
 have HOWN := hq' hown
 have S6 := hq' hs6
 have K6 := hq' hk6
 clear hown hs6 hk6 c5 HDE
 have P6 := hq' (Cl.keep H5.out.c K6.out (fun e => hnb.out _ e rfl))
 obtain ⟨a',cap',hv',_⟩ := S6.out.form
 subst hv'
 have c6 : w6.cell? ⟨pb,0,none⟩ = some (.slice (some ⟨g,off,none⟩) l.length cap) := P6.out.cell 0
 have f6 : w6.frozen? ⟨pb,0,none⟩ = false := P6.out.free 0
 have CR6 := hq' (Cl.keep CR5.out K6.out (fun e => by have := hol.out _ e; have := HPR.out; omega))
 have CM6 := hq' (Cl.keep C5.out K6.out (fun e => by have := hol.out _ e; have := HPM.out; omega))
 have K7 : Hid (Keeps (fun j => j = pb) w6 (w6.setCell ⟨pb,0,none⟩ (.slice a' (l.eraseIdx k).length cap'))) := Keeps.setCell _ _ _ _ rfl
 have P7 : Hid (Cl (w6.setCell ⟨pb,0,none⟩ (.slice a' (l.eraseIdx k).length cap')) pb [.slice a' (l.eraseIdx k).length cap'] 65) := Cl.set P6.out 0 _
 have CR7 := hq' (Cl.keep CR6.out K7.out hpne)
 have CM7 := hq' (Cl.keep CM6.out K7.out hpm2)
 go_upto_region 5 with (fail)
 generalize w6.setCell ⟨pb,0,none⟩ (.slice a' (l.eraseIdx k).length cap') = w7 at *
 clear c6 f6
 have R7 := hq' CM7.out.range
 have CQ : Hid (w7.heap[pr]? = some (.cells (zt0).toArray 44 (0,0))) := CR7.out
 have CF : Hid (Cl (w7.setRow pr cs.toArray) pr cs 44) := by
  have := Cl.row CR7.out cs.toArray
  rwa [List.toList_toArray] at this
 have KF : Hid (Keeps (fun j => j = pr) w7 (w7.setRow pr cs.toArray)) := Keeps.row _ _ _ rfl
 go_wp2_with (first
  | (refine wpList_load_mid (by rfl) _ _ (by rfl) pm 0 (by rfl) cs _ R7.out Tryz.underlying44 (by rfl) HIL.out ?_)
  | (refine wpList_store_row (by rfl) _ _ _ (by rfl) pr cs.toArray (by rfl) (by rfl) 44 _ CQ.out HIA.out HSZ.out HOA.out ?_))
 refine bodyPost_ret (results_cl_tmp rfl _ _ _ _ _ _ rfl CF.out Tryz.underlying44 rfl HIL.out) rfl ?_
 have hpr := HPR.out
 have hpm := HPM.out
 have hle : (l.eraseIdx k).length ≤ 256 := by rw [List.length_eraseIdx_of_lt hk]; omega
 have hn7 : ∀ j,(Value.slice a' (l.eraseIdx k).length cap').ownBlock = some j → j ≠ pb ∧ j < w.heap.size := fun j hj => by rw [HOWN.out] at hj; exact ⟨hnb.out j hj,hol.out j hj⟩
 have S8 : Sl (w7.setRow pr cs.toArray) B 2 (.slice a' (l.eraseIdx k).length cap') (l.eraseIdx k).length (itC (l.eraseIdx k)) := (S6.out.kept K7.out (fun j hj e => (hn7 j hj).1 e)).kept KF.out (fun j hj e => by have := (hn7 j hj).2; omega)
 have Kall : ∀ S : Nat → Prop,S pm → (∀ j,(Value.slice (some ⟨g,off,none⟩) l.length cap).ownBlock = some j → S j) → S pb → S pr → Keeps S w3 (w7.setRow pr cs.toArray) := fun S h1 h2 h3 h4 => by
  have a1 : Keeps S w3 w5 := ⟨K5.out.os,K5.out.tape,K5.out.output,K5.out.size,fun i hi hs => K5.out.block i hi (fun e => hs (e ▸ h1))⟩
  have a2 : Keeps S w5 w6 := ⟨K6.out.os,K6.out.tape,K6.out.output,K6.out.size,fun i hi hs => K6.out.block i hi (fun e => hs (h2 _ e))⟩
  have a3 : Keeps S w6 w7 := ⟨K7.out.os,K7.out.tape,K7.out.output,K7.out.size,fun i hi hs => K7.out.block i hi (fun e => hs (e ▸ h3))⟩
  have a4 : Keeps S w7 (w7.setRow pr cs.toArray) := ⟨KF.out.os,KF.out.tape,KF.out.output,KF.out.size,fun i hi hs => KF.out.block i hi (fun e => hs (e ▸ h4))⟩
  exact ((a1.trans a2).trans a3).trans a4
 have hw1 : w.heap.size < w2.heap.size := by omega
 refine ⟨cs,_,rfl,HD3.out (fun j => ¬ (w2.heap.size ≤ j ∧ j < w3.heap.size)) _ (Kall _ (by omega) (fun j hj e => by have := hol.out j hj; omega) (by omega) (by omega)) (fun j h1 h2 h3 => h3 ⟨h1,h2⟩),⟨Cl.keep P7.out KF.out hpne.symm,S8,fun j hj => (hn7 j hj).1,hbb,hle⟩,?_⟩
 have hk := Kall (fun j => j = pm ∨ j = pr ∨ j = pb ∨ (Value.slice (some ⟨g,off,none⟩) l.length cap).ownBlock = some j) (.inl rfl) (fun j hj => .inr (.inr (.inr hj))) (.inr (.inr (.inl rfl))) (.inr (.inl rfl))
 refine ⟨(Keeps.below (fun j => j = pb ∨ (Value.slice (some ⟨g,off,none⟩) l.length cap).ownBlock = some j) (bt B1.out B3.out)).fresh hk (fun j hj e => ?_),fun j hj => .inl (by rw [HOWN.out] at hj; exact hj)⟩
 rcases e with e | e | e | e
 ·omega
 ·omega
 ·exact .inl e
 ·exact .inr e
theorem good_none (cs : List Value) (x : Int) (hx : cs[0]? = some (.int .i64 x)) (hk : Wi.inB x 1 9 = false) (w : World) :
  Calls Tryz.prog 44 #[.agg cs.toArray] w fun e w' => e = .returned (.bool false) ∧ Below w.heap.size w w' := by
 have HK := hq' hk
 have HX := hq' hx
 clear hk hx
 go_enter Tryz.func44,Tryz.ntmps44
 obtain ⟨w1,hw1,CA,B1⟩ := oneBox (w := w) cs 44
 have HW1 := hq' hw1
 clear hw1
 go_upto_region 1 with (fail)
 first | rw [HW1.out] | skip
 clear HW1
 generalize w.heap.size = pa at CA ⊢
 go_cut [51] (fun t51 wz => t51 = .bool true ∧ wz = w1.drew)
 case first =>
  have m0 : ∀ y : AnyOf (fun (L : Array Bool) (W : World) => W = w1.drew),y.1.cell? ⟨pa,0,none⟩ = some (.int .i64 x) := fun y => by
   obtain ⟨L,hL⟩ := y.2
   rw [show y.1 = w1.drew from hL]
   exact (CA.out.cell 0).trans HX.out
  have hne : Nonempty (AnyOf (fun (L : Array Bool) (W : World) => W = w1.drew)) := ⟨⟨_,Array.replicate 47 false,rfl⟩⟩
  go_wp2
  refine wp_region_ranks (fun (L : Array Bool) (W : World) => W = w1.drew) _ (by kernel_rfl) (by kernel_rfl) rfl rfl ?_
  refine rQuiet_head 2 (by decide) (by kernel_rfl) (fun i L W h1 h2 hc => hc) ?_
  simp only [tk',t0',dk',d0']
  repeat (go_big_quiet_step (fail))
  refine wpQuiet_nil ?_
  refine rQuiet_call (f := 68) (args := #[.int .i64 x,.int .i64 1,.int .i64 9]) (.bool false) rfl (fun w => by go_simp) (fun L w hD hi hc => (wwithin_any x 1 9 w).mono fun e w' ⟨he,hw⟩ => ⟨by rw [he,HK.out],by rw [hw]; exact hc⟩) ?_
  simp only [Act.put,ta',sz',ss']
  refine rQuiet_head 4 (by decide) (by kernel_rfl) (fun i L W h1 h2 hc => hc) ?_
  simp only [tk',t0',dk',d0']
  repeat (go_big_quiet_step (fail))
  refine wpQuiet_nil ?_
  refine rQuiet_none (by go_simp) (fun L w hD hi hc => hc) ?_
  simp only [Act.put,ta',sz',ss']
  refine rQuiet_head 5 (by decide) (by kernel_rfl) (fun i L W h1 h2 hc => hc) ?_
  simp only [tk',t0',dk',d0']
  repeat (go_big_quiet_step (fail))
  refine wpQuiet_nil ?_
  refine rQuiet_none (by go_simp) (fun L w hD hi hc => hc) ?_
  simp only [Act.put,ta',sz',ss']
  refine rQuiet_head 5 (by decide) (by kernel_rfl) (fun i L W h1 h2 hc => hc) ?_
  simp only [tk',t0',dk',d0']
  repeat (go_big_quiet_step (fail))
  refine wpQuiet_nil ?_
  refine rQuiet_none (by go_simp) (fun L w hD hi hc => hc) ?_
  simp only [Act.put,ta',sz',ss']
  refine rQuiet_head 7 (by decide) (by kernel_rfl) (fun i L W h1 h2 hc => hc) ?_
  simp only [tk',t0',dk',d0']
  repeat (go_big_quiet_step (fail))
  refine wpQuiet_nil ?_
  refine rQuiet_none (by go_simp) (fun L w hD hi hc => hc) ?_
  simp only [Act.put,ta',sz',ss']
  refine rQuiet_none (by go_simp) (fun L w hD hi hc => hc) ?_
  simp only [Act.put,ta',sz',ss']
  refine rQuiet_head 7 (by decide) (by kernel_rfl) (fun i L W h1 h2 hc => hc) ?_
  simp only [tk',t0',dk',d0']
  repeat (go_big_quiet_step (fail))
  refine wpQuiet_nil ?_
  refine rQuiet_none (by go_simp) (fun L w hD hi hc => hc) ?_
  simp only [Act.put,ta',sz',ss']
  refine rQuiet_none (by go_simp) (fun L w hD hi hc => hc) ?_
  simp only [Act.put,ta',sz',ss']
  refine rQuiet_head 3 (by decide) (by kernel_rfl) (fun i L W h1 h2 hc => hc) ?_
  simp only [tk',t0',dk',d0']
  repeat (go_big_quiet_step (fail))
  refine wpQuiet_nil ?_
  refine rQuiet_none (by go_simp) (fun L w hD hi hc => hc) ?_
  simp only [Act.put,ta',sz',ss']
  refine rQuiet_none (by go_simp) (fun L w hD hi hc => hc) ?_
  simp only [Act.put,ta',sz',ss']
  refine rQuiet_none (by go_simp) (fun L w hD hi hc => hc) ?_
  simp only [Act.put,ta',sz',ss']
  refine rQuiet_none (by go_simp) (fun L w hD hi hc => hc) ?_
  simp only [Act.put,ta',sz',ss']
  refine rQuiet_head 2 (by decide) (by kernel_rfl) (fun i L W h1 h2 hc => hc) ?_
  simp only [tk',t0',dk',d0']
  repeat (go_big_quiet_step (fail))
  refine wpQuiet_nil ?_
  intro w9 hw9
  have T4 := hq' hw9
  go_wp2
  go_meet
  case rel => exact ⟨rfl,T4.out⟩
 case rest =>
  obtain ⟨rfl,hwz⟩ := hcut
  have BZ : Hid (Below w.heap.size w wc) := by rw [hwz]; exact B1.out.drew
  clear hwz CA
  go_wp2
  go_ret
  exact ⟨rfl,BZ.out⟩
theorem encode_no (cs : List Value) (hlen : cs.length = 38) (w : World) (hg : ∀ W,Below w.heap.size w W → Calls Tryz.prog 44 #[.agg cs.toArray] W fun e w' => e = .returned (.bool false) ∧ Below W.heap.size W w') :
  Calls Tryz.prog 23 #[.agg cs.toArray] w fun e w' => e = .returned (.tuple #[.string ⟨#[]⟩,.int .i64 1]) ∧ Below w.heap.size w w' := by
 have HG := hq' hg
 have HIL : Hid ((Tryz.prog.info? 44).map (·.size) = some cs.length) := by rw [Hid,hlen]; kernel_rfl
 clear hg hlen
 go_enter Tryz.func23,Tryz.ntmps23
 obtain ⟨w1,hw1,CA,B1⟩ := oneBox (w := w) cs 44
 have HW1 := hq' hw1
 clear hw1
 go_upto_region 1 with (fail)
 first | rw [HW1.out] | skip
 clear HW1
 have R1 := hq' CA.out.range
 have HG1 := hq' (HG.out _ B1.out)
 obtain ⟨pa,hpa⟩ : ∃ pa,pa = w.heap.size := ⟨_,rfl⟩
 rw [← hpa] at R1
 first | rw [← hpa] | skip
 have HPA := hq' hpa
 clear hpa CA
 go_wp2_with (refine wpList_load_mid (by rfl) _ _ (by rfl) pa 0 (by rfl) cs _ R1.out Tryz.underlying44 (by rfl) HIL.out ?_)
 refine HG1.out.mono ?_
 rintro e w2 ⟨rfl,hb2⟩
 have B2 := hq' (bt B1.out hb2)
 clear hb2
 go_wp2
 go_ret2
 exact ⟨rfl,B2.out⟩
end Go.Proofs.YtbljbdjmgogknaaGreatDoor
