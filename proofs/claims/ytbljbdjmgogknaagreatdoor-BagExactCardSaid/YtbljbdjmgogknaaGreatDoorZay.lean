/-
  Wm6: texts of one proof, one behind the other.
  Conditions: none of its own.
-/
import Derived.Test.YtbljbdjmgogknaaGreatDoorZax
import Derived.RangeFuncBox
import Derived.RangeFuncOwn
set_option linter.unusedVariables false
set_option linter.unusedSimpArgs false
set_option maxHeartbeats 12800000
set_option maxRecDepth 20000
namespace Go.Proofs.YtbljbdjmgogknaaGreatDoor
open Go.RowKit Go.Shelf
attribute [local go_sem] Oper.semAt_some
def noPut (o : Oper) : Bool := match o.op with | .defer _ => false | _ => true
theorem Oper.wpIn_toRound {lp n : Nat} {P : Program} {o : Oper} {a : Act} {K : Act → World → Prop} {Q : Exit → Act → World → Prop} {w : World} (hd : noPut o = true) (h : o.wpIn Fence.wide n P a w K Q) : o.wpIn (Fence.wide.inRound lp) n P a w K Q := by
 unfold Oper.wpIn at h ⊢
 refine ⟨h.1,?_⟩
 have h2 := h.2
 rw [Fence.inRound_round,Oper.semAt_some lp _ _ (fun c hc => by unfold noPut at hd; rw [hc] at hd; cases hd)]
 change o.uponIn Fence.wide n P a K Q ((execOp a.eval o).run P w) at h2
 generalize (execOp a.eval o).run P w = r at *
 cases r with
 | ok x w' => cases x <;> simp only [Oper.uponIn] at h2 ⊢ <;> exact h2
 | halt x w' => cases x <;> simp only [Oper.uponIn] at h2 ⊢ <;> exact h2
theorem wpOpIn_toRound {lp n : Nat} {P : Program} {ops : Array Oper} {Q : Exit → Act → World → Prop} {i : Nat} {K : Act → World → Prop} {a : Act} {w : World} (hd : ∀ o ∈ ops,noPut o = true) (h : wpOpIn Fence.wide n P ops Q i K a w) : wpOpIn (Fence.wide.inRound lp) n P ops Q i K a w := by
 unfold wpOpIn at h ⊢
 split
 ·rename_i ho; simp only [ho] at h; exact h
 ·rename_i o ho
  simp only [ho] at h
  split
  ·rename_i hw; simp only [hw,if_true] at h; exact Oper.wpIn_toRound (hd o (Array.mem_of_getElem? ho)) h
  ·rename_i hw; simp only [hw] at h; exact h
theorem wpAnyIn_toRound {lp n : Nat} {P : Program} {md : Region.Mode} {ops : Array Oper} {Q : Exit → Act → World → Prop} (hd : ∀ o ∈ ops,noPut o = true) : ∀ (fuel : Nat) (listed : Array Bool) (a : Act) (w : World),wpAnyIn Fence.wide n P md ops Q fuel listed a w → wpAnyIn (Fence.wide.inRound lp) n P md ops Q fuel listed a w
 | 0,_,_,_,h => h
 | fuel + 1,_,_,_,h => ⟨h.1,fun i hi => wpOpIn_toRound hd (wpOpIn_mono (fun a w => wpAnyIn_toRound hd fuel _ a w) (h.2 i hi))⟩
theorem region_round {lp n : Nat} {P : Program} {id : Nat} {l : List Oper} {Q : Exit → Act → World → Prop} {a : Act} {w : World} (hm : P.follows .mixedOrders = true) (hd : l.all noPut = true) (h : wpAnyIn Fence.wide n P .any l.toArray Q l.toArray.size (Array.replicate l.toArray.size false) a w.drew) :
  (Code.region id l.toArray true).wpIn (Fence.wide.inRound lp) n P Q a w :=
 wpIn_region_any hm (wpAnyIn_toRound (fun o ho => List.all_eq_true.1 hd o (by simpa using ho)) _ _ _ _ h)
theorem opIn_append {F : Fence} {n : Nat} {P : Program} (w : World) {o : Oper} {a : Act} {K : Act → World → Prop} {Q : Exit → Act → World → Prop} (s x : Operand) (t : TypeId) (hop : o.op = Op.call { callee := Callee.builtin Builtin.append,args := #[s,x],argTypes := #[t,t] })
  (v' : Value) (w' : World) (hrun : (Builtin.append_ #[t,t] o.type #[a.eval s,a.eval x]).run P w = .ok v' w') (hK : K (a.put o.dst v') w') : o.wpIn F n P a w K Q := by
 unfold Oper.wpIn
 refine ⟨?_,?_⟩
 ·simp [Oper.about,hop,resolve,Target.leads,Sem.run_pure]
 ·rw [Oper.semAt_plain F _ _ (by rw [hop]; intro c hc'; cases hc')]
  simp [execOp,hop,resolve,invoke,builtin,hrun,Result.andThen]
  exact hK
theorem lifeInfo : (Tryz.prog.info? 90).map (fun i => (i.zero,i.size,i.bytes)) = some (some (.agg #[.int .i64 0,.int .i64 0]),2,16) := by kernel_rfl
def lifeCells (l : List (Int × Int)) : List Value := l.flatMap fun x => [.int .i64 x.1,.int .i64 x.2]
theorem lifeCells_app (l : List (Int × Int)) (x : Int × Int) : lifeCells (l ++ [x]) = lifeCells l ++ [.int .i64 x.1,.int .i64 x.2] := by simp [lifeCells]
def pairAt (l : List Int) (k : Nat) : Int × Int := (l.getD (2 * k) 0,l.getD (2 * k + 1) 0)
theorem pairs_at : ∀ (m : Nat) (l : List Int),l.length = 2 * m → Wi.pairs l = (List.range m).map (pairAt l)
 | 0,l,h => by
  obtain rfl : l = [] := List.eq_nil_of_length_eq_zero (by omega)
  rfl
 | m + 1,l,h => by
  match l,h with
  | x::y::r,h =>
   have hr : r.length = 2 * m := by simp at h; omega
   rw [Wi.pairs,pairs_at m r hr,List.range_succ_eq_map,List.map_cons,List.map_map]
   rfl
def livesOf {m : Nat} (l : List Int) (pre : List (Fin m)) : List (Int × Int) := pre.map fun x => pairAt l x.1
def PlI (W0 : World) (xb : Nat) (l : List Int) {m : Nat} (pre : List (Fin m)) (W : World) : Prop :=
 ∃ a c,W.ownsRow W0.heap.size 90 2 (.slice a pre.length c) pre.length (lifeCells (livesOf l pre)) ∧ Cl W xb [.slice a pre.length c] 33 ∧ Keeps (fun k => k = xb ∨ W0.heap.size ≤ k) W0 W
theorem own_round {w w' : World} {b : Nat} {e : TypeId} {size : Nat} {v : Value} {n : Nat} {xs : List Value} {row : Option Nat} (h : w.ownsRow b e size v n xs) (hg : w.grownBy w' row) (hr : ∀ r,row = some r → ∃ o : Obj,w.heap[r]? = some o ∧ o.isCells = false) : w'.ownsRow b e size v n xs := by
 refine World.ownsRow.kept h hg ?_
 rcases h.2 with ⟨rfl,_⟩ | ⟨g',cap,cur,rfl,_,hg',_⟩
 ·exact .inl rfl
 ·right
  intro he
  obtain ⟨o,ho,hc⟩ := hr g' he.symm
  rw [hg'] at ho
  injection ho with ho
  subst ho
  cases hc
theorem cl_round {w w' : World} {g : Nat} {cs : List Value} {t : TypeId} {row : Option Nat} (h : Cl w g cs t) (hg : w.grownBy w' row) (hr : ∀ r,row = some r → ∃ o : Obj,w.heap[r]? = some o ∧ o.isCells = false) : Cl w' g cs t := by
 refine h.grown hg (fun e => ?_)
 obtain ⟨o,ho,hc⟩ := hr g e.symm
 have hs' : w.heap[g]? = _ := h
 rw [hs'] at ho
 injection ho with ho
 subst ho
 cases hc
theorem PlI.own {W0 : World} {xb : Nat} {l : List Int} {m : Nat} : OwnFrom W0.heap.size (PlI W0 xb l (m := m)) := fun pre W W' row ⟨a,c,ho,hc,hk⟩ hg hr =>
 ⟨a,c,own_round ho hg (fun r e => (hr r e).2),cl_round hc hg (fun r e => (hr r e).2),hk.trans ⟨hg.os,hg.tape,hg.output,hg.size,fun k hk hn => hg.block k hk (fun e => hn (.inr (hr k e.symm).1))⟩⟩
def setA (t : Array Value) (l : List (Nat × Value)) : Array Value := l.foldl (fun t p => t.setIfInBounds p.1 p.2) t
theorem rangeSet {F : Fence} {n : Nat} {P : Program} {w : World} {α : Type} {g : Operand} {ps : Array Tmp} {assign body : Code} {Q : Exit → Act → World → Prop} {a : Act}
  (hro : F.round = none) (h1 : 1 ≤ n) {gf : Nat} {lb : Array Value} (hg : a.eval g = .func (.func gf) #[] lb) (hFg : F.fn gf) (eg : ∀ args w,(callFunc gf args).run P w = .ok (.enter gf args) w)
  {encs : α → Array Value} {Kp : World → World → Prop} {S Sp : List α → Prop} {N : Nat} {w0 : World} (hseq : SeqStopsK F (n - 1) P gf lb encs Kp S Sp N w0)
  (hKt : ∀ {A B C : World},Kp A B → Kp B C → Kp A C) (hKb : ∀ (W : World) (l : Nat) (o o' : Obj),w.heap.size ≤ l → W.heap[l]? = some o → o.isCells = false → o.isWalk = false → Kp W (W.putObj l o')) (hKr : ∀ W,Kp W W) (hb0 : Below w0.heap.size w0 w) (hps : ∀ x,(encs x).size = ps.size)
  (I : List α → World → Prop) (hI : OwnFrom w.heap.size I) (h0 : I [] w)
  (U : α → List (Nat × Value))
  (hassign : ∀ (l : Nat) (x : α) (W : World) (K : Act → World → Prop),K { tmps := setA a.tmps (U x),defers := [] } W →
   assign.wpIn (F.inRound l) (n - 1 - 1) P (Exit.then K (fun _ _ _ => False)) { tmps := (ps.zip (encs x)).foldl (fun t (p,v) => t.setIfInBounds p v) a.tmps,defers := [] } W)
  (hbody : ∀ (l : Nat) (pre : List α) (x : α) (W : World),I pre W → pre.length < N → body.wpIn (F.inRound l) (n - 1 - 1) P (ownPostG w.heap.size Kp I (fun _ _ _ => False) (pre ++ [x]) W) { tmps := setA a.tmps (U x),defers := [] } W)
  (hdone : ∀ (D : Nat) (xs : List α) (W : World),w.heap.size ≤ D → S xs → I xs W → W.heap[D]? = some (.deferred (some [])) → Q .normal { a with defers := { target := .collected D,args := #[] }::a.defers } W) :
  (Code.rangeFunc g ps assign body).wpIn F n P Q a w :=
 wpIn_rangeFunc_ownH hro h1 hg hFg eg hseq hKt hKb hb0 hps I (fun _ _ _ => False) hI (fun _ _ _ _ _ hs _ _ => hs) h0 (fun x a' _ => a' = { tmps := setA a.tmps (U x),defers := [] })
  (fun x a' _ _ _ _ hs _ _ => hs)
  (fun l pre x W K hi hK => hassign l x W K (hK _ W (KeepsFrom.refl _ _) (hKr W) hi rfl))
  (fun l pre x a' W _ _ hi hA hl => by
   subst hA
   exact hbody l pre x W hi hl)
  hdone (fun _ _ _ _ _ _ hs _ => hs.elim)
theorem keepsFrom_cells {B : Nat} {S : Nat → Prop} {W W' : World} (h : Keeps S W W') (hs : ∀ k o,S k → W.heap[k]? = some o → o.isCells = true) : KeepsFrom B W W' :=
 ⟨h.size,fun k o _ hk ho => (h.block k (Array.getElem?_eq_some_iff.1 hk).1 (fun e => by rw [hs k o e hk] at ho; cases ho)).trans hk⟩
theorem ownsRow_keepsS {S : Nat → Prop} {w w' : World} {b : Nat} {e : TypeId} {size : Nat} {v : Value} {n : Nat} {xs : List Value} (h : w.ownsRow b e size v n xs) (k : Keeps S w w') (hS : ∀ j,v.ownBlock = some j → ¬ S j) : w'.ownsRow b e size v n xs := by
 rcases h.2 with h0 | ⟨g,cap,cur,rfl,hB,hg,r⟩
 ·exact ⟨h.1,.inl h0⟩
 ·exact ⟨h.1,.inr ⟨g,cap,cur,rfl,hB,(k.block g (Array.getElem?_eq_some_iff.1 hg).1 (hS g rfl)).trans hg,r⟩⟩
theorem results_cct {P : Program} {fn : Func} {p p2 u : Tmp} {ty ty2 : TypeId} (h : fn.results = #[.cell p ty,.cell p2 ty2,.tmp u]) (tmps : Array Value) (w : World) : (results fn tmps).run P w =
  ((asAddr (tmps.getD p undef)).run P w).andThen fun a w₁ => ((loadVar ty a).run P w₁).andThen fun v w₂ => ((asAddr (tmps.getD p2 undef)).run P w₂).andThen fun a2 w₃ => ((loadVar ty2 a2).run P w₃).andThen fun v2 w₄ => .ok (.tuple #[v,v2,tmps.getD u undef]) w₄ := by
 simp only [results,h]
 simp [Sem.run_bind,Result.andThen]
theorem results_place (tmps : Array Value) (w : World) (g g2 : Nat) (t t2 : TypeId) (cs : List Value) {v2 : Value} (hp : tmps.getD 2 undef = .pointer (some ⟨g,0,none⟩)) (hg : Cl w g cs t) (hi : (Tryz.prog.info? 32).map (·.size) = some cs.length)
  (hp2 : tmps.getD 3 undef = .pointer (some ⟨g2,0,none⟩)) (h2 : Cl w g2 [v2] t2) : (results Tryz.f95 tmps).run Tryz.prog w = .ok (.tuple #[.agg cs.toArray,v2,tmps.getD 4 undef]) w := by
 have c0 := h2.cell 0
 simp only [List.getElem?_cons_zero] at c0
 have hr := run_loadVar_row (P := Tryz.prog) w g t 32 cs.toArray (0,0) _ hg Tryz.underlying32 rfl (by simpa using hi)
 have hr2 : (loadVar 33 ⟨g2,0,none⟩).run Tryz.prog w = .ok v2 w := by simp [go_sem,c0]
 rw [results_cct rfl,hp,hp2]
 simp [asAddr,hr,hr2]
theorem readPlace_any (p : Nat) (q : Bd.St) (w : World) (h : Rd w p q) (hl : q.1.length < 4294967281) (hw : ∀ W,Kp w p W → Lw W) :
  Calls Tryz.prog 95 #[.pointer (some ⟨p,0,none⟩)] w fun e w' => ∃ cv lv,e = .returned (.tuple #[.agg #[.int .i64 (Wi.sPlace q).1.1.1,cv,.int .i64 (Wi.sPlace q).1.1.2.2.1],lv,.bool (Wi.sPlace q).1.2]) ∧ w'.ownsRow w.heap.size 3 1 cv (Wi.sPlace q).1.1.2.1.length (iv (Wi.sPlace q).1.1.2.1) ∧
   w'.ownsRow w.heap.size 90 2 lv (Wi.sPlace q).1.1.2.2.2.length (lifeCells (Wi.sPlace q).1.1.2.2.2) ∧ Rd w' p (Wi.sPlace q).2 ∧ Kp w p w' := by
 have HW := hq' hw
 have HS : Hid (Wi.sPlace q = ((((Bd.sInt q).1,(Wi.sInts (Bd.sInt q).2).1,(Bd.sInt (Wi.sInts (Bd.sInt q).2).2).1,if Wi.evenB (Wi.sInts (Bd.sInt (Wi.sInts (Bd.sInt q).2).2).2).1 then Wi.pairs (Wi.sInts (Bd.sInt (Wi.sInts (Bd.sInt q).2).2).2).1 else []),Wi.evenB (Wi.sInts (Bd.sInt (Wi.sInts (Bd.sInt q).2).2).2).1),(Wi.sInts (Bd.sInt (Wi.sInts (Bd.sInt q).2).2).2).2)) := rfl
 have hpl := h.lt
 have hs1 := World.size_alloc w (.cells #[.int .i64 0,.slice none 0 0,.int .i64 0] 32)
 have X1 : Hid (Rx w p w.heap.size ((w.alloc (.cells #[.int .i64 0,.slice none 0 0,.int .i64 0] 32)).alloc (.cells #[.slice none 0 0] 33)) q [.int .i64 0,.slice none 0 0,.int .i64 0] 32) := (Rx.new h [.int .i64 0,.slice none 0 0,.int .i64 0] 32).alloc _
 have L1 : Hid (Cl ((w.alloc (.cells #[.int .i64 0,.slice none 0 0,.int .i64 0] 32)).alloc (.cells #[.slice none 0 0] 33)) (w.heap.size + 1) [.slice none 0 0] 33) := by
  have := Cl.new (w.alloc (.cells #[.int .i64 0,.slice none 0 0,.int .i64 0] 32)) [.slice none 0 0] 33
  rw [hs1] at this
  exact this
 have l1 := sInt_len q
 have l2 := Wi.sInts_len (Bd.sInt q).2
 have l3 := sInt_len (Wi.sInts (Bd.sInt q).2).2
 have hcnt : (Wi.sInts (Bd.sInt (Wi.sInts (Bd.sInt q).2).2).2).1.length ≤ (Bd.sInt (Wi.sInts (Bd.sInt q).2).2).2.1.length + 1 := Nat.le_trans (sAll_cnt _ _) (Nat.succ_le_succ (sSign_len _ _))
 have I0 := hq' (fun W (hR : Rd W p q) (hL : Lw W) => int_any p q W hR hl hL)
 have I1 := hq' (fun W (hR : Rd W p (Bd.sInt q).2) (hL : ∀ W',Kp W p W' → Lw W') => numbers_any p (Bd.sInt q).2 W hR (by omega) hL)
 have I2 := hq' (fun W (hR : Rd W p (Wi.sInts (Bd.sInt q).2).2) (hL : Lw W) => int_any p (Wi.sInts (Bd.sInt q).2).2 W hR (by omega) hL)
 have I3 := hq' (fun W (hR : Rd W p (Bd.sInt (Wi.sInts (Bd.sInt q).2).2).2) (hL : ∀ W',Kp W p W' → Lw W') => numbers_any p (Bd.sInt (Wi.sInts (Bd.sInt q).2).2).2 W hR (by omega) hL)
 have hlen : (Wi.sInts (Bd.sInt (Wi.sInts (Bd.sInt q).2).2).2).1.length < 4294967290 := by omega
 clear h hw hcnt l1 l2 l3
 generalize (Wi.sInts (Bd.sInt (Wi.sInts (Bd.sInt q).2).2).2).1 = l at *
 generalize (Wi.sInts (Bd.sInt (Wi.sInts (Bd.sInt q).2).2).2).2 = qz at *
 generalize (Bd.sInt (Wi.sInts (Bd.sInt q).2).2).1 = n2 at *
 generalize (Bd.sInt (Wi.sInts (Bd.sInt q).2).2).2 = q3 at *
 generalize (Wi.sInts (Bd.sInt q).2).1 = ch at *
 generalize (Wi.sInts (Bd.sInt q).2).2 = q2 at *
 generalize (Bd.sInt q).1 = n0 at *
 generalize (Bd.sInt q).2 = q1 at *
 refine (callsIn_wide (n := 6)).1 ?_
 refine callsIn_of_wp_marks Tryz.func95 rfl trivial ?_ rfl
 simp only [Tryz.ntmps95,List.size_toArray,List.length_cons,List.length_nil,Nat.reduceAdd,Nat.reduceSub,Array.replicate_succ,Array.replicate_zero,List.push_toArray,List.append_toArray,List.nil_append,List.cons_append]
 refine wpIn_wide.2 ?_
 go_upto_region 1 with (fail)
 first | rw [hs1] | skip
 generalize (w.alloc (.cells #[.int .i64 0,.slice none 0 0,.int .i64 0] 32)).alloc (.cells #[.slice none 0 0] 33) = w1 at *
 generalize hx : w.heap.size = x at *
 have HX := hq' hx
 have hbp : x + 1 ≠ p := by omega
 have hbx : x ≠ x + 1 := by omega
 clear hx hs1
 go_wp2_with fail
 refine (I0.out _ X1.out.1 (HW.out _ X1.out.2.2.2.2)).mono ?_
 rintro e w2 ⟨rfl,h2⟩
 have X2 := hq' (X1.out.call h2)
 have L2 := hq' (L1.out.keep h2.2 hbp)
 clear h2 X1 L1 I0
 have c0 := X2.out.2.1.cell 0
 have f0 := X2.out.2.1.free 0
 simp only [g0',gs'] at c0
 have X3 : Hid (Rx w p x (w2.setCell ⟨x,0,none⟩ (.int .i64 n0)) q1 [.int .i64 n0,.slice none 0 0,.int .i64 0] 32) := X2.out.store 0 (.int .i64 n0)
 have L3 := hq' (L2.out.other ⟨x,0,none⟩ (.int .i64 n0) hbx)
 go_upto_region 2 with (fail)
 clear X2 L2 c0 f0
 generalize w2.setCell ⟨x,0,none⟩ (.int .i64 n0) = w3 at *
 go_wp2_with fail
 refine (I1.out _ X3.out.1 (fun W' k => HW.out _ (X3.out.2.2.2.2.trans k))).mono ?_
 rintro e w4 ⟨cv,rfl,ho,hr,hk⟩
 have X4 := hq' (X3.out.own hr hk)
 have L4 := hq' (L3.out.keep hk (fun e => e.elim hbp (fun e => by have := L3.out.lt; omega)))
 have hxl := X3.out.2.1.lt
 have hbl := L3.out.lt
 have O4 := hq' ho
 have hba : w.heap.size ≤ w3.heap.size := X3.out.2.2.2.2.size
 have hpl3 : p < w3.heap.size := by omega
 clear ho hr hk I1 X3 L3
 have c1 := X4.out.2.1.cell 1
 have f1 := X4.out.2.1.free 1
 simp only [g0',gs'] at c1
 have X5 : Hid (Rx w p x (w4.setCell ⟨x,1,none⟩ cv) q2 [.int .i64 n0,cv,.int .i64 0] 32) := X4.out.store 1 cv
 have L5 := hq' (L4.out.other ⟨x,1,none⟩ cv hbx)
 have O5 := hq' (ownsRow_cell O4.out ⟨x,1,none⟩ cv (by simp only; omega))
 obtain ⟨ac,cc,hce⟩ := own_form O4.out
 subst hce
 go_upto_region 3 with (fail)
 clear X4 L4 O4 c1 f1
 generalize w4.setCell ⟨x,1,none⟩ (.slice ac ch.length cc) = w5 at *
 go_wp2_with fail
 refine (I2.out _ X5.out.1 (HW.out _ X5.out.2.2.2.2)).mono ?_
 rintro e w6 ⟨rfl,h6⟩
 have X6 := hq' (X5.out.call h6)
 have L6 := hq' (L5.out.keep h6.2 hbp)
 have O6 := hq' (ownsRow_keeps O5.out h6.2 hpl3)
 clear h6 X5 L5 O5 I2
 have c2 := X6.out.2.1.cell 2
 have f2 := X6.out.2.1.free 2
 simp only [g0',gs'] at c2
 have X7 : Hid (Rx w p x (w6.setCell ⟨x,2,none⟩ (.int .i64 n2)) q3 [.int .i64 n0,.slice ac ch.length cc,.int .i64 n2] 32) := X6.out.store 2 (.int .i64 n2)
 have L7 := hq' (L6.out.other ⟨x,2,none⟩ (.int .i64 n2) hbx)
 have O7 := hq' (ownsRow_cell O6.out ⟨x,2,none⟩ (.int .i64 n2) (by simp only; omega))
 go_upto_region 4 with (fail)
 clear X6 L6 O6 c2 f2
 generalize w6.setCell ⟨x,2,none⟩ (.int .i64 n2) = w7 at *
 go_wp2_with fail
 refine (I3.out _ X7.out.1 (fun W' k => HW.out _ (X7.out.2.2.2.2.trans k))).mono ?_
 rintro e w8 ⟨nv,rfl,ho,hr,hk⟩
 have X8 := hq' (X7.out.own hr hk)
 have L8 := hq' (L7.out.keep hk (fun e => e.elim hbp (fun e => by have := L7.out.lt; omega)))
 have N8 := hq' ho
 have hbb : w.heap.size ≤ w7.heap.size := X7.out.2.2.2.2.size
 have hxl7 := X7.out.2.1.lt
 have hs87' : Hid (w7.heap.size ≤ w8.heap.size) := hk.size
 have hbl7 := L7.out.lt
 have O8 := hq' (O7.out.kept (row := some p) ⟨hk.os,hk.tape,hk.output,hk.size,fun i hi hne => hk.block i hi (fun e => e.elim (fun e => hne (by rw [e])) (fun e => by omega))⟩ (by
  rcases hv : (Value.slice ac ch.length cc).ownBlock with _ | g
  ·exact .inl rfl
  ·right
   intro e
   have := (O7.out.lt g hv).1
   injection e with e
   omega))
 obtain ⟨an,cn,hne⟩ := own_form N8.out
 subst hne
 clear ho hr hk I3 X7 L7 O7
 have c0 := X8.out.2.1.cell 0
 have c1 := X8.out.2.1.cell 1
 have c2 := X8.out.2.1.cell 2
 have f0 := X8.out.2.1.free 0
 have f1 := X8.out.2.1.free 1
 have f2 := X8.out.2.1.free 2
 have l0 := L8.out.cell 0
 have lf := L8.out.free 0
 simp only [g0',gs'] at c0 c1 c2 l0
 have hev2 : Wi.evenB l = decide (l.length % 2 = 0) := by unfold Wi.evenB; by_cases h : l.length % 2 = 0 <;> simp [h]
 by_cases hev : l.length % 2 = 0
 ·have hevb : ((l.length : Int) % 2 != 0) = false := by simp; omega
  rw [decide_eq_true hev] at hev2
  go_wp2_with fail
  refine (chunk_any an l.length cn w8).mono ?_
  rintro e w9 ⟨rfl,hw9⟩
  have hsa := World.size_alloc w8 (.cells #[.slice an l.length cn] 30)
  have X9 : Hid (Rx w p x w9 qz [.int .i64 n0,.slice ac ch.length cc,.int .i64 n2] 32) := by rw [hw9]; exact (X8.out.alloc _).alloc _
  have L9 : Hid (Cl w9 (x + 1) [.slice none 0 0] 33) := by rw [hw9]; exact (L8.out.alloc _).alloc _
  have O9 : Hid (w9.ownsRow w3.heap.size 3 1 (.slice ac ch.length cc) ch.length (iv ch)) := by rw [hw9]; exact World.ownsRow.alloc (World.ownsRow.alloc O8.out _) _
  have N9 : Hid (w9.ownsRow w7.heap.size 3 1 (.slice an l.length cn) l.length (iv l)) := by rw [hw9]; exact World.ownsRow.alloc (World.ownsRow.alloc N8.out _) _
  have S9 : Hid (Cl w9 w8.heap.size [.slice an l.length cn] 30) := by rw [hw9]; exact (Cl.new w8 [.slice an l.length cn] _).alloc _
  have B9 : Hid (Cl w9 (w8.heap.size + 1) [.int .i64 2] 3) := by
   have := Cl.new (w8.alloc (.cells #[.slice an l.length cn] 30)) [.int .i64 2] 3
   rw [hsa] at this
   rw [hw9]
   exact this
  have hs98 : w8.heap.size + 2 = w9.heap.size := by rw [hw9,World.size_alloc,World.size_alloc]
  have hcap : l.length ≤ cn := by
   rcases N8.out.2 with ⟨e,h0⟩ | ⟨g,cap,cur,e,_,_,hc,_⟩
   ·omega
   ·injection e with e1 e2 e3; omega
  have hs87 := hs87'.out
  obtain ⟨m,hm⟩ : ∃ m,l.length = 2 * m := ⟨l.length / 2,by omega⟩
  obtain ⟨g,hga,hgl,hgc⟩ : ∃ g,(an = some ⟨g,0,none⟩ ∨ m = 0) ∧ (m ≠ 0 → w7.heap.size ≤ g ∧ g < w9.heap.size) ∧ (∀ j,j < l.length → w9.cell? ⟨g,j,none⟩ = some (.int .i64 (l.getD j 0))) := by
   by_cases h0 : m = 0
   ·exact ⟨0,.inr h0,fun h => absurd h0 h,fun j hj => by omega⟩
   ·obtain ⟨g,cap,e,hc⟩ := own_slice N9.out (by omega)
    injection e with e1 e2 e3
    have hlt := N9.out.lt g (by rw [e1]; rfl)
    refine ⟨g,.inl e1,fun _ => hlt,fun j hj => ?_⟩
    have := hc j (.int .i64 (l.getD j 0)) (by simp [iv,hj])
    rwa [Addr.add_mid,Nat.zero_add] at this
  have GC := hq' hgc
  have GL := hq' hgl
  clear X8 L8 O8 N8 hw9 c0 c1 c2 f0 f1 f2 l0 lf hsa hgc hgl
  have hml : 2 * m < 4294967290 := by omega
  have SS : w9.cell? ⟨w8.heap.size,0,none⟩ = some (.slice an (2 * m) cn) := by rw [← hm]; exact S9.out.cell 0
  have hcap2 : 2 * m ≤ cn := by omega
  generalize w8.heap.size = bs at *
  have HEV := hq' hev2
  clear hev2 hev
  go_wp2_with fail
  refine (wpIn_wide (n := 6)).1 ?_
  refine rangeSet rfl (by omega) (gf := 137) (lb := #[.pointer (some ⟨bs,0,none⟩),.pointer (some ⟨bs + 1,0,none⟩)]) rfl trivial (enters_of Tryz.func137 (by kernel_rfl) rfl)
   (chunk_stops (6 - 1) (by omega) bs (bs + 1) g m cn an w9 (by omega) (by omega) SS (B9.out.cell 0) hcap2 (by omega) hga) KpC.trans (KpC.book (by omega) (by omega)) (fun W => ⟨rfl,rfl⟩) (Below.refl _ _) (fun _ => rfl)
   (PlI w9 (x + 1) l) PlI.own ⟨none,0,⟨rfl,.inl ⟨rfl,rfl⟩⟩,L9.out,Keeps.refl _ _⟩
   (fun x => [(25,.slice (some ⟨g,2 * x.1,none⟩) 2 2),(6,.slice (some ⟨g,2 * x.1,none⟩) 2 2)])
   ?assign ?body ?done
  case assign =>
   intro lp x W K hK
   dsimp only [chunkV]
   gi_wp2
   exact hK
  case body =>
   rintro lp pre x1 W ⟨a,c,ho,hcl,hk⟩ hlen1
   simp only [setA,List.foldl_cons,List.foldl_nil,List.setIfInBounds_toArray,List.set_cons_succ,List.set_cons_zero]
   have HO := hq' ho
   have HC := hq' hcl
   have HK := hq' hk
   clear ho hcl hk
   gi_wp2_with fail
   refine region_round (by kernel_rfl) (by rfl) ?_
   have hx1 := x1.2
   have hgg := GL.out (by omega)
   have hblk : W.drew.heap[g]? = w9.heap[g]? := HK.out.block g hgg.2 (fun e => e.elim (by omega) (by omega))
   have d0 := (World.cell?_of_block hblk).trans (GC.out (2 * x1.1) (by omega))
   have d1 := (World.cell?_of_block hblk).trans (GC.out (2 * x1.1 + 1) (by omega))
   have HU : Hid (pairAt l x1.1 = (l.getD (2 * x1.1) 0,l.getD (2 * x1.1 + 1) 0)) := rfl
   have HO1 : Hid (W.drew.ownsRow w9.heap.size 90 2 (.slice a pre.length c) pre.length (lifeCells (livesOf l pre))) := HO.out
   have HC1 : Hid (Cl W.drew (x + 1) [.slice a pre.length c] 33) := HC.out
   have HK1 : Hid (Keeps (fun k => k = x + 1 ∨ w9.heap.size ≤ k) w9 W.drew) := HK.out.trans (Keeps.below _ (Below.refl _ _).drew)
   have HE1 : Hid (W.drew.heap = W.heap) := rfl
   clear hblk HO HC HK
   generalize W.drew = W1 at *
   generalize l.getD (2 * x1.1) 0 = u0 at *
   generalize l.getD (2 * x1.1 + 1) 0 = u1 at *
   obtain ⟨i0,hi,hz0,hz1,hz2⟩ := info_parts lifeInfo
   have hs1 := HK1.out.size
   have hbytes : (pre.length + 1) * 16 ≤ 140737488355328 := by omega
   have c3 := HC1.out.cell 0
   simp only [List.getElem?_cons_zero] at c3
   have c3' : (W1.alloc (.cells #[.int .i64 u0,.int .i64 u1] 90)).cell? ⟨x + 1,0,none⟩ = some (.slice a pre.length c) := (HC1.out.alloc _).cell 0
   obtain ⟨v',W3,happ,hown,hgr,_⟩ := run_append_own (P := Tryz.prog) (w := W1.alloc (.cells #[.int .i64 u0,.int .i64 u1] 90)) w9.heap.size 33 33 90 i0 _ 2 16 Tryz.underlying33 hi hz0 hz1 hz2 rfl (by decide) (.slice a pre.length c) pre.length (lifeCells (livesOf l pre)) (World.ownsRow.alloc HO1.out _)
    ⟨W1.heap.size,0,none⟩ 1 1 [.int .i64 u0,.int .i64 u1] rfl (World.news_of_block (cs := #[.int .i64 u0,.int .i64 u1]) (t := 90) (fr := (0,0)) (heap_alloc_new W1 _)) (by simp [Value.oneCell']) (by unfold maxLen; omega) hbytes (by rw [World.size_alloc]; omega)
   obtain ⟨a',c',hv'⟩ := own_form hown
   subst hv'
   have KA : Keeps (fun j => w9.heap.size ≤ j) W1 W3 := (Keeps.alloc _ _ _).trans (Keeps.grown hgr (fun j hj => (HO1.out.lt j hj).1))
   have hlx : x + 1 < w9.heap.size := L9.out.lt
   have HB3 := HC1.out.keep KA (by omega)
   have f3 := HB3.free 0
   have b3 := HB3.cell 0
   simp only [List.getElem?_cons_zero] at b3
   have HFIN : Hid (KeepsFrom w9.heap.size W (W3.setCell ⟨x + 1,0,none⟩ (.slice a' (pre.length + 1) c')) ∧ KpC bs (bs + 1) W (W3.setCell ⟨x + 1,0,none⟩ (.slice a' (pre.length + 1) c')) ∧ PlI w9 (x + 1) l (pre ++ [x1]) (W3.setCell ⟨x + 1,0,none⟩ (.slice a' (pre.length + 1) c'))) := by
    have KF : Keeps (fun k => k = x + 1 ∨ (Value.slice a pre.length c).ownBlock = some k) W1 (W3.setCell ⟨x + 1,0,none⟩ (.slice a' (pre.length + 1) c')) := ((Keeps.alloc _ _ _).trans (Keeps.grown hgr (fun j hj => .inr hj))).trans (Keeps.setCell _ _ _ _ (.inl rfl))
    have K4 : Keeps (fun k => k = x + 1 ∨ w9.heap.size ≤ k) W1 (W3.setCell ⟨x + 1,0,none⟩ (.slice a' (pre.length + 1) c')) := (KA.mono fun j _ e => .inr e).trans (Keeps.setCell _ _ _ _ (.inl rfl))
    have hb0 := S9.out.lt
    have hb1 := B9.out.lt
    refine ⟨?_,?_,?_⟩
    ·have := keepsFrom_cells (B := w9.heap.size) KF (fun k o hS hk => by
      rcases hS with rfl | hS
      ·have h2 : W1.heap[x + 1]? = _ := HC1.out
       rw [h2] at hk
       injection hk with hk
       subst hk
       rfl
      ·rcases HO1.out.2 with ⟨e,_⟩ | ⟨g',cap,cur,e,_,hg',_⟩
       ·injection e with e1; subst e1; simp [Value.ownBlock] at hS
       ·injection e with e1; subst e1
        simp only [Value.ownBlock,Option.some.injEq] at hS
        subst hS
        rw [hg'] at hk
        injection hk with hk
        subst hk
        rfl)
     exact ⟨by rw [← HE1.out]; exact this.size,fun k o hB hk ho => this.same k o hB (by rw [HE1.out]; exact hk) ho⟩
    ·refine ⟨?_,?_⟩
     ·rw [← HE1.out]; exact K4.block bs (by omega) (fun e => e.elim (by omega) (by omega))
     ·rw [← HE1.out]; exact K4.block (bs + 1) (by omega) (fun e => e.elim (by omega) (by omega))
    ·have hcl4 : Cl (W3.setCell ⟨x + 1,0,none⟩ (.slice a' (pre.length + 1) c')) (x + 1) [.slice a' (pre.length + 1) c'] 33 := by
      have := HB3.set 0 (.slice a' (pre.length + 1) c')
      exact this
     refine ⟨a',c',?_,?_,HK1.out.trans K4⟩
     ·rw [livesOf,List.map_append,List.map_singleton,HU.out,lifeCells_app,List.length_append]
      exact ownsRow_keeps (j := x + 1) hown (Keeps.setCell _ _ _ _ rfl) (by omega)
     ·rw [List.length_append]; exact hcl4
   refine wpAnyIn_take (i := 1) (v := ?_) rfl rfl (by kernel_rfl) (by kernel_rfl) (by kernel_rfl) (fun _ _ _ h => h) ⟨Or.inl ⟨by rfl,?_⟩,fun _ => rfl⟩ ?_
   rotate_left
   ·intro w; go_simp <;> rfl
   refine wpAnyIn_take (i := 2) (v := ?_) rfl rfl (by kernel_rfl) (by kernel_rfl) (by kernel_rfl) (fun _ _ _ h => h) ⟨Or.inl ⟨by rfl,?_⟩,fun _ => rfl⟩ ?_
   rotate_left
   ·intro w; go_simp <;> rfl
   refine wpAnyIn_take (i := 4) (v := ?_) rfl rfl (by kernel_rfl) (by kernel_rfl) (by kernel_rfl) (fun _ _ _ h => h) ⟨Or.inl ⟨by rfl,?_⟩,fun _ => rfl⟩ ?_
   rotate_left
   ·intro w; go_simp <;> rfl
   refine wpAnyIn_take (i := 5) (v := ?_) rfl rfl (by kernel_rfl) (by kernel_rfl) (by kernel_rfl) (fun _ _ _ h => h) ⟨Or.inl ⟨by rfl,?_⟩,fun _ => rfl⟩ ?_
   rotate_left
   ·intro w; go_simp <;> rfl
   refine wpAnyIn_ready (rs := [0,3,6]) (by kernel_rfl) (by simp) ?_
   refine AllReadyIn.cons rfl (fun K hK => ?_) ?_
   ·go_simp
    refine hK _ _ ?_
    clear hK K
    refine wpAnyIn_ready (rs := [3,6]) (by kernel_rfl) (by simp) ?_
    refine AllReadyIn.cons rfl (fun K hK => ?_) ?_
    ·go_simp
     refine hK _ _ ?_
     clear hK K
     refine wpAnyIn_ready (rs := [6]) (by kernel_rfl) (by simp) ?_
     refine AllReadyIn.cons rfl (fun K hK => ?_) ?_
     ·go_simp
      refine hK _ _ ?_
      clear hK K
      refine wpAnyIn_take (i := 7) (v := ?_) rfl rfl (by kernel_rfl) (by kernel_rfl) (by kernel_rfl) (fun _ _ _ h => h) ⟨Or.inl ⟨by rfl,?_⟩,fun _ => rfl⟩ ?_
      rotate_left
      ·intro w; go_simp <;> rfl
      refine wpAnyIn_ready (rs := [8]) (by kernel_rfl) (by simp) ?_
      refine AllReadyIn.cons rfl (fun K hK => ?_) ?_
      ·go_simp
       refine hK _ _ ?_
       clear hK K
       refine wpAnyIn_ready (rs := [9]) (by kernel_rfl) (by simp) ?_
       refine AllReadyIn.cons rfl (fun K hK => ?_) ?_
       ·rw [if_pos (by rfl)]
        refine opIn_append _ _ _ _ rfl _ _ happ (hK _ _ ?_)
        clear hK K
        refine wpAnyIn_ready (rs := [10]) (by kernel_rfl) (by simp) ?_
        refine AllReadyIn.cons rfl (fun K hK => ?_) ?_
        ·go_simp
         refine hK _ _ ?_
         clear hK K
         refine wpAnyIn_done (by kernel_rfl) ?_ _
         exact HFIN.out
        exact AllReadyIn.nil
       exact AllReadyIn.nil
      exact AllReadyIn.nil
     exact AllReadyIn.nil
    refine AllReadyIn.cons rfl (fun K hK => ?_) ?_
    ·go_simp
     refine hK _ _ ?_
     clear hK K
     refine wpAnyIn_ready (rs := [3]) (by kernel_rfl) (by simp) ?_
     refine AllReadyIn.cons rfl (fun K hK => ?_) ?_
     ·go_simp
      refine hK _ _ ?_
      clear hK K
      refine wpAnyIn_take (i := 7) (v := ?_) rfl rfl (by kernel_rfl) (by kernel_rfl) (by kernel_rfl) (fun _ _ _ h => h) ⟨Or.inl ⟨by rfl,?_⟩,fun _ => rfl⟩ ?_
      rotate_left
      ·intro w; go_simp <;> rfl
      refine wpAnyIn_ready (rs := [8]) (by kernel_rfl) (by simp) ?_
      refine AllReadyIn.cons rfl (fun K hK => ?_) ?_
      ·go_simp
       refine hK _ _ ?_
       clear hK K
       refine wpAnyIn_ready (rs := [9]) (by kernel_rfl) (by simp) ?_
       refine AllReadyIn.cons rfl (fun K hK => ?_) ?_
       ·rw [if_pos (by rfl)]
        refine opIn_append _ _ _ _ rfl _ _ happ (hK _ _ ?_)
        clear hK K
        refine wpAnyIn_ready (rs := [10]) (by kernel_rfl) (by simp) ?_
        refine AllReadyIn.cons rfl (fun K hK => ?_) ?_
        ·go_simp
         refine hK _ _ ?_
         clear hK K
         refine wpAnyIn_done (by kernel_rfl) ?_ _
         exact HFIN.out
        exact AllReadyIn.nil
       exact AllReadyIn.nil
      exact AllReadyIn.nil
     exact AllReadyIn.nil
    exact AllReadyIn.nil
   refine AllReadyIn.cons rfl (fun K hK => ?_) ?_
   ·go_simp
    refine hK _ _ ?_
    clear hK K
    refine wpAnyIn_ready (rs := [0,6]) (by kernel_rfl) (by simp) ?_
    refine AllReadyIn.cons rfl (fun K hK => ?_) ?_
    ·go_simp
     refine hK _ _ ?_
     clear hK K
     refine wpAnyIn_ready (rs := [6]) (by kernel_rfl) (by simp) ?_
     refine AllReadyIn.cons rfl (fun K hK => ?_) ?_
     ·go_simp
      refine hK _ _ ?_
      clear hK K
      refine wpAnyIn_take (i := 7) (v := ?_) rfl rfl (by kernel_rfl) (by kernel_rfl) (by kernel_rfl) (fun _ _ _ h => h) ⟨Or.inl ⟨by rfl,?_⟩,fun _ => rfl⟩ ?_
      rotate_left
      ·intro w; go_simp <;> rfl
      refine wpAnyIn_ready (rs := [8]) (by kernel_rfl) (by simp) ?_
      refine AllReadyIn.cons rfl (fun K hK => ?_) ?_
      ·go_simp
       refine hK _ _ ?_
       clear hK K
       refine wpAnyIn_ready (rs := [9]) (by kernel_rfl) (by simp) ?_
       refine AllReadyIn.cons rfl (fun K hK => ?_) ?_
       ·rw [if_pos (by rfl)]
        refine opIn_append _ _ _ _ rfl _ _ happ (hK _ _ ?_)
        clear hK K
        refine wpAnyIn_ready (rs := [10]) (by kernel_rfl) (by simp) ?_
        refine AllReadyIn.cons rfl (fun K hK => ?_) ?_
        ·go_simp
         refine hK _ _ ?_
         clear hK K
         refine wpAnyIn_done (by kernel_rfl) ?_ _
         exact HFIN.out
        exact AllReadyIn.nil
       exact AllReadyIn.nil
      exact AllReadyIn.nil
     exact AllReadyIn.nil
    refine AllReadyIn.cons rfl (fun K hK => ?_) ?_
    ·go_simp
     refine hK _ _ ?_
     clear hK K
     refine wpAnyIn_take (i := 7) (v := ?_) rfl rfl (by kernel_rfl) (by kernel_rfl) (by kernel_rfl) (fun _ _ _ h => h) ⟨Or.inl ⟨by rfl,?_⟩,fun _ => rfl⟩ ?_
     rotate_left
     ·intro w; go_simp <;> rfl
     refine wpAnyIn_ready (rs := [0,8]) (by kernel_rfl) (by simp) ?_
     refine AllReadyIn.cons rfl (fun K hK => ?_) ?_
     ·go_simp
      refine hK _ _ ?_
      clear hK K
      refine wpAnyIn_ready (rs := [8]) (by kernel_rfl) (by simp) ?_
      refine AllReadyIn.cons rfl (fun K hK => ?_) ?_
      ·go_simp
       refine hK _ _ ?_
       clear hK K
       refine wpAnyIn_ready (rs := [9]) (by kernel_rfl) (by simp) ?_
       refine AllReadyIn.cons rfl (fun K hK => ?_) ?_
       ·rw [if_pos (by rfl)]
        refine opIn_append _ _ _ _ rfl _ _ happ (hK _ _ ?_)
        clear hK K
        refine wpAnyIn_ready (rs := [10]) (by kernel_rfl) (by simp) ?_
        refine AllReadyIn.cons rfl (fun K hK => ?_) ?_
        ·go_simp
         refine hK _ _ ?_
         clear hK K
         refine wpAnyIn_done (by kernel_rfl) ?_ _
         exact HFIN.out
        exact AllReadyIn.nil
       exact AllReadyIn.nil
      exact AllReadyIn.nil
     refine AllReadyIn.cons rfl (fun K hK => ?_) ?_
     ·go_simp
      refine hK _ _ ?_
      clear hK K
      refine wpAnyIn_ready (rs := [0]) (by kernel_rfl) (by simp) ?_
      refine AllReadyIn.cons rfl (fun K hK => ?_) ?_
      ·go_simp
       refine hK _ _ ?_
       clear hK K
       refine wpAnyIn_ready (rs := [9]) (by kernel_rfl) (by simp) ?_
       refine AllReadyIn.cons rfl (fun K hK => ?_) ?_
       ·rw [if_pos (by rfl)]
        refine opIn_append _ _ _ _ rfl _ _ happ (hK _ _ ?_)
        clear hK K
        refine wpAnyIn_ready (rs := [10]) (by kernel_rfl) (by simp) ?_
        refine AllReadyIn.cons rfl (fun K hK => ?_) ?_
        ·go_simp
         refine hK _ _ ?_
         clear hK K
         refine wpAnyIn_done (by kernel_rfl) ?_ _
         exact HFIN.out
        exact AllReadyIn.nil
       exact AllReadyIn.nil
      exact AllReadyIn.nil
     exact AllReadyIn.nil
    exact AllReadyIn.nil
   refine AllReadyIn.cons rfl (fun K hK => ?_) ?_
   ·go_simp
    refine hK _ _ ?_
    clear hK K
    refine wpAnyIn_ready (rs := [0,3]) (by kernel_rfl) (by simp) ?_
    refine AllReadyIn.cons rfl (fun K hK => ?_) ?_
    ·go_simp
     refine hK _ _ ?_
     clear hK K
     refine wpAnyIn_ready (rs := [3]) (by kernel_rfl) (by simp) ?_
     refine AllReadyIn.cons rfl (fun K hK => ?_) ?_
     ·go_simp
      refine hK _ _ ?_
      clear hK K
      refine wpAnyIn_take (i := 7) (v := ?_) rfl rfl (by kernel_rfl) (by kernel_rfl) (by kernel_rfl) (fun _ _ _ h => h) ⟨Or.inl ⟨by rfl,?_⟩,fun _ => rfl⟩ ?_
      rotate_left
      ·intro w; go_simp <;> rfl
      refine wpAnyIn_ready (rs := [8]) (by kernel_rfl) (by simp) ?_
      refine AllReadyIn.cons rfl (fun K hK => ?_) ?_
      ·go_simp
       refine hK _ _ ?_
       clear hK K
       refine wpAnyIn_ready (rs := [9]) (by kernel_rfl) (by simp) ?_
       refine AllReadyIn.cons rfl (fun K hK => ?_) ?_
       ·rw [if_pos (by rfl)]
        refine opIn_append _ _ _ _ rfl _ _ happ (hK _ _ ?_)
        clear hK K
        refine wpAnyIn_ready (rs := [10]) (by kernel_rfl) (by simp) ?_
        refine AllReadyIn.cons rfl (fun K hK => ?_) ?_
        ·go_simp
         refine hK _ _ ?_
         clear hK K
         refine wpAnyIn_done (by kernel_rfl) ?_ _
         exact HFIN.out
        exact AllReadyIn.nil
       exact AllReadyIn.nil
      exact AllReadyIn.nil
     exact AllReadyIn.nil
    refine AllReadyIn.cons rfl (fun K hK => ?_) ?_
    ·go_simp
     refine hK _ _ ?_
     clear hK K
     refine wpAnyIn_take (i := 7) (v := ?_) rfl rfl (by kernel_rfl) (by kernel_rfl) (by kernel_rfl) (fun _ _ _ h => h) ⟨Or.inl ⟨by rfl,?_⟩,fun _ => rfl⟩ ?_
     rotate_left
     ·intro w; go_simp <;> rfl
     refine wpAnyIn_ready (rs := [0,8]) (by kernel_rfl) (by simp) ?_
     refine AllReadyIn.cons rfl (fun K hK => ?_) ?_
     ·go_simp
      refine hK _ _ ?_
      clear hK K
      refine wpAnyIn_ready (rs := [8]) (by kernel_rfl) (by simp) ?_
      refine AllReadyIn.cons rfl (fun K hK => ?_) ?_
      ·go_simp
       refine hK _ _ ?_
       clear hK K
       refine wpAnyIn_ready (rs := [9]) (by kernel_rfl) (by simp) ?_
       refine AllReadyIn.cons rfl (fun K hK => ?_) ?_
       ·rw [if_pos (by rfl)]
        refine opIn_append _ _ _ _ rfl _ _ happ (hK _ _ ?_)
        clear hK K
        refine wpAnyIn_ready (rs := [10]) (by kernel_rfl) (by simp) ?_
        refine AllReadyIn.cons rfl (fun K hK => ?_) ?_
        ·go_simp
         refine hK _ _ ?_
         clear hK K
         refine wpAnyIn_done (by kernel_rfl) ?_ _
         exact HFIN.out
        exact AllReadyIn.nil
       exact AllReadyIn.nil
      exact AllReadyIn.nil
     refine AllReadyIn.cons rfl (fun K hK => ?_) ?_
     ·go_simp
      refine hK _ _ ?_
      clear hK K
      refine wpAnyIn_ready (rs := [0]) (by kernel_rfl) (by simp) ?_
      refine AllReadyIn.cons rfl (fun K hK => ?_) ?_
      ·go_simp
       refine hK _ _ ?_
       clear hK K
       refine wpAnyIn_ready (rs := [9]) (by kernel_rfl) (by simp) ?_
       refine AllReadyIn.cons rfl (fun K hK => ?_) ?_
       ·rw [if_pos (by rfl)]
        refine opIn_append _ _ _ _ rfl _ _ happ (hK _ _ ?_)
        clear hK K
        refine wpAnyIn_ready (rs := [10]) (by kernel_rfl) (by simp) ?_
        refine AllReadyIn.cons rfl (fun K hK => ?_) ?_
        ·go_simp
         refine hK _ _ ?_
         clear hK K
         refine wpAnyIn_done (by kernel_rfl) ?_ _
         exact HFIN.out
        exact AllReadyIn.nil
       exact AllReadyIn.nil
      exact AllReadyIn.nil
     exact AllReadyIn.nil
    exact AllReadyIn.nil
   exact AllReadyIn.nil
  case done =>
   rintro D xs W hD hxs ⟨a,c,ho,hcl,hk⟩ hKD
   have hxl' : xs.length = m := by have := congrArg List.length hxs; simpa using this
   have HLV : Hid (livesOf l xs = Wi.pairs l) := by
    rw [Hid,pairs_at m l hm,← hxs,List.map_map]; rfl
   have hx9 := X9.out.2.1.lt
   have hx19 : x + 1 < w9.heap.size := L9.out.lt
   have hp9 : p < w9.heap.size := by omega
   have HXP : Hid (Cl W x [.int .i64 n0,.slice ac ch.length cc,.int .i64 n2] 32) := X9.out.2.1.keep hk (fun e => e.elim hbx (fun e => by omega))
   have HRD : Hid (Rd W p qz) := X9.out.1.keep hk (fun e => e.elim (fun e => hbp e.symm) (fun e => by omega))
   have HKP : Hid (Kp w p W) := Keeps.trans X9.out.2.2.2.2 (hk.mono fun j _ e => .inr (by have := HX.out; have := X9.out.2.2.2.2.size; rcases e with e | e <;> omega))
   have HOC : Hid (W.ownsRow w3.heap.size 3 1 (.slice ac ch.length cc) ch.length (iv ch)) := O9.out.kept (row := some (x + 1)) ⟨hk.os,hk.tape,hk.output,hk.size,fun i hi hne => hk.block i hi (fun e => e.elim (fun e => hne (by rw [e])) (fun e => by omega))⟩ (by
    rcases hv : (Value.slice ac ch.length cc).ownBlock with _ | g
    ·exact .inl rfl
    ·right
     intro e
     have := (O9.out.lt g hv).1
     injection e with e
     omega)
   have HOL := hq' ho
   have HCL := hq' hcl
   have HKD := hq' hKD
   have hws := hk.size
   clear ho hcl hk hKD
   dsimp only
   have c0 := HXP.out.cell 0
   have c1 := HXP.out.cell 1
   have c2 := HXP.out.cell 2
   have f0 := HXP.out.free 0
   have f1 := HXP.out.free 1
   have f2 := HXP.out.free 2
   have l0 := HCL.out.cell 0
   have lf := HCL.out.free 0
   simp only [g0',gs'] at c0 c1 c2 l0
   have XT : Hid (Cl (((((W.setCell ⟨x,0,none⟩ (.int .i64 n0)).setCell ⟨x,1,none⟩ (.slice ac ch.length cc)).setCell ⟨x,2,none⟩ (.int .i64 n2)).setCell ⟨x + 1,0,none⟩ (.slice a xs.length c)).drew) x [.int .i64 n0,.slice ac ch.length cc,.int .i64 n2] 32) := by
    have h1 : Cl (((W.setCell ⟨x,0,none⟩ (.int .i64 n0)).setCell ⟨x,1,none⟩ (.slice ac ch.length cc)).setCell ⟨x,2,none⟩ (.int .i64 n2)) x [.int .i64 n0,.slice ac ch.length cc,.int .i64 n2] 32 := ((HXP.out.set 0 (.int .i64 n0)).set 1 (.slice ac ch.length cc)).set 2 (.int .i64 n2)
    exact (Cl.other h1 ⟨x + 1,0,none⟩ (.slice a xs.length c) hbx.symm)
   have LT : Hid (Cl (((((W.setCell ⟨x,0,none⟩ (.int .i64 n0)).setCell ⟨x,1,none⟩ (.slice ac ch.length cc)).setCell ⟨x,2,none⟩ (.int .i64 n2)).setCell ⟨x + 1,0,none⟩ (.slice a xs.length c)).drew) (x + 1) [.slice a xs.length c] 33) := by
    have h1 := ((HCL.out.other ⟨x,0,none⟩ (.int .i64 n0) hbx).other ⟨x,1,none⟩ (.slice ac ch.length cc) hbx).other ⟨x,2,none⟩ (.int .i64 n2) hbx
    exact h1.set 0 (.slice a xs.length c)
   have KT : Hid (Keeps (fun k => k = x ∨ k = x + 1) W (((((W.setCell ⟨x,0,none⟩ (.int .i64 n0)).setCell ⟨x,1,none⟩ (.slice ac ch.length cc)).setCell ⟨x,2,none⟩ (.int .i64 n2)).setCell ⟨x + 1,0,none⟩ (.slice a xs.length c)).drew)) :=
    ((((Keeps.setCell (fun k => k = x ∨ k = x + 1) _ ⟨x,0,none⟩ _ (.inl rfl)).trans (Keeps.setCell _ _ ⟨x,1,none⟩ _ (.inl rfl))).trans (Keeps.setCell _ _ ⟨x,2,none⟩ _ (.inl rfl))).trans (Keeps.setCell _ _ ⟨x + 1,0,none⟩ _ (.inr rfl))).trans (Keeps.below _ (Below.refl _ _).drew)
   go_wp2_with fail
   go_region
   try rw [← hxl']
   generalize ((((W.setCell ⟨x,0,none⟩ (.int .i64 n0)).setCell ⟨x,1,none⟩ (.slice ac ch.length cc)).setCell ⟨x,2,none⟩ (.int .i64 n2)).setCell ⟨x + 1,0,none⟩ (.slice a xs.length c)).drew = T at *
   go_wp2_with fail
   have hx9p := X9.out.2.2.1
   have RT := HRD.out.keep KT.out (fun e => e.elim (fun e => hx9p e.symm) (fun e => hbp e.symm))
   have OT := ownsRow_keepsS HOC.out KT.out (fun j hj e => by have := (HOC.out.lt j hj).1; omega)
   have OL := ownsRow_keepsS HOL.out KT.out (fun j hj e => by have := (HOL.out.lt j hj).1; omega)
   have hwx : w.heap.size ≤ x := by have := HX.out; omega
   have KPT : Kp w p T := Keeps.trans HKP.out (KT.out.mono fun j _ e => .inr (by omega))
   have hK' : T.heap[D]? = some (.deferred (some [])) := (KT.out.block D (Array.getElem?_eq_some_iff.1 HKD.out).1 (fun e => by omega)).trans HKD.out
   have hg6 := grownBy_putObj' T D (.deferred none)
   have hr6 : ∀ r,some D = some r → ∃ o : Obj,T.heap[r]? = some o ∧ o.isCells = false := fun r e => by cases e; exact ⟨_,hK',rfl⟩
   have hpD : p ≠ D := by omega
   refine ⟨by simp,.inl ⟨_,_,rfl,run_takeDeferred hK',?_⟩⟩
   refine ⟨_,results_place _ _ _ _ _ _ _ rfl (cl_round XT.out hg6 hr6) (by kernel_rfl) rfl (cl_round LT.out hg6 hr6),.slice ac ch.length cc,.slice a xs.length c,?_,?_,?_,?_,?_⟩
   ·rw [HS.out,HEV.out]; rfl
   ·rw [HS.out]; exact ownsRow_weaken (own_round OT hg6 hr6) (by omega)
   ·rw [HS.out,HEV.out]
    have h9 := own_round OL hg6 hr6
    rw [HLV.out] at h9
    have hpl9 : (Wi.pairs l).length = xs.length := by rw [← HLV.out]; simp [livesOf]
    rw [show (if (true : Bool) = true then Wi.pairs l else []) = Wi.pairs l from rfl,hpl9]
    exact ownsRow_weaken h9 (by omega)
   ·rw [HS.out]; exact (hg6.block p RT.lt (fun e => hpD (by injection e with e))).trans RT
   ·exact Keeps.trans KPT ⟨hg6.os,hg6.tape,hg6.output,hg6.size,fun k hk hn => hg6.block k hk (fun e => hn (.inr (by injection e with e; omega)))⟩
 ·have hevb : ((l.length : Int) % 2 != 0) = true := by simp; omega
  rw [decide_eq_false hev] at hev2
  have X9 : Hid (Rx w p x (((w8.setCell ⟨x,0,none⟩ (.int .i64 n0)).setCell ⟨x,1,none⟩ (.slice ac ch.length cc)).setCell ⟨x,2,none⟩ (.int .i64 n2)) qz [.int .i64 n0,.slice ac ch.length cc,.int .i64 n2] 32) := ((X8.out.store 0 (.int .i64 n0)).store 1 (.slice ac ch.length cc)).store 2 (.int .i64 n2)
  have KR : Hid (Keeps (fun i => i = x) w8 (((w8.setCell ⟨x,0,none⟩ (.int .i64 n0)).setCell ⟨x,1,none⟩ (.slice ac ch.length cc)).setCell ⟨x,2,none⟩ (.int .i64 n2))) := ((Keeps.setCell (fun i => i = x) _ ⟨x,0,none⟩ _ rfl).trans (Keeps.setCell (fun i => i = x) _ ⟨x,1,none⟩ _ rfl)).trans (Keeps.setCell (fun i => i = x) _ ⟨x,2,none⟩ _ rfl)
  have O9 := hq' (ownsRow_keeps (j := x) O8.out KR.out (by omega))
  have L9 := hq' (L8.out.keep KR.out hbx.symm)
  go_wp2_with fail
  generalize ((w8.setCell ⟨x,0,none⟩ (.int .i64 n0)).setCell ⟨x,1,none⟩ (.slice ac ch.length cc)).setCell ⟨x,2,none⟩ (.int .i64 n2) = w9 at *
  have LA : Hid (Cl (w9.setCell ⟨x + 1,0,none⟩ (.slice none 0 0)) (x + 1) [.slice none 0 0] 33) := by
   have := L9.out.set 0 (.slice none 0 0)
   exact this
  have KA : Hid (Keeps (fun i => i = x + 1) w9 (w9.setCell ⟨x + 1,0,none⟩ (.slice none 0 0))) := Keeps.setCell _ _ _ _ rfl
  have XC := hq' (Cl.keep X9.out.2.1 KA.out hbx)
  have OA := hq' (ownsRow_keeps (j := x + 1) O9.out KA.out (by omega))
  have RA := hq' (X9.out.1.keep KA.out (fun e => hbp e.symm))
  have PA : Hid (Kp w p (w9.setCell ⟨x + 1,0,none⟩ (.slice none 0 0))) := Keeps.trans X9.out.2.2.2.2 (KA.out.mono fun j _ e => .inr (by have := HX.out; omega))
  refine ⟨_,results_place _ _ _ _ _ _ _ rfl XC.out (by kernel_rfl) rfl LA.out,.slice ac ch.length cc,.slice none 0 0,?_,?_,?_,?_,PA.out⟩
  ·rw [HS.out,hev2]; rfl
  ·rw [HS.out]; exact ownsRow_weaken OA.out (by have := HX.out; omega)
  ·rw [HS.out,hev2]; exact ⟨rfl,.inl ⟨rfl,rfl⟩⟩
  ·rw [HS.out]; exact RA.out
end Go.Proofs.YtbljbdjmgogknaaGreatDoor
