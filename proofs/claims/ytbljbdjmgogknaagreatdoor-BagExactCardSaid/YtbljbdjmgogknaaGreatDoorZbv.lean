/-
  Gm / Hf / Hg / Gl: texts of one proof, one behind the other.
  Conditions: none of its own.
-/
import Derived.Test.YtbljbdjmgogknaaGreatDoorZbu
set_option linter.unusedVariables false
set_option linter.unusedSimpArgs false
set_option maxHeartbeats 4000000
namespace Go.Proofs.YtbljbdjmgogknaaGreatDoor
open Go.RowKit Go.Shelf
theorem run_equalIn_func_nil {P : Program} (w : World) (d : Nat) (t : TypeId) (ps rs : Array TypeId) (vr : Bool) (f : Fn) (a b : Array Value) (h : P.underlying t = some (.func ps rs vr)) :
  (Op.equalIn (d + 1) t (.func f a b) .nilFunc).run P w = .ok false w := by
 simp [Op.equalIn,run_underlying h]
theorem run_eql_func_nil {P : Program} (w : World) (t : TypeId) (ps rs : Array TypeId) (vr : Bool) (f : Fn) (a b : Array Value) (h : P.underlying t = some (.func ps rs vr)) :
  (binOp .eql t (.func f a b) .nilFunc).run P w = .ok (.bool false) w := by
 simp only [binOp]
 simp [Op.equal,Op.maxDepth,run_equalIn_func_nil w 9999 t ps rs vr f a b h]
theorem eq_nilFunc (f : Fn) (a b : Array Value) (w : World) : (binOp .eql 56 (.func f a b) .nilFunc).run Tryz.prog w = .ok (.bool false) w := by
 have h : (match Tryz.prog.underlying 56 with | some (.func _ _ _) => true | _ => false) = true := by kernel_rfl
 cases hu : Tryz.prog.underlying 56 with
 | none => rw [hu] at h; cases h
 | some d =>
  rw [hu] at h
  cases d <;> first | (cases h; done) | exact run_eql_func_nil w _ _ _ _ f a b hu
def updA (t : Array Value) (l : List (Nat × Value)) : Array Value := l.foldl (fun t p => t.setIfInBounds p.1 p.2) t
theorem cl_own {g : Nat} {cs : List Value} {t : TypeId} (B : Nat) : OwnFrom B (fun (_ : Unit) W => Cl W g cs t) := fun _ X Y row hs hg hr => by
 refine hs.grown hg (fun e => ?_)
 obtain ⟨_,o,ho,hc⟩ := hr g e.symm
 have hs' : X.heap[g]? = _ := hs
 rw [hs'] at ho
 injection ho with ho
 subst ho
 cases hc
def noDefer (o : Oper) : Bool := match o.op with | .defer _ => false | _ => true
theorem Oper.wpIn_of_quiet {lp n : Nat} {P : Program} {C : World → Prop} {o : Oper} {a : Act} {K : Act → Prop} {K' : Act → World → Prop} {Q' : Exit → Act → World → Prop} {w : World} (hd : noDefer o = true) (hw : C w) (h : ∀ a w',C w' → K a → K' a w')
  (hh : o.quiet P a C K) : o.wpIn (Fence.wide.inRound lp) n P a w K' Q' := by
 obtain ⟨v,h1,h2⟩ := hh
 have h3 := h1 w hw
 unfold Oper.wpIn
 refine ⟨fun _ _ => trivial,?_⟩
 rw [Fence.inRound_round,Oper.semAt_some lp _ _ (fun c hc => by unfold noDefer at hd; rw [hc] at hd; cases hd)]
 unfold Oper.quietAt at h3
 generalize (execOp a.eval o).run P w = r at *
 cases r with
 | ok x w' =>
  cases x <;> simp only [Oper.quietUpon] at h3 <;> simp only [Oper.uponIn]
  case value u => rw [h3.1,h3.2]; exact h _ _ hw h2
  case skip => rw [h3.1]; rw [← h3.2]; exact h _ _ hw h2
  case enter f args =>
   obtain ⟨rfl,hc⟩ := h3
   exact ⟨fun hs => (by cases hs),(CallsIn.inRound lp (callsIn_wide.2 hc)).mono fun e w'' ⟨he,hc2⟩ => by subst he; exact h _ _ hc2 h2⟩
 | halt x w' => simp only [Oper.quietUpon] at h3
theorem wpOpIn_of_qOp {lp n : Nat} {P : Program} {C : World → Prop} {ops : Array Oper} {i : Nat} {a : Act} {K : Act → Prop} {K' : Act → World → Prop} {Q' : Exit → Act → World → Prop} {w : World} (hd : ∀ o ∈ ops,noDefer o = true) (hC : C w) (h : ∀ a w',C w' → K a → K' a w')
  (hh : qOp P ops C i K a) : wpOpIn (Fence.wide.inRound lp) n P ops Q' i K' a w := by
 unfold qOp at hh
 unfold wpOpIn
 split
 ·rename_i ho; simp only [ho] at hh; exact h _ _ hC hh
 ·rename_i o ho
  simp only [ho] at hh
  split
  ·rename_i hw; simp only [hw,if_true] at hh; exact Oper.wpIn_of_quiet (hd o (Array.mem_of_getElem? ho)) hC h hh
  ·rename_i hw; simp only [hw] at hh; exact ⟨fun _ _ => trivial,h _ _ hC hh⟩
theorem wpAnyIn_of_quiet {lp n : Nat} {P : Program} {C : World → Prop} {ops : Array Oper} {md : Region.Mode} {Q : Act → Prop} {Q' : Exit → Act → World → Prop} (hd : ∀ o ∈ ops,noDefer o = true) (hQ : ∀ a w,C w → Q a → Q' .normal a w) : ∀ (fuel : Nat) (listed : Array Bool) (a : Act) (w : World),C w →
  wpAnyQ P md ops C Q fuel listed a → wpAnyIn (Fence.wide.inRound lp) n P md ops Q' fuel listed a w
 | 0,_,_,_,hw,h => ⟨h.1,hQ _ _ hw h.2⟩
 | fuel + 1,_,_,_,hw,h => ⟨fun h0 => hQ _ _ hw (h.1 h0),fun i hi => wpOpIn_of_qOp hd hw (fun a' w' hw' => wpAnyIn_of_quiet hd hQ fuel _ a' w' hw') (h.2 i hi)⟩
theorem wpIn_round_below {lp n : Nat} {P : Program} {id : Nat} {Q : Exit → Act → World → Prop} {a : Act} {w : World} {l : List Oper} (hm : P.follows .mixedOrders = true) (hB : Region.lexB .any l.toArray = true) (hd : l.all noDefer = true)
  (h : wpQuiet P l.toArray (fun W => ∃ b : BelowOf w,W = b.1) (fun a' => ∀ w',(∃ b : BelowOf w,w' = b.1) → Q .normal a' w') l a) : (Code.region id l.toArray true).wpIn (Fence.wide.inRound lp) n P Q a w := by
 simp only [Region.lexB,Bool.and_eq_true] at hB
 refine wpIn_region_any hm (wpAnyIn_of_quiet (C := fun W => ∃ b : BelowOf w,W = b.1) (Q := fun a' => ∀ w',(∃ b : BelowOf w,w' = b.1) → Q .normal a' w') (fun o ho => List.all_eq_true.1 hd o (by simpa using ho)) (fun _ w' hw' h => h w' hw') _ _ _ _ ⟨⟨w.drew,(Below.refl _ _).drew⟩,rfl⟩ ?_)
 have := wpAnyQ_lex (P := P) (C := fun W => ∃ b : BelowOf w,W = b.1) (md := .any) hB.1 l.toArray.toList 0 (Array.replicate l.toArray.size false) a (by simp) (by simpa using hB.2) (by simpa using h)
 simpa using this
theorem keepsFrom_below {B : Nat} {w w' : World} (h : Below w.heap.size w w') : KeepsFrom B w w' := ⟨h.size,fun k o _ hk _ => (h.block k (Array.getElem?_eq_some_iff.1 hk).1).trans hk⟩
theorem KpA.below {n₁ n₀ : Nat} {w w' : World} (h : Below w.heap.size w w') (hn : n₁ ≤ w.heap.size) : KpA n₁ n₀ w w' := ⟨h.mono hn,h.size,fun g o _ hg _ => (h.block g (Array.getElem?_eq_some_iff.1 hg).1).trans hg⟩
open Go.RowKit Go.Shelf
section
variable {α : Type} {F : Fence} {n : Nat} {P : Program}
def SeqD (D : Nat → List α → α → World → Prop) (F : Fence) (n : Nat) (P : Program) (g : Nat) (lb : Array Value) (encs : α → Array Value) (Kp : World → World → Prop) (S Sp : List α → Prop) (N : Nat) (w : World) : Prop :=
 ∀ (l : Nat) (J Jx : List α → World → Prop) (W : World),Below w.heap.size w W → AbidesFrom W.heap.size J → AbidesFrom W.heap.size Jx →
  (∀ pre x V,J pre V → D W.heap.size pre x V → pre.length < N → YieldAt F (n - 1) P l (encs x) V fun e V' => (e = .returned (.bool true) ∧ J (pre ++ [x]) V' ∧ Kp V V') ∨ (e = .returned (.bool false) ∧ Jx (pre ++ [x]) V')) →
  J [] W → CallsIn F n P g (#[.func (.yield l) #[] #[]] ++ lb) W fun e V => (∃ v,e = .returned v) ∧ ((∃ xs,S xs ∧ J xs V) ∨ (∃ pre,Sp pre ∧ Jx pre V))
def LpR (k : Nat) (r : Loop) (W : World) : Prop := W.heap[k + 1]? = some (.loop r) ∧ W.heap[k]? = some (.deferred (some []))
theorem LpR.lt {k : Nat} {r : Loop} {W : World} (h : LpR k r W) : k + 1 < W.heap.size := (Array.getElem?_eq_some_iff.1 h.1).1
theorem LpR.put {k : Nat} {r r' : Loop} {W : World} (h : LpR k r W) : LpR k r' (W.putObj (k + 1) (.loop r')) := ⟨World.putObj_heap_same h.lt,(World.putObj_heap_other (by omega)).trans h.2⟩
theorem LpR.from {k : Nat} {r : Loop} {W V : World} (h : LpR k r W) (hk : KeepsFrom k W V) : LpR k r V := ⟨hk.same _ _ (by omega) h.1 rfl,hk.same _ _ (Nat.le_refl _) h.2 rfl⟩
theorem LpR.grown {k : Nat} {r : Loop} {W V : World} {row : Option Nat} (h : LpR k r W) (hg : W.grownBy V row) (hr : ∀ j,row = some j → ∃ o : Obj,W.heap[j]? = some o ∧ o.isWalk = true) : LpR k r V :=
 ⟨(grownBy_keeps hg hr h.1 rfl).trans h.1,(grownBy_keeps hg hr h.2 rfl).trans h.2⟩
theorem own_walk {β : Type} {B : Nat} {I : β → World → Prop} (h : OwnFrom B I) {s : β} {A C : World} {row : Option Nat} {B' : Nat} (hs : I s A) (hg : A.grownBy C row) (hB : B ≤ B') (hr : ∀ j,row = some j → B' ≤ j ∧ ∃ o : Obj,A.heap[j]? = some o ∧ o.isWalk = true) : I s C :=
 h s A C row hs hg (fun j e => by
  obtain ⟨h1,o,h2,h3⟩ := hr j e
  exact ⟨Nat.le_trans hB h1,o,h2,Obj.not_cells_of_walk h3⟩)
theorem rangeD {w w0 : World} {g : Operand} {ps : Array Tmp} {assign body : Code} {Q : Exit → Act → World → Prop} {a : Act} {D : Nat → List α → α → World → Prop}
  (hro : F.round = none) (h1 : 1 ≤ n) {gf : Nat} {lb : Array Value} (hg : a.eval g = .func (.func gf) #[] lb) (hFg : F.fn gf) (eg : ∀ args w,(callFunc gf args).run P w = .ok (.enter gf args) w)
  {encs : α → Array Value} {Kp : World → World → Prop} {S Sp : List α → Prop} {N : Nat} (hseq : SeqD D F (n - 1) P gf lb encs Kp S Sp N w0)
  (hKt : ∀ {A B C : World},Kp A B → Kp B C → Kp A C) (hKb : ∀ (W : World) (l : Nat) (o o' : Obj),w.heap.size ≤ l → W.heap[l]? = some o → o.isCells = false → o.isWalk = false → Kp W (W.putObj l o')) (hb0 : Below w0.heap.size w0 w) (hps : ∀ x,(encs x).size = ps.size)
  (I : List α → World → Prop) (Ix : Code → List α → World → Prop) (hI : OwnFrom w.heap.size I) (hIx : ∀ c,OwnFrom w.heap.size (Ix c)) (h0 : I [] w)
  (A : List α → α → Act → World → Prop) (hA : ∀ pre x a' W o,w.heap.size + 1 < W.heap.size → A pre x a' W → A pre x a' (W.putObj (w.heap.size + 1) o))
  (hassign : ∀ (l : Nat) (pre : List α) (x : α) (W : World) (K : Act → World → Prop),I pre W → w.heap.size + 1 < W.heap.size → D (w.heap.size + 2) pre x W → (∀ a' V,KeepsFrom w.heap.size W V → Kp W V → I pre V → A pre x a' V → K a' V) →
   assign.wpIn (F.inRound l) (n - 1 - 1) P (Exit.then K (fun _ _ _ => False)) { tmps := (ps.zip (encs x)).foldl (fun t (p,v) => t.setIfInBounds p v) a.tmps,defers := [] } W)
  (hbody : ∀ (l : Nat) (pre : List α) (x : α) (a' : Act) (W : World),I pre W → A pre x a' W → pre.length < N → body.wpIn (F.inRound l) (n - 1 - 1) P (ownPostG w.heap.size Kp I Ix (pre ++ [x]) W) a' W)
  (hdone : ∀ (k : Nat) (xs : List α) (W : World),w.heap.size ≤ k → S xs → I xs W → W.heap[k]? = some (.deferred (some [])) → Q .normal { a with defers := { target := .collected k,args := #[] }::a.defers } W)
  (hstop : ∀ (k : Nat) (c : Code) (pre : List α) (W : World),w.heap.size ≤ k → Sp pre → Ix c pre W → W.heap[k]? = some (.deferred (some [])) → c.wpIn F n P Q { a with defers := { target := .collected k,args := #[] }::a.defers } W) :
  (Code.rangeFunc g ps assign body).wpIn F n P Q a w := by
 refine wpIn_rangeFunc fun fn hfn => ?_
 rw [hro]
 obtain ⟨r0,hr0⟩ : ∃ r0 : Loop,r0 = { state := .ready,pending := none,fn,tmps := a.tmps,params := ps,assign,body,defers := w.heap.size } := ⟨_,rfl⟩
 obtain ⟨W1,hW1⟩ : ∃ W1,(w.alloc (.deferred (some []))).alloc (.loop r0) = W1 := ⟨_,rfl⟩
 have hs1 : W1.heap.size = w.heap.size + 2 := by rw [← hW1]; simp
 have hR1 : LpR w.heap.size r0 W1 := by
  rw [← hW1]
  have h := World.alloc_heap_new (w.alloc (.deferred (some []))) (.loop r0)
  rw [World.size_alloc] at h
  exact ⟨h,(Below.heap_alloc _ _ _ (by simp)).trans (World.alloc_heap_new w _)⟩
 have hI1 : I [] W1 := hW1 ▸ hI.alloc _ (hI.alloc _ h0)
 have hb1 : Below w0.heap.size w0 W1 := hW1 ▸ hb0.trans ((((Below.refl _ w).alloc (Nat.le_refl _) _).alloc (by simp) _).mono hb0.size)
 refine ⟨w.heap.size + 1,[{ target := .collected w.heap.size,args := #[] }],W1,{ target := .fn (.func gf) lb,args := #[.func (.yield (w.heap.size + 1)) #[] #[]] },W1,gf,
  #[.func (.yield (w.heap.size + 1)) #[] #[]] ++ lb,W1,by rw [← hW1,hr0]; exact run_enterLoop_outer _ _ _ _ _,by simp only [resolve,hg]; simp [go_sem],
  fun f' hf' => by simp [Target.leads] at hf'; exact hf' ▸ hFg,by simp [invoke,go_sem,eg],fun _ => h1,?_⟩
 refine (hseq (w.heap.size + 1) (fun pre W => I pre W ∧ LpR w.heap.size r0 W) (fun pre W => ∃ c,Ix c pre W ∧ LpR w.heap.size { r0 with state := .done,pending := some c } W) W1 hb1
  (fun s A B row hs hg' hr => ⟨own_walk hI hs.1 hg' (by omega) hr,hs.2.grown hg' (fun j e => (hr j e).2)⟩)
  (fun s A B row hs hg' hr => by
   obtain ⟨c,hc,hl⟩ := hs
   exact ⟨c,own_walk (hIx c) hc hg' (by omega) hr,hl.grown hg' (fun j e => (hr j e).2)⟩) ?_ ⟨hI1,hR1⟩).mono ?_
 ·rintro pre x V ⟨hi,hr⟩ hd hlen
  have hy := run_yield (P := P) (args := encs x) hr.1 (by rw [hr0]; exact hps x)
  have e1 : r0.fn = fn := by rw [hr0]
  have e2 : r0.tmps = a.tmps := by rw [hr0]
  have e3 : r0.params = ps := by rw [hr0]
  have e4 : r0.assign = assign := by rw [hr0]
  have e5 : r0.body = body := by rw [hr0]
  have e6 : r0.state = .ready := by rw [hr0]
  have e7 : r0.pending = none := by rw [hr0]
  rw [e1,e2,e3,e4,e5] at hy
  refine ⟨fn,_,assign,body,hy,roundIn_of_wpIn hfn (hassign _ pre x V _ hi hr.lt (hs1 ▸ hd) fun a' X hk1 hp1 hi1 ha1 => ?_)⟩
  have hrX := hr.from hk1
  refine ⟨_,run_beginRound hrX.1 e6,?_⟩
  have hrY : LpR w.heap.size { r0 with state := .busy } _ := hrX.put
  have hp2 : Kp X (X.putObj (w.heap.size + 1) (.loop { r0 with state := .busy })) := hKb _ _ _ _ (by omega) hrX.1 rfl rfl
  refine wpIn_mono (hbody _ pre x a' _ (hI.putObj _ hi1 (by omega) hrX.1 rfl) (hA pre x a' X _ hrX.lt ha1) hlen) ?_
  have over : ∀ (c : Code) (Z : World),KeepsFrom w.heap.size (X.putObj (w.heap.size + 1) (.loop { r0 with state := .busy })) Z → Ix c (pre ++ [x]) Z → ∃ b Z',(Instr.endRound (w.heap.size + 1) (some c)).run P Z = .ok (.bool b) Z' ∧ b = false ∧ ∃ c,Ix c (pre ++ [x]) Z' ∧ LpR w.heap.size { r0 with state := .done,pending := some c } Z' := fun c Z hk3 hi3 => by
   have h := hrY.from hk3
   exact ⟨_,_,run_endRound (some c) h.1,rfl,c,(hIx c).putObj _ hi3 (by omega) h.1 rfl,h.put⟩
  rintro e a3 Z hp
  cases e with
  | normal =>
   obtain ⟨hk3,hp3,hi3⟩ := hp
   have h := hrY.from hk3
   refine ⟨_,_,run_endRound none h.1,.inl ⟨rfl,⟨hI.putObj _ hi3 (by omega) h.1 rfl,?_⟩,hKt hp1 (hKt (hKt hp2 hp3) (hKb _ _ _ _ (by omega) h.1 rfl rfl))⟩⟩
   have er : ({ r0 with state := .ready,pending := none } : Loop) = r0 := by rw [hr0]
   have h' := h.put (r' := { r0 with state := .ready,pending := none })
   rw [er] at h'
   show LpR w.heap.size r0 (Z.putObj (w.heap.size + 1) (.loop { r0 with state := .ready,pending := none }))
   rw [er]
   exact h'
  | ret =>
   obtain ⟨b,Z',h2,rfl,h3⟩ := over .ret Z hp.1 hp.2
   exact ⟨_,_,h2,.inr ⟨rfl,h3⟩⟩
  | exit id =>
   obtain ⟨b,Z',h2,rfl,h3⟩ := over (.exit id) Z hp.1 hp.2
   exact ⟨_,_,h2,.inr ⟨rfl,h3⟩⟩
  | goto t =>
   obtain ⟨b,Z',h2,rfl,h3⟩ := over (.goto t) Z hp.1 hp.2
   exact ⟨_,_,h2,.inr ⟨rfl,h3⟩⟩
  | panic ch => exact hp.elim
  | outgrown => exact hp.elim
 ·rintro e V ⟨⟨v,rfl⟩,(⟨xs,hS,hi,hr⟩ | ⟨pre,hSp,c,hi,hr⟩)⟩
  ·have hend := run_endLoop (P := P) hr.1 (by rw [hr0]; simp)
   rw [show r0.pending = none by rw [hr0]] at hend
   exact ⟨none,_,hend,hdone _ xs _ (Nat.le_refl _) hS (hI.putObj _ hi (by omega) hr.1 rfl) ((World.putObj_heap_other (by omega)).trans hr.2)⟩
  ·exact ⟨some c,_,run_endLoop (P := P) hr.1 (by simp),hstop _ c pre _ (Nat.le_refl _) hSp ((hIx c).putObj _ hi (by omega) hr.1 rfl) ((World.putObj_heap_other (by omega)).trans hr.2)⟩
theorem rangeBoxD {w w0 : World} {g : Operand} {ps : Array Tmp} {assign body : Code} {Q : Exit → Act → World → Prop} {a : Act} {D : Nat → List α → α → World → Prop}
  (hro : F.round = none) (h1 : 1 ≤ n) {gf : Nat} {lb : Array Value} (hg : a.eval g = .func (.func gf) #[] lb) (hFg : F.fn gf) (eg : ∀ args w,(callFunc gf args).run P w = .ok (.enter gf args) w)
  {encs : α → Array Value} {Kp : World → World → Prop} {S Sp : List α → Prop} {N : Nat} (hseq : SeqD D F (n - 1) P gf lb encs Kp S Sp N w0)
  (hKt : ∀ {A B C : World},Kp A B → Kp B C → Kp A C) (hKb : ∀ (W : World) (l : Nat) (o o' : Obj),w.heap.size ≤ l → W.heap[l]? = some o → o.isCells = false → o.isWalk = false → Kp W (W.putObj l o')) (hb0 : Below w0.heap.size w0 w) (hps : ∀ x,(encs x).size = ps.size)
  (I : List α → World → Prop) (Ix : Code → List α → World → Prop) (hI : OwnFrom w.heap.size I) (hIx : ∀ c,OwnFrom w.heap.size (Ix c)) (h0 : I [] w)
  (U : α → Nat → List (Nat × Value)) (B : List α → α → Nat → World → Prop) (hB : ∀ pre x b W o,w.heap.size + 1 < W.heap.size → B pre x b W → B pre x b (W.putObj (w.heap.size + 1) o))
  (hassign : ∀ (l : Nat) (pre : List α) (x : α) (W : World) (K : Act → World → Prop),I pre W → w.heap.size + 1 < W.heap.size → D (w.heap.size + 2) pre x W → (∀ b V,KeepsFrom w.heap.size W V → Kp W V → I pre V → B pre x b V → K { tmps := updA a.tmps (U x b),defers := [] } V) →
   assign.wpIn (F.inRound l) (n - 1 - 1) P (Exit.then K (fun _ _ _ => False)) { tmps := (ps.zip (encs x)).foldl (fun t (p,v) => t.setIfInBounds p v) a.tmps,defers := [] } W)
  (hbody : ∀ (l : Nat) (pre : List α) (x : α) (b : Nat) (W : World),I pre W → B pre x b W → pre.length < N → body.wpIn (F.inRound l) (n - 1 - 1) P (ownPostG w.heap.size Kp I Ix (pre ++ [x]) W) { tmps := updA a.tmps (U x b),defers := [] } W)
  (hdone : ∀ (k : Nat) (xs : List α) (W : World),w.heap.size ≤ k → S xs → I xs W → W.heap[k]? = some (.deferred (some [])) → Q .normal { a with defers := { target := .collected k,args := #[] }::a.defers } W)
  (hstop : ∀ (k : Nat) (c : Code) (pre : List α) (W : World),w.heap.size ≤ k → Sp pre → Ix c pre W → W.heap[k]? = some (.deferred (some [])) → c.wpIn F n P Q { a with defers := { target := .collected k,args := #[] }::a.defers } W) :
  (Code.rangeFunc g ps assign body).wpIn F n P Q a w :=
 rangeD hro h1 hg hFg eg hseq hKt hKb hb0 hps I Ix hI hIx h0 (fun pre x a' W => ∃ b,a' = { tmps := updA a.tmps (U x b),defers := [] } ∧ B pre x b W)
  (fun pre x a' W o h ⟨b,e,hb⟩ => ⟨b,e,hB pre x b W o h hb⟩)
  (fun l pre x W K hi hs hd hK => hassign l pre x W K hi hs hd (fun b V k1 k2 k3 k4 => hK _ V k1 k2 k3 ⟨b,rfl,k4⟩))
  (fun l pre x a' W hi hA hl => by
   obtain ⟨b,rfl,h⟩ := hA
   exact hbody l pre x b W hi h hl)
  hdone hstop
theorem keeps_putObj (W : World) (l : Nat) (o : Obj) : Keeps (fun j => j = l) W (W.putObj l o) := by
 have g := grownBy_putObj' W l o
 exact ⟨g.os,g.tape,g.output,g.size,fun k hk hn => g.block k hk (fun e => hn (by cases e; rfl))⟩
theorem Keeps.own {S : Nat → Prop} {w X Y : World} {row : Option Nat} (h : Keeps S w X) (hg : X.grownBy Y row) (hr : ∀ r,row = some r → w.heap.size ≤ r) : Keeps S w Y :=
 ⟨hg.os.trans h.os,hg.tape.trans h.tape,hg.output.trans h.output,Nat.le_trans h.size hg.size,fun k hk hn => (hg.block k (Nat.lt_of_lt_of_le hk h.size) (fun e => by have := hr k e.symm; omega)).trans (h.block k hk hn)⟩
end
open Go.RowKit Go.Shelf
attribute [local go_sem] Oper.semAt_some
def encsM (x : Nat × MX) : Array Value := #[.int .i64 x.1,msgV x.2.m x.2.v]
def comeM (L : List MX) (B : Nat) (pre : List (Nat × MX)) (x : Nat × MX) (W : World) : Prop := x.1 = pre.length ∧ (∃ y,L[pre.length]? = some y ∧ y.m = x.2.m) ∧ MsgO W B x.2.m x.2.v ∧ MsgOk x.2.m
set_option maxRecDepth 100000 in
theorem bagAll_msgs (n : Nat) (hn : 1 ≤ n) (bx n₁ n₀ B pb : Nat) (lv : Value) (L : List MX) (w0 w : World) (hw0 : Lw w0) (hn1 : n₁ = w0.heap.size) (hb01 : Below n₁ w0 w) (hbx : bx < w.heap.size) (hn₀ : n₀ ≤ w.heap.size) (hc : w.cell? ⟨bx,0,none⟩ = some (.pointer (some ⟨pb,0,none⟩)))
  (h : BagW w B pb lv (itsX L)) (hL : ∀ x ∈ L,Wi.good x.m = true) :
  SeqD (comeM L) Fence.wide n Tryz.prog 36 #[.pointer (some ⟨bx,0,none⟩)] encsM (KpA n₁ n₀) (fun xs => xs.length = L.length) (fun _ => True) L.length w := fun l J Jx W hW hJ hJx hY h0 => by
 have hbxc := (hW.cell (p := ⟨bx,0,none⟩) hbx).trans hc
 have h' := h.below hW
 have hbW : Below n₁ w0 W := hb01.trans (hW.mono (by rw [hn1] at hb01 ⊢; exact hb01.size))
 have hwW := hW.size
 have HSL := hq' h'.s
 have hlb := h'.m
 rw [itsX_len] at hlb
 have c1 := h'.c.cell 0
 simp only [List.getElem?_cons_zero] at c1
 have HY := hq' hY
 have HJ := hq' hJ
 have HL := hq' hL
 have HW0 := hq' hw0
 have HBW := hq' hbW
 have HN1 := hq' hn1
 clear h h' hY hJ hL hw0 hb01 hc hW hbW hn1
 obtain ⟨a,cap,rfl,hle,ha⟩ := HSL.out.form
 rw [itsX_len] at HSL c1
 clear ha
 refine callsIn_of_wp Tryz.func36 rfl trivial ?_ rfl
 simp only [Tryz.ntmps36,List.size_toArray,List.length_cons,List.length_nil,Nat.reduceAdd,Nat.reduceSub,Array.replicate_succ,Array.replicate_zero,List.push_toArray,List.append_toArray,List.nil_append,List.cons_append]
 gi_wp2_with (refine ⟨trivial,?_⟩; gi_at_call 37; refine (callsIn_wide.2 (cloneItems_any B (.slice a L.length cap) (itsX L) W (by rw [itsX_len]; exact HSL.out) (by rw [itsX_len]; exact hlb))).mono ?_; rintro e w1 ⟨v1,rfl,hs1,hb1⟩)
 have h1 : Hid (J [] w1) := HJ.out _ _ _ none h0 (grown_of_below hb1) (fun r e => by cases e)
 have hcl : Hid (CloneI w1 n₀ v1 (itsX L)) := CloneI.of hs1 (by omega)
 have hbw1 : Hid (Below n₁ w0 w1) := HBW.out.trans (hb1.mono (by rw [HN1.out]; have := HBW.out.size; exact this))
 have hWs : W.heap.size ≤ w1.heap.size := hb1.size
 obtain ⟨a1,cap1,rfl,_,_⟩ := hs1.form
 rw [itsX_len] at hcl
 clear hs1 hb1 h0 HSL c1 hbxc
 have hlen1 : ∀ w,(Builtin.len_ #[63] 3 #[.slice a1 L.length cap1]).run Tryz.prog w = .ok (.int .i64 L.length) w := by
  intro w
  have he : Tryz.prog.elem 63 = 74 := by simp [Program.elem,Tryz.underlying63]
  exact run_len_slice w 63 3 a1 L.length cap1 (by rw [he]; exact Tryz.underlying63)
 gi_wp2
 simp only [itsX_len]
 rw [hlen1]
 gi_wp2
 gi_loopw [15] (fun i wr => ∃ k : Nat,i = .int .i64 k ∧ k ≤ L.length ∧ (∃ pre,pre.length = k ∧ J pre wr) ∧ CloneI wr n₀ (.slice a1 L.length cap1) (itsX L) ∧ Below n₁ w0 wr ∧ W.heap.size ≤ wr.heap.size) (fun i _ => L.length - (intOf i).toNat)
 case atStart => exact ⟨0,rfl,by omega,⟨[],rfl,h1.out⟩,hcl.out,hbw1.out,hWs⟩
 case round =>
  obtain ⟨k,rfl,hk,⟨pre,hpk,hjp⟩,hcw,hbw,hsw⟩ := hrel
  have HJP := hq' hjp
  have HCW := hq' hcw
  have HBR := hq' hbw
  clear hjp hcw hbw h1 hcl hbw1
  by_cases hlt2 : k < L.length
  ·obtain ⟨x,hx⟩ : ∃ x,L[k]? = some x := ⟨L[k],by simp [hlt2]⟩
   have hxm := HL.out x (List.mem_of_getElem? hx)
   have hxd := hq' hx
   obtain ⟨g,off,cap2,hv2,hng,hgl,q0,q1⟩ := HCW.out k (mIt x.m) (itsX_at hx)
   injection hv2 with e1 e2 e3
   subst e1 e3
   clear e2 hx
   have HDC := hq' (fun (V : World) (hV : Below wr.heap.size wr V) => by
    have h := wdecode_most (Frm.put (Wi.enc x.m)) (by have h1 := Wi.enc_le hxm; have h2 := Frm.put_length (Wi.enc x.m); unfold maxLen; omega) V (HW0.out.below ((by rw [← HN1.out]; exact HBR.out.trans (hV.mono (by have := HBR.out.size; rw [HN1.out]; exact this)) : Below w0.heap.size w0 V)))
    rw [decM_put hxm] at h
    exact h)
   have HIT : Hid (Below wr.heap.size wr (wr.alloc (.cells #[.string ⟨(mIt x.m).1.toArray⟩,.int .i64 (mIt x.m).2] 74))) := (Below.refl _ _).alloc (Nat.le_refl _) _
   gi_wp2_with fail
   refine ⟨trivial,(callsIn_wide.2 (HDC.out _ HIT.out)).mono ?_⟩
   rintro e w5 ⟨v5,rfl,hmo,hok,hb5⟩
   simp only [Option.getD_some] at hmo hok
   have MO5 := hq' hmo
   have OK5 := hq' hok
   obtain ⟨cs,hcs,hmv,_,HLN,HIL,HIA,HON,_⟩ := mx_cells ⟨x.m,v5⟩ w5 hmo.at
   have HSZ : Hid (((zt0).toArray : Array Value).size = cs.toArray.size) := by rw [Hid,List.size_toArray,List.size_toArray,HLN.out]; rfl
   have HMV : Hid (msgV x.m v5 = .agg cs.toArray) := hmv
   simp only [Option.getD_some]
   rw [HMV.out]
   clear hmo hok hcs hmv
   have B5 : Hid (Below wr.heap.size wr w5) := bt HIT.out hb5
   have B6 : Hid (Below wr.heap.size wr ((w5.alloc (.cells (zt0).toArray 44)).setRow w5.heap.size cs.toArray)) := by
    refine bt B5.out (((Below.refl _ _).alloc (Nat.le_refl _) _).trans ((Keeps.row (S := fun j => j = w5.heap.size) _ w5.heap.size _ rfl).toBelow (by simp) (fun k hk e => by omega)))
   have CM5 : Hid ((w5.alloc (.cells (zt0).toArray 44)).heap[w5.heap.size]? = some (.cells (zt0).toArray 44 (0,0))) := Cl.new w5 (zt0) _
   have M6 : Hid (Cl ((w5.alloc (.cells (zt0).toArray 44)).setRow w5.heap.size cs.toArray) w5.heap.size cs 44) := by
    have := Cl.row (Cl.new w5 (zt0) 44) cs.toArray
    rwa [List.toList_toArray] at this
   have K6 : Hid (Keeps (fun _ => False) w5 ((w5.alloc (.cells (zt0).toArray 44)).setRow w5.heap.size cs.toArray)) := Keeps.below _ (((Below.refl _ _).alloc (Nat.le_refl _) _).trans ((Keeps.row (S := fun j => j = w5.heap.size) _ w5.heap.size _ rfl).toBelow (by simp) (fun k hk e => by omega)))
   clear hb5 HDC
   obtain ⟨pm,hpm⟩ : ∃ pm,pm = w5.heap.size := ⟨_,rfl⟩
   obtain ⟨w6,hw6⟩ : ∃ w6,(w5.alloc (.cells (zt0).toArray 44)).setRow w5.heap.size cs.toArray = w6 := ⟨_,rfl⟩
   rw [hw6] at B6 M6 K6
   rw [← hpm] at M6
   have HW6 := hq' hw6
   have HPM := hq' hpm.symm
   clear hw6 hpm
   have R6 := hq' M6.out.range
   have MO6 : Hid (MsgO w6 W.heap.size x.m v5) := (MO5.out.keepsS K6.out (fun _ _ => id)).weaken (by have := HIT.out.size; omega)
   have h6 : Hid (J pre w6) := HJ.out _ _ _ none HJP.out (grown_of_below B6.out) (fun r e => by cases e)
   have HC6 := hq' (HCW.out.below B6.out)
   have HB6 : Hid (Below n₁ w0 w6) := HBR.out.trans (B6.out.mono (by have := HBR.out.size; rw [HN1.out]; exact this))
   have hs6 : wr.heap.size ≤ w6.heap.size := B6.out.size
   obtain ⟨fn,tmps,assign,body,hy,hR0⟩ := HY.out pre (k,⟨x.m,v5⟩) w6 h6.out ⟨hpk.symm,⟨x,by rw [hpk]; exact hxd.out,rfl⟩,MO6.out,OK5.out⟩ (by omega)
   have hR := hq' hR0
   unfold encsM at hy
   dsimp only at hy
   rw [HMV.out] at hy
   clear hR0 B5 B6 M6 HBR HCW HJP hxd MO5 MO6 OK5 K6 HIT
   gi_wp2_with (first
    | (refine wpListIn_store_row (by rfl) _ _ _ (by rfl) w5.heap.size cs.toArray (by rfl) (by rfl) 44 _ CM5.out HIA.out HSZ.out HON.out ?_; rw [HW6.out,HPM.out])
    | (refine wpListIn_load_mid (by rfl) _ _ (by rfl) pm 0 (by rfl) cs _ R6.out Tryz.underlying44 (by rfl) HIL.out ?_))
   refine hR.out.mono ?_
   rintro e W3 (⟨rfl,hJ3,hk3⟩ | ⟨rfl,hJx3⟩)
   ·have HC3 := hq' (HC6.out.kept hk3)
    have HJ3 := hq' hJ3
    have HB3 : Hid (Below n₁ w0 W3) := HB6.out.trans hk3.bel
    have hs3 := hk3.size
    clear hJ3 hk3
    gi_wp2
    go_roundw
    case rel => exact ⟨k + 1,by go_num,by omega,⟨_,by simp [hpk],HJ3.out⟩,HC3.out,HB3.out,by omega⟩
    case measure => simp [intOf]; omega
   ·skip
    have HJ3 := hq' hJx3
    clear hJx3
    gi_wp2
    refine bodyPost_ret (results_none rfl _ _ _) rfl ?_
    exact ⟨⟨_,rfl⟩,.inr ⟨_,trivial,HJ3.out⟩⟩
  ·obtain rfl : k = L.length := by omega
   gi_wp2
   go_end0
   exact ⟨⟨_,rfl⟩,.inl ⟨_,hpk,HJP.out⟩⟩
open Go.RowKit Go.Shelf
attribute [local go_sem] Oper.semAt_some
structure LsW (w0 w : World) (pb rb lb : Nat) (lv wv : Value) (items : List Item) (L : List Nat) : Prop where
 h : BagW w w0.heap.size pb lv items
 r : Cl w rb [.bool false] 4
 b : Cl w lb [wv] 30
 s : Sl w w0.heap.size 1 wv L.length (wantV L)
 ap : ∀ j,wv.ownBlock = some j → Apart pb lv j
 ar : Apart pb lv rb
 al : Apart pb lv lb
 nr : ∀ j,wv.ownBlock = some j → j ≠ rb ∧ j ≠ lb
 rl : rb ≠ lb
 bel : Below w0.heap.size w0 w
 lo : w0.heap.size ≤ rb ∧ w0.heap.size ≤ lb
theorem LsW.below {w0 w w' : World} {pb rb lb : Nat} {lv wv : Value} {items : List Item} {L : List Nat} (c : LsW w0 w pb rb lb lv wv items L) (b : Below w.heap.size w w') : LsW w0 w' pb rb lb lv wv items L :=
 ⟨c.h.below b,c.r.below b,c.b.below b,c.s.kept (Keeps.below (fun _ => False) b) (fun _ _ => id),c.ap,c.ar,c.al,c.nr,c.rl,bt c.bel b,c.lo⟩
theorem LsW.bag {w0 w w' : World} {pb rb lb : Nat} {lv lv' wv : Value} {items items' : List Item} {L : List Nat} (c : LsW w0 w pb rb lb lv wv items L) (h : BagW w' w0.heap.size pb lv' items') (k : BagK pb lv lv' w w') : LsW w0 w' pb rb lb lv' wv items' L :=
 ⟨h,c.ar.cl k c.r,c.al.cl k c.b,c.s.kept k.k (fun j hj e => by
  rcases e with e | e
  ·exact (c.ap j hj).b e.symm
  ·exact (c.ap j hj).n j e rfl),fun j hj => (c.ap j hj).next k (c.s.lt j hj).2,c.ar.next k c.r.lt,c.al.next k c.b.lt,c.nr,c.rl,c.bel.trans (k.below c.h c.bel.size),c.lo⟩
theorem LsW.put {w0 w w' : World} {pb rb lb : Nat} {lv wv wv' : Value} {items : List Item} {L L' : List Nat} (c : LsW w0 w pb rb lb lv wv items L) (k : Keeps (fun j => wv.ownBlock = some j) w w') (s : Sl w' w0.heap.size 1 wv' L'.length (wantV L'))
  (n : ∀ j,wv'.ownBlock = some j → wv.ownBlock = some j ∨ w.heap.size ≤ j) : LsW w0 (w'.setCell ⟨lb,0,none⟩ wv') pb rb lb lv wv' items L' ∧ w'.cell? ⟨lb,0,none⟩ = some wv ∧ w'.frozen? ⟨lb,0,none⟩ = false := by
 have b1 : Cl w' lb [wv] 30 := c.b.keep k (fun e => (c.nr lb e).2 rfl)
 have r1 : Cl w' rb [.bool false] 4 := c.r.keep k (fun e => (c.nr rb e).1 rfl)
 have k2 : Keeps (fun j => j = lb) w' (w'.setCell ⟨lb,0,none⟩ wv') := Keeps.setCell _ _ _ _ rfl
 have kk : Keeps (fun j => wv.ownBlock = some j ∨ j = lb) w (w'.setCell ⟨lb,0,none⟩ wv') := (k.mono (fun j _ e => .inl e)).trans (k2.mono (fun j _ e => .inr e))
 have hr := c.r.lt
 have hl := c.b.lt
 have ap' : ∀ j,wv'.ownBlock = some j → Apart pb lv j := fun j hj => by
  rcases n j hj with e | e
  ·exact c.ap j e
  ·exact c.h.apart e
 have nr' : ∀ j,wv'.ownBlock = some j → j ≠ rb ∧ j ≠ lb := fun j hj => by
  rcases n j hj with e | e
  ·exact c.nr j e
  ·exact ⟨by omega,by omega⟩
 refine ⟨⟨c.h.keep kk (fun e => ?_) (fun j hj e => ?_),r1.keep k2 c.rl,?_,s.kept k2 (fun j hj e => (nr' j hj).2 e),ap',c.ar,c.al,nr',c.rl,c.bel.trans (kk.toBelow c.bel.size (fun j hj e => ?_)),c.lo⟩,b1.cell 0,b1.free 0⟩
 ·rcases e with e | e
  ·exact (c.ap pb e).b rfl
  ·exact c.al.b e
 ·rcases e with e | e
  ·exact (c.ap j e).n j hj rfl
  ·exact c.al.n j hj e
 ·have := b1.set 0 wv'
  exact this
 ·rcases e with e | e
  ·have := (c.s.lt j e).1; omega
  ·have := c.lo.2; omega
theorem act_cells (x : ActX) (ho : ActOk x) : ∃ cs : List Value,actC x = cs ∧ cs[0]? = some (.int .i64 x.kind) ∧ cs[39]? = some (.int .i64 x.n) ∧ Hid (cs.length = 40) ∧
  Hid ((Tryz.prog.info? 46).map (·.size) = some (cs.toArray : Array Value).size) ∧ Hid ((Tryz.prog.info? 46).map (·.size) = some cs.length) ∧ Hid (((.int .i64 0::.int .i64 0::.int .i64 0::.int .i64 0::.int .i64 0::.int .i64 0::.int .i64 0::.int .i64 0::.int .i64 0::.int .i64 0::.slice none 0 0::.int .i64 0::.slice none 0 0::.int .i64 0::.int .i64 0::.int .i64 0::.int .i64 0::.int .i64 0::.slice none 0 0::.slice none 0 0::.int .i64 0::.int .i64 0::.int .i64 0::.int .i64 0::.int .i64 0::.int .i64 0::.int .i64 0::.int .i64 0::.string ⟨#[]⟩::.string ⟨#[]⟩::.slice none 0 0::.int .i64 0::.int .i64 0::.int .i64 0::.int .i64 0::.int .i64 0::.int .i64 0::.slice none 0 0::.slice none 0 0::.int .i64 0::[]).toArray : Array Value).size = (cs.toArray : Array Value).size) ∧ Hid ((cs.toArray : Array Value).all (·.oneCell') = true) :=
 ⟨actC x,rfl,rfl,rfl,rfl,by rw [Hid,List.size_toArray,show (actC x).length = 40 from rfl]; kernel_rfl,by rw [Hid,show (actC x).length = 40 from rfl]; kernel_rfl,rfl,by rw [Hid]; simpa using ho.2.2.2⟩
end Go.Proofs.YtbljbdjmgogknaaGreatDoor
