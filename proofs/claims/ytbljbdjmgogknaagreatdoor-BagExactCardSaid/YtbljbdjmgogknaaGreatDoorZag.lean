/-
  Wu / Wo3 / Qs / Qw / Wg3 / Qt: texts of one proof, one behind the other.
  Conditions: none of its own.
-/
import Derived.Test.YtbljbdjmgogknaaGreatDoorZaf
import Derived.Deep.Quiet
import Derived.StillTail
set_option linter.unusedVariables false
set_option linter.unusedSimpArgs false
set_option maxHeartbeats 800000
namespace Go.Proofs.YtbljbdjmgogknaaGreatDoor
open Go.RowKit
theorem wwithin_any (n low high : Int) (w : World) : Calls Tryz.prog 68 #[.int .i64 n,.int .i64 low,.int .i64 high] w fun e w' => e = .returned (.bool (Wi.inB n low high)) ∧ w' = w := by
 unfold Wi.inB
 by_cases h0 : low ≤ n
 ·by_cases h1 : n ≤ high
  ·rw [show (decide (low ≤ n) && decide (n ≤ high)) = true by simp [h0,h1]]
   go_enter Tryz.func68,Tryz.ntmps68
   go_wp2
   go_ret
   exact ⟨by simp [h0,h1] <;> omega,rfl⟩
  ·rw [show (decide (low ≤ n) && decide (n ≤ high)) = false by simp [h0,h1]]
   go_enter Tryz.func68,Tryz.ntmps68
   go_wp2
   go_ret
   exact ⟨by simp [h0,h1] <;> omega,rfl⟩
 ·rw [show (decide (low ≤ n) && decide (n ≤ high)) = false by simp [h0]]
  go_enter Tryz.func68,Tryz.ntmps68
  go_wp2
  go_ret
  exact ⟨rfl,rfl⟩
theorem isUnit_any (n : Int) (w : World) : Calls Tryz.prog 69 #[.int .i64 n] w fun e w' => e = .returned (.bool (Wi.unitB n)) ∧ w' = w := by
 unfold Wi.unitB
 have H1 := hq' (wwithin_any n 0 5 w)
 have H2 := hq' (wwithin_any n 11 14 w)
 generalize Wi.inB n 0 5 = b1 at *
 generalize Wi.inB n 11 14 = b2 at *
 go_enter Tryz.func69,Tryz.ntmps69
 go_wp2_with fail
 refine H1.out.mono ?_
 rintro e w1 ⟨rfl,rfl⟩
 cases b1 with
 | true =>
  go_wp2
  go_ret
  exact ⟨rfl,rfl⟩
 | false =>
  go_wp2_with fail
  refine H2.out.mono ?_
  rintro e w2 ⟨rfl,rfl⟩
  go_wp2
  go_ret
  exact ⟨rfl,rfl⟩
def idxP {α : Type} (p : α → Bool) : Nat → List α → Int
 | _,[] => -1
 | k,x::r => if p x then (k : Int) else idxP p (k + 1) r
theorem idxP_any {α : Type} (p : α → Bool) : ∀ (l : List α) (k : Nat),decide (0 ≤ idxP p k l) = l.any p
 | [],k => by simp [idxP]
 | x::r,k => by
  unfold idxP
  cases h : p x with
  | true => simp [h]
  | false => simp only [Bool.false_eq_true,if_false,List.any_cons,h,Bool.false_or]; exact idxP_any p r (k + 1)
theorem idxP_step {α : Type} {p : α → Bool} {l : List α} {k : Nat} {x : α} (hx : l[k]? = some x) : idxP p k (l.drop k) = if p x then (k : Int) else idxP p (k + 1) (l.drop (k + 1)) := by
 obtain ⟨hk,rfl⟩ := List.getElem?_eq_some_iff.1 hx
 rw [List.drop_eq_getElem_cons hk]
 rfl
theorem are1_any (n lo hi : Int) (pl ph : Nat) (w : World) (h1 : Cl w pl [.int .i64 lo] 3) (h2 : Cl w ph [.int .i64 hi] 3) :
  Calls Tryz.prog 100 #[.int .i64 n,.pointer (some ⟨pl,0,none⟩),.pointer (some ⟨ph,0,none⟩)] w fun e w' => e = .returned (.bool (!Wi.inB n lo hi)) ∧ w' = w := by
 have H := hq' (wwithin_any n lo hi w)
 have a0 := h1.cell 0
 have b0 := h2.cell 0
 simp only [g0',gs'] at a0 b0
 generalize Wi.inB n lo hi = b1 at *
 clear h1 h2
 go_enter Tryz.func100,Tryz.ntmps100
 go_wp2_with fail
 refine H.out.mono ?_
 rintro e w1 ⟨rfl,rfl⟩
 cases b1 <;>
 ·go_wp2
  go_ret
  exact ⟨rfl,rfl⟩
theorem idxInts_any (l : List Int) (hl : l.length ≤ maxLen) (v : Value) (lo hi : Int) (pl ph : Nat) (w : World) (h : Ints w v l) (h1 : Cl w pl [.int .i64 lo] 3) (h2 : Cl w ph [.int .i64 hi] 3) :
  Calls Tryz.prog 124 #[v,.func (.func 100) #[] #[.pointer (some ⟨pl,0,none⟩),.pointer (some ⟨ph,0,none⟩)]] w fun e w' => e = .returned (.int .i64 (idxP (fun n => !Wi.inB n lo hi) 0 l)) ∧ w' = w := by
 have HZ := hq' h
 have H1 := hq' h1
 have H2 := hq' h2
 obtain ⟨a,cap,rfl⟩ := h.form
 unfold maxLen at hl
 clear h h1 h2
 go_enter Tryz.func124,Tryz.ntmps124
 go_wp2
 go_loop [8] (fun i => ∃ k : Nat,i = .int .i64 k ∧ k ≤ l.length ∧ idxP (fun n => !Wi.inB n lo hi) 0 l = idxP (fun n => !Wi.inB n lo hi) k (l.drop k)) (fun i => l.length - (intOf i).toNat)
 case atStart => exact ⟨0,rfl,by omega,rfl⟩
 case round =>
  obtain ⟨k,rfl,hk,hq⟩ := hrel
  have HQ := hq' hq
  clear hq
  by_cases hlt : k < l.length
  ·obtain ⟨x,hx⟩ : ∃ x,l[k]? = some x := ⟨l[k],by simp [hlt]⟩
   have HS := hq' (idxP_step (p := fun n => !Wi.inB n lo hi) hx)
   have HN := hq' (are1_any x lo hi pl ph w H1.out H2.out)
   obtain ⟨g,off,cap',he,hg,p0⟩ := HZ.out.get (Below.refl _ _) hx
   injection he with he1 he2 he3
   subst he1 he3
   clear he2
   cases hb : Wi.inB x lo hi with
   | true =>
    rw [hb] at HN
    have HX : Hid (idxP (fun n => !Wi.inB n lo hi) 0 l = idxP (fun n => !Wi.inB n lo hi) (k + 1) (l.drop (k + 1))) := by rw [Hid,HQ.out,HS.out,hb]; rfl
    clear hb HS HQ
    go_wp2_with fail
    refine HN.out.mono ?_
    rintro e w5 ⟨rfl,rfl⟩
    go_wp2
    go_round
    case rel => exact ⟨k + 1,by go_num,by omega,HX.out⟩
    case measure => simp [intOf]; omega
   | false =>
    rw [hb] at HN
    have HX : Hid (idxP (fun n => !Wi.inB n lo hi) 0 l = (k : Int)) := by rw [Hid,HQ.out,HS.out,hb]; rfl
    clear hb HS HQ
    go_wp2_with fail
    refine HN.out.mono ?_
    rintro e w5 ⟨rfl,rfl⟩
    go_wp2
    go_ret
    exact ⟨by rw [HX.out]; rfl,rfl⟩
  ·obtain rfl : k = l.length := by omega
   have HX : Hid (idxP (fun n => !Wi.inB n lo hi) 0 l = -1) := by rw [Hid,HQ.out,List.drop_length]; rfl
   go_wp2
   go_ret
   exact ⟨by rw [HX.out]; rfl,rfl⟩
theorem any_not (low high : Int) (l : List Int) : (l.any fun n => !Wi.inB n low high) = !Wi.areB low high l := by
 unfold Wi.areB
 induction l with
 | nil => rfl
 | cons x r ih => rw [List.any_cons,List.all_cons,ih]; cases Wi.inB x low high <;> simp
theorem containsInts_any (l : List Int) (hl : l.length ≤ maxLen) (v : Value) (lo hi : Int) (pl ph : Nat) (w : World) (h : Ints w v l) (h1 : Cl w pl [.int .i64 lo] 3) (h2 : Cl w ph [.int .i64 hi] 3) :
  Calls Tryz.prog 99 #[v,.func (.func 100) #[] #[.pointer (some ⟨pl,0,none⟩),.pointer (some ⟨ph,0,none⟩)]] w fun e w' => e = .returned (.bool (!Wi.areB lo hi l)) ∧ w' = w := by
 have HI := hq' (idxInts_any l hl v lo hi pl ph w h h1 h2)
 have hd := idxP_any (fun n => !Wi.inB n lo hi) l 0
 rw [any_not] at hd
 generalize idxP (fun n => !Wi.inB n lo hi) 0 l = r at *
 obtain ⟨a,cap,rfl⟩ := h.form
 have HD := hq' hd
 clear h h1 h2 hl hd
 cases hb : Wi.areB lo hi l with
 | true =>
  rw [hb] at HD
  have hr : decide (0 ≤ r) = false := HD.out
  have hr2 : r < 0 := by simpa using hr
  go_enter Tryz.func99,Tryz.ntmps99
  go_wp2_with fail
  refine HI.out.mono ?_
  rintro e w1 ⟨rfl,rfl⟩
  go_wp2
  go_ret
  exact ⟨by simp [hr2],rfl⟩
 | false =>
  rw [hb] at HD
  have hr : decide (0 ≤ r) = true := HD.out
  have hr2 : 0 ≤ r := by simpa using hr
  go_enter Tryz.func99,Tryz.ntmps99
  go_wp2_with fail
  refine HI.out.mono ?_
  rintro e w1 ⟨rfl,rfl⟩
  go_wp2
  go_ret
  exact ⟨by simp [hr2],rfl⟩
theorem are_sz (l : List Int) (hl : l.length ≤ maxLen) (v : Value) (lo hi : Int) (w : World) (h : Ints w v l) :
  Calls Tryz.prog 70 #[.int .i64 lo,.int .i64 hi,v] w fun e w' => e = .returned (.bool (Wi.areB lo hi l)) ∧ Below w.heap.size w w' ∧ w'.heap.size = w.heap.size + 2 := by
 have C1 : Hid (Cl (w.alloc (.cells #[.int .i64 lo] 3)) w.heap.size [.int .i64 lo] 3) := Cl.new w _ _
 have C2 : Hid (Cl ((w.alloc (.cells #[.int .i64 lo] 3)).alloc (.cells #[.int .i64 hi] 3)) (w.heap.size + 1) [.int .i64 hi] 3) := by
  have h := Cl.new (w.alloc (.cells #[.int .i64 lo] 3)) [.int .i64 hi] 3
  rw [World.size_alloc] at h
  exact h
 have C3 : Hid (Cl ((w.alloc (.cells #[.int .i64 lo] 3)).alloc (.cells #[.int .i64 hi] 3)) w.heap.size [.int .i64 lo] 3) := C1.out.alloc _
 have B2 : Hid (Below w.heap.size w ((w.alloc (.cells #[.int .i64 lo] 3)).alloc (.cells #[.int .i64 hi] 3))) := ((Below.refl _ _).alloc (Nat.le_refl _) _).alloc (by simp) _
 have HC := hq' (containsInts_any l hl v lo hi w.heap.size (w.heap.size + 1) _ (h.kept B2.out) C3.out C2.out)
 obtain ⟨a,cap,rfl⟩ := h.form
 generalize Wi.areB lo hi l = b at *
 clear h hl C1 C2 C3
 go_enter Tryz.func70,Tryz.ntmps70
 go_wp2_with fail
 refine HC.out.mono ?_
 rintro e w3 ⟨rfl,rfl⟩
 cases b <;>
 ·go_wp2
  go_ret
  exact ⟨rfl,B2.out,by simp⟩
theorem are_any (l : List Int) (hl : l.length ≤ maxLen) (v : Value) (lo hi : Int) (w : World) (h : Ints w v l) :
  Calls Tryz.prog 70 #[.int .i64 lo,.int .i64 hi,v] w fun e w' => e = .returned (.bool (Wi.areB lo hi l)) ∧ Below w.heap.size w w' :=
 (are_sz l hl v lo hi w h).mono fun e w' ⟨he,hb,_⟩ => ⟨he,hb⟩
def onlyV (m : Wi.Msg) (v : MsgV) : MsgV :=
 {chain := if m.kind = 4 then v.chain else .slice none 0 0
  lives := if m.kind = 4 then v.lives else .slice none 0 0
  brecs := if m.kind = 5 then v.brecs else .slice none 0 0
  table := if m.kind = 8 then v.table else .slice none 0 0
  qrecs := if m.kind = 1 ∨ m.kind = 7 then v.qrecs else .slice none 0 0
  parts := if m.kind = 2 then v.parts else .slice none 0 0
  arecs := if m.kind = 2 then v.arecs else .slice none 0 0 }
theorem recs_nil0 (w : World) : Recs w (.slice none 0 0) [] := ⟨none,0,rfl,fun i x hx => by simp at hx⟩
theorem MsgAt.only {w : World} {m : Wi.Msg} {v : MsgV} (h : MsgAt w m v) : MsgAt w (Wi.only m) (onlyV m v) := by
 unfold Wi.only onlyV
 constructor <;> dsimp only
 ·split; exact h.chain; exact Ints.nil w
 ·split; exact h.lives; exact Rw.nil _ _ w
 ·split; exact h.brecs; exact recs_nil0 w
 ·split; exact h.table; exact Tbl.nil w
 ·split; exact h.qrecs; exact recs_nil0 w
 ·split; exact h.parts; exact Ints.nil w
 ·split; exact h.arecs; exact recs_nil0 w
theorem Cl.row {w : World} {g : Nat} {old : List Value} {t : TypeId} (h : Cl w g old t) (cs : Array Value) : Cl (w.setRow g cs) g cs.toList t := setRow_heap _ _ _ _ _ _ h
theorem Keeps.row {S : Nat → Prop} (w : World) (g : Nat) (cs : Array Value) (h : S g) : Keeps S w (w.setRow g cs) := ⟨rfl,rfl,rfl,by simp,fun k hk hn => setRow_other _ _ _ _ (fun e => hn (by rw [e]; exact h))⟩
theorem Cl.range {w : World} {g : Nat} {cs : List Value} {t : TypeId} (h : Cl w g cs t) : w.rangeAt g 0 cs := fun j v hv => by rw [Nat.zero_add,Cl.cell h j]; exact hv
open Go Go.RowKit
section
variable {P : Program} {ops : Array Oper} {md : Region.Mode} {C : Array Bool → World → Prop}
def sUpon (P : Program) (D : World → Prop) (v : Value) : Result Next → Prop
 | .ok (.value u) w' => D w' ∧ u = v
 | .ok .skip w' => D w' ∧ v = undef
 | .ok (.enter f args) w' => Calls P f args w' (fun e w'' => e = .returned v ∧ D w'')
 | _ => False
def listedAll : Nat → Nat → Array Bool → Array Bool
 | 0,_,L => L
 | n + 1,k,L => listedAll n (k + 1) (L.setIfInBounds k true)
theorem no_enter_v (s : Sem Value) (f : FuncId) (args : Array Value) (w w' : World) : (do pure (Next.value (← s)) : Sem Next).run P w ≠ .ok (.enter f args) w' := by
 simp only [Sem.run_bind,Sem.run_pure]
 cases s.run P w <;> simp [Result.andThen]
def AnyOf (C : Array Bool → World → Prop) : Type := {W : World // ∃ L,C L W}
end
def stL (sts : List (Nat × Nat × Value)) (L : Array Bool) (cs : List Value) : List Value := cs.mapIdx fun k c => match sts.find? (fun s => s.2.1 == k) with | some s => if L.getD s.1 false = true then s.2.2 else c | none => c
structure StC (w2 : World) (q : Nat) (t : TypeId) (n : Nat) (cs : List Value) (sts : List (Nat × Nat × Value)) (L : Array Bool) (W : World) : Prop where
 keep : Keeps (fun j => j = q) w2 W
 cl : Cl W q (stL sts L cs) t
 size : L.size = n
theorem StC.quiet {w2 : World} {q : Nat} {t : TypeId} {n : Nat} {cs : List Value} {sts : List (Nat × Nat × Value)} {L : Array Bool} {W : World} (h : StC w2 q t n cs sts L W) {i : Nat} (hi : sts.all (fun s => s.1 != i) = true) : StC w2 q t n cs sts (L.setIfInBounds i true) W := by
 refine ⟨h.keep,?_,by rw [Array.size_setIfInBounds]; exact h.size⟩
 have : stL sts (L.setIfInBounds i true) cs = stL sts L cs := by
  unfold stL
  congr 1
  funext k c
  cases hf : sts.find? (fun s => s.2.1 == k) with
  | none => rfl
  | some s =>
   have hs := List.all_eq_true.1 hi s (List.mem_of_find?_eq_some hf)
   simp only [bne_iff_ne,ne_eq] at hs
   simp only
   rw [getD_set_ne false (fun e => hs e.symm)]
 rw [this]
 exact h.cl
theorem StC.store {w2 : World} {q : Nat} {t : TypeId} {n : Nat} {cs : List Value} {sts : List (Nat × Nat × Value)} {L : Array Bool} {W : World} (h : StC w2 q t n cs sts L W) {i off : Nat} {v : Value} (hin : i < n) (hf : sts.find? (fun s => s.2.1 == off) = some (i,off,v)) (hu : ∀ s ∈ sts,s.1 = i → s.2.1 = off) :
  StC w2 q t n cs sts (L.setIfInBounds i true) (W.setCell ⟨q,off,none⟩ v) := by
 refine ⟨h.keep.trans (Keeps.setCell _ _ _ _ rfl),?_,by rw [Array.size_setIfInBounds]; exact h.size⟩
 have : stL sts (L.setIfInBounds i true) cs = (stL sts L cs).set off v := by
  apply List.ext_getElem?
  intro k
  unfold stL
  rw [List.getElem?_mapIdx,List.getElem?_set]
  by_cases e : off = k
  ·subst e
   rw [if_pos rfl,hf]
   have hL : (L.setIfInBounds i true).getD i false = true := by
    have : i < L.size := by rw [h.size]; exact hin
    simp [this]
   simp only [hL,if_true,List.length_mapIdx]
   by_cases hk : off < cs.length
   ·rw [if_pos hk,List.getElem?_eq_getElem hk]; rfl
   ·rw [if_neg hk,List.getElem?_eq_none (by omega)]; rfl
  ·rw [if_neg e,List.getElem?_mapIdx]
   cases cs[k]? with
   | none => rfl
   | some c =>
    simp only [Option.map_some]
    cases hg : sts.find? (fun s => s.2.1 == k) with
    | none => rfl
    | some s =>
     have h1 := List.find?_some hg
     simp only [beq_iff_eq] at h1
     have h2 : s.1 ≠ i := fun e2 => e ((hu s (List.mem_of_find?_eq_some hg) e2).symm.trans h1)
     simp only
     rw [getD_set_ne false (fun e => h2 e.symm)]
 rw [this]
 exact h.cl.set off v
theorem StC.cell {w2 : World} {q : Nat} {t : TypeId} {n : Nat} {cs : List Value} {sts : List (Nat × Nat × Value)} {L : Array Bool} {W : World} (h : StC w2 q t n cs sts L W) {p : Addr} {v : Value} (hp : w2.cell? p = some v) (hq : p.block ≠ q) : W.cell? p = some v :=
 (h.keep.cell (World.block_lt_of_cell? w2 _ hp) hq).trans hp
theorem StC.has {w2 : World} {q : Nat} {t : TypeId} {n : Nat} {cs : List Value} {sts : List (Nat × Nat × Value)} {L : Array Bool} {W : World} (h : StC w2 q t n cs sts L W) {off : Nat} (ho : off < cs.length) : ∃ u,W.cell? ⟨q,off,none⟩ = some u := by
 rw [h.cl.cell off]
 have : off < (stL sts L cs).length := by unfold stL; rw [List.length_mapIdx]; exact ho
 exact ⟨_,List.getElem?_eq_getElem this⟩
theorem StC.free {w2 : World} {q : Nat} {t : TypeId} {n : Nat} {cs : List Value} {sts : List (Nat × Nat × Value)} {L : Array Bool} {W : World} (h : StC w2 q t n cs sts L W) (off : Nat) : W.frozen? ⟨q,off,none⟩ = false := h.cl.free off
open Go Go.RowKit
section
variable {P : Program} {ops : Array Oper} {md : Region.Mode} {C : Array Bool → World → Prop}
def DCl (md : Region.Mode) (ops : Array Oper) (L : Array Bool) : Prop := L.size = ops.size ∧ ∀ j oj,ops[j]? = some oj → L.getD j false = true → ∀ e ∈ oj.after,Region.binds md e = true → L.getD e.on false = true
theorem DCl.set {L : Array Bool} {i : Nat} (h : DCl md ops L) (hi : i ∈ Region.ready md ops L) : DCl md ops (L.setIfInBounds i true) := by
 obtain ⟨_,oi,hoi,hall⟩ := mem_ready.1 hi
 refine ⟨by simp [h.1],fun j oj hj hl e he hb => ?_⟩
 by_cases hij : i = j
 ·subst hij
  obtain rfl : oj = oi := Option.some.inj (hj.symm.trans hoi)
  exact getD_set_true (hall e he hb)
 ·rw [getD_set_ne false hij] at hl
  exact getD_set_true (h.2 j oj hj hl e he hb)
theorem DCl.wait {L : Array Bool} (h : DCl md ops L) {j i : Nat} (hw : Region.waitsFor md ops j i = true) (hj : L.getD j false = true) : L.getD i false = true := by
 obtain ⟨oj,ho,e,he,hb,rfl⟩ := Region.waitsFor_spec hw
 exact h.2 j oj ho hj e he hb
theorem ready_wait {L : Array Bool} {j i : Nat} (hj : j ∈ Region.ready md ops L) (hw : Region.waitsFor md ops j i = true) : L.getD i false = true := by
 obtain ⟨oj,ho,e,he,hb,rfl⟩ := Region.waitsFor_spec hw
 obtain ⟨_,o,ho2,hall⟩ := mem_ready.1 hj
 obtain rfl : o = oj := Option.some.inj (ho2.symm.trans ho)
 exact hall e he hb
theorem ready_not {L : Array Bool} {j : Nat} (hj : j ∈ Region.ready md ops L) : L.getD j false = false := getD_both (mem_ready.1 hj).1
def rYields (P : Program) (md : Region.Mode) (ops : Array Oper) (C : Array Bool → World → Prop) (i : Nat) (o : Oper) (v : Value) (a : Act) : Prop :=
 (Region.wanted o (yielded ops a.tmps) = true ∧ ∀ L w,DCl md ops L → i ∈ Region.ready md ops L → C L w → sUpon P (C (L.setIfInBounds i true)) v ((execOp a.eval o).run P w)) ∨
 (Region.wanted o (yielded ops a.tmps) = false ∧ v = undef ∧ ∀ L w,DCl md ops L → i ∈ Region.ready md ops L → C L w → C (L.setIfInBounds i true) w)
def rAny (P : Program) (md : Region.Mode) (ops : Array Oper) (C : Array Bool → World → Prop) (Q : Array Bool → Act → Prop) : Nat → Array Bool → Act → Prop
 | 0,L,a => Region.ready md ops L = [] ∧ Q L a
 | f + 1,L,a => Region.ready md ops L ≠ [] ∧ ∀ i ∈ Region.ready md ops L,∀ o,ops[i]? = some o → ∃ v,rYields P md ops C i o v a ∧ rAny P md ops C Q f (L.setIfInBounds i true) (a.put o.dst v)
theorem wpOp_of_r {i : Nat} {o : Oper} {v : Value} {a : Act} {L : Array Bool} {K' : Act → World → Prop} {Q' : Exit → Act → World → Prop} {w : World} (ho : ops[i]? = some o) (hD : DCl md ops L) (hi : i ∈ Region.ready md ops L) (hC : C L w) (hy : rYields P md ops C i o v a)
  (h : ∀ w',C (L.setIfInBounds i true) w' → K' (a.put o.dst v) w') : wpOp P ops Q' i K' a w := by
 unfold wpOp
 simp only [ho]
 rcases hy with ⟨hw,hy⟩ | ⟨hw,rfl,hy⟩
 ·rw [if_pos hw]
  left
  have h3 := hy L w hD hi hC
  unfold Oper.wp
  generalize (execOp a.eval o).run P w = r at *
  cases r with
  | ok n w' =>
   cases n <;> simp only [sUpon] at h3 <;> simp only [Oper.upon]
   case value u => rw [h3.2]; exact h _ h3.1
   case skip => rw [← h3.2]; exact h _ h3.1
   case enter f args => exact h3.mono fun e w'' ⟨he,hw''⟩ => by subst he; exact h _ hw''
  | halt x w' => simp only [sUpon] at h3
 ·rw [if_neg (by rw [hw]; exact Bool.false_ne_true)]
  exact h _ (hy L w hD hi hC)
theorem wpAny_of_r {Q : Array Bool → Act → Prop} {Q' : Exit → Act → World → Prop} (hQ : ∀ L a w,C L w → Q L a → Q' .normal a w) : ∀ (f : Nat) (L : Array Bool) (a : Act) (w : World),DCl md ops L → C L w →
  rAny P md ops C Q f L a → wpAny P md ops Q' f L a w
 | 0,_,_,_,_,hw,h => ⟨h.1,hQ _ _ _ hw h.2⟩
 | f + 1,L,a,w,hD,hw,h => ⟨fun h0 => absurd h0 h.1,fun i hi => by
   obtain ⟨_,o,ho,_⟩ := mem_ready.1 hi
   obtain ⟨v,hy,hr⟩ := h.2 i hi o ho
   exact wpOp_of_r ho hD hi hw hy (fun w' hw' => wpAny_of_r hQ f _ _ w' (hD.set hi) hw' hr)⟩
theorem r_swap {i j : Nat} {oi oj : Oper} {v u : Value} (hap : oi.apart ops oj = true) (hsi : ∀ cs b,oi.op ≠ .select cs b) (hsj : ∀ cs b,oj.op ≠ .select cs b) {a : Act}
  (hy : rYields P md ops C i oi v a) (h : rYields P md ops C j oj u (a.put oi.dst v)) : rYields P md ops C j oj u a ∧ rYields P md ops C i oi v (a.put oj.dst u) ∧ (a.put oj.dst u).put oi.dst v = (a.put oi.dst v).put oj.dst u := by
 obtain ⟨h1,h2,h3⟩ := Oper.apart_spec hap
 refine ⟨?_,?_,(Act.put_comm a v u h2).symm⟩
 ·unfold rYields at *
  rwa [execOp_put oj hsj a oi.dst v h1,wanted_put oj a oi.dst v h1] at h
 ·unfold rYields at *
  rw [execOp_put oi hsi a oj.dst u h3,wanted_put oi a oj.dst u h3]
  exact hy
theorem rAny_first {Q : Array Bool → Act → Prop} {i : Nat} {oi : Oper} {v : Value} (hi : ops[i]? = some oi) (hsel : ∀ (j : Nat) (o : Oper) cs b,ops[j]? = some o → o.op ≠ .select cs b) :
  ∀ (f : Nat) (L : Array Bool) (a : Act),
   (∀ j oj,ops[j]? = some oj → j ≠ i → L.getD j true = false → (∀ e ∈ oj.after,Region.binds md e = true → e.on ≠ i) → oi.apart ops oj = true) →
   i ∈ Region.ready md ops L → rYields P md ops C i oi v a → rAny P md ops C Q f (L.setIfInBounds i true) (a.put oi.dst v) → rAny P md ops C Q (f + 1) L a := by
 intro f
 induction f with
 | zero =>
  intro L a _ hr hy H
  refine ⟨fun h => (by rw [h] at hr; cases hr),fun j hj o ho => ?_⟩
  by_cases e : j = i
  ·subst e
   rw [hi] at ho
   injection ho with ho
   subst ho
   exact ⟨v,hy,H⟩
  ·have := ready_mono hj e
   rw [H.1] at this
   cases this
 | succ f ih =>
  intro L a hfree hr hy H
  refine ⟨fun h => (by rw [h] at hr; cases hr),fun j hj o ho => ?_⟩
  by_cases e : j = i
  ·subst e
   rw [hi] at ho
   injection ho with ho
   subst ho
   exact ⟨v,hy,H⟩
  ·obtain ⟨u,hu,hrest⟩ := H.2 j (ready_mono hj e) o ho
   obtain ⟨hjun,oj,hoj,hall⟩ := mem_ready.1 hj
   have hun := (mem_ready.1 hr).1
   rw [ho] at hoj
   injection hoj with hoj
   subst hoj
   have hnot : ∀ x ∈ o.after,Region.binds md x = true → x.on ≠ i := fun x hx hb heq => by
    have h1 := hall x hx hb
    rw [heq] at h1
    rcases Nat.lt_or_ge i L.size with h' | h'
    ·simp [h'] at hun h1; rw [hun] at h1; cases h1
    ·simp [Array.getElem?_eq_none h'] at h1
   obtain ⟨k1,k2,k3⟩ := r_swap (hfree j o ho e hjun hnot) (fun cs b => hsel i oi cs b hi) (fun cs b => hsel j o cs b ho) hy hu
   refine ⟨u,k1,ih _ _ (fun k ok hk hki hunk hno => hfree k ok hk hki ?_ hno) (ready_mono hr (Ne.symm e)) k2 ?_⟩
   ·by_cases hjk : j = k
    ·subst hjk; exact hjun
    ·rw [getD_set_ne true hjk] at hunk; exact hunk
   ·rw [Array.setIfInBounds_comm _ _ e,k3]
    exact hrest
def rQuiet (P : Program) (md : Region.Mode) (ops : Array Oper) (C : Array Bool → World → Prop) (Q : Act → Prop) : Nat → List Oper → Act → Prop
 | _,[],a => Q a
 | k,o::r,a => ∃ v,rYields P md ops C k o v a ∧ rQuiet P md ops C Q (k + 1) r (a.put o.dst v)
theorem rAny_lex {Q : Act → Prop} (hs : Region.noSelect ops = true) (F : Array Bool) : ∀ (l : List Oper) (k : Nat) (L : Array Bool) (a : Act),(∀ j,l[j]? = ops[k + j]?) → listedAll l.length k L = F →
  Region.lexFrom md ops l.length k L = true → rQuiet P md ops C Q k l a → rAny P md ops C (fun L a => L = F ∧ Q a) l.length L a
 | [],_,_,_,_,hF,hB,h => ⟨by simpa [Region.lexFrom] using hB,hF,h⟩
 | o::l,k,L,a,hl,hF,hB,h => by
  have h0 : ops[k]? = some o := by simpa using (hl 0).symm
  simp only [List.length_cons,Region.lexFrom,Bool.and_eq_true] at hB
  obtain ⟨⟨hr,hf⟩,hB'⟩ := hB
  obtain ⟨v,hy,hK⟩ := h
  exact rAny_first h0 (Region.noSelect_spec hs) l.length L a (Region.free_spec h0 hf) (by simpa using hr) hy
   (rAny_lex hs F l (k + 1) _ _ (fun j => by have := hl (j + 1); simpa [Nat.add_assoc,Nat.add_comm 1 j] using this) hF hB' hK)
theorem wp_region_ranks {id : Nat} {Q : Exit → Act → World → Prop} {a : Act} {w : World} {l : List Oper} (C : Array Bool → World → Prop) (F : Array Bool) (hm : P.follows .mixedOrders = true) (hB : Region.lexB .any l.toArray = true)
  (hF : listedAll l.length 0 (Array.replicate l.length false) = F) (hC : C (Array.replicate l.length false) w.drew) (h : rQuiet P .any l.toArray C (fun a' => ∀ w',C F w' → Q .normal a' w') 0 l a) : (Code.region id l.toArray true).wp P Q a w := by
 simp only [Region.lexB,Bool.and_eq_true] at hB
 have hsz : l.toArray.size = l.length := by simp
 refine wp_region_any hm (wpAny_of_r (C := C) (Q := fun L a' => L = F ∧ ∀ w',C F w' → Q .normal a' w') (fun L a' w' hw' h => h.2 w' (h.1 ▸ hw')) _ _ _ _ ⟨by simp,fun j oj _ hl => (by rw [getD_replicate_false] at hl; cases hl)⟩ (by rw [hsz]; exact hC) ?_)
 have := rAny_lex (P := P) (C := C) (md := .any) hB.1 F l 0 (Array.replicate l.toArray.size false) a (by simp) (by rw [hsz]; exact hF) (by simpa using hB.2) h
 simpa using this
def vB (o : Oper) : Bool :=
 match o.op with
 | .move _ | .assign _ | .load _ _ | .fieldAddr _ _ _ | .indexAddr _ _ _ | .unOp _ _ _ | .binOp _ _ _ _ _ | .pick _ _ _ | .extract _ _ => true
 | _ => false
theorem v_ne {o : Oper} (h : vB o = true) (f : FuncId) (args : Array Value) (w w' : World) (a : Act) : (execOp a.eval o).run P w ≠ .ok (.enter f args) w' := by
 unfold vB at h
 unfold execOp
 cases ho : o.op <;> rw [ho] at h <;> try (cases h; done)
 case move x => simp [Sem.run_pure]
 case assign x => simp [Sem.run_pure]
 case load t x => exact no_enter_v _ _ _ _ _
 case fieldAddr t x k => exact no_enter_v _ _ _ _ _
 case indexAddr t x k => exact no_enter_v _ _ _ _ _
 case unOp u t x => exact no_enter_v _ _ _ _ _
 case binOp u t x y s => exact no_enter_v _ _ _ _ _
 case extract t i => exact no_enter_v _ _ _ _ _
 case pick c x y =>
  simp only [Sem.run_bind,Sem.run_pure]
  cases (asBool (a.eval c)).run P w <;> simp [Result.andThen]
theorem rQuiet_run {Q : Act → Prop} : ∀ (l1 l2 : List Oper) (k : Nat) (a : Act),(∀ (i : Nat) L w,k ≤ i → i < k + l1.length → C L w → C (L.setIfInBounds i true) w) →
  (∀ o ∈ l1,∀ f args w w' (a : Act),(execOp a.eval o).run P w ≠ .ok (.enter f args) w') →
  wpQuiet P ops (fun W => ∃ b : AnyOf C,W = b.1) (fun a' => rQuiet P md ops C Q (k + l1.length) l2 a') l1 a → rQuiet P md ops C Q k (l1 ++ l2) a
 | [],l2,k,a,_,_,h => by simpa [wpQuiet] using h
 | o::l1,l2,k,a,hC,hne,h => by
  have hrec := fun a' => rQuiet_run (Q := Q) l1 l2 (k + 1) a' (fun i L w h1 h2 => hC i L w (by omega) (by simp only [List.length_cons]; omega)) (fun o ho => hne o (List.mem_cons_of_mem _ ho))
  have hlen : k + 1 + l1.length = k + (o::l1).length := by simp only [List.length_cons]; omega
  rw [wpQuiet] at h
  rw [List.cons_append,rQuiet]
  by_cases hw : Region.wanted o (yielded ops a.tmps) = true
  ·rw [if_pos hw] at h
   obtain ⟨v,hv,hn⟩ := h
   refine ⟨v,.inl ⟨hw,fun L w _ _ hc => ?_⟩,hrec _ (by rw [hlen]; exact hn)⟩
   have h1 := hv w ⟨⟨w,L,hc⟩,rfl⟩
   have h2 := hne o (by simp)
   unfold Oper.quietAt at h1
   generalize hr : (execOp a.eval o).run P w = r at *
   cases r with
   | ok n w' =>
    cases n <;> simp only [Oper.quietUpon] at h1 <;> simp only [sUpon]
    case value u => rw [h1.1]; exact ⟨hC k L w (Nat.le_refl _) (by simp) hc,h1.2⟩
    case skip => rw [h1.1]; exact ⟨hC k L w (Nat.le_refl _) (by simp) hc,h1.2⟩
    case enter f args => exact absurd hr (h2 f args w w' a)
   | halt x w' => simp only [Oper.quietUpon] at h1
  ·rw [if_neg hw] at h
   exact ⟨undef,.inr ⟨by simpa using hw,rfl,fun L w _ _ hc => hC k L w (Nat.le_refl _) (by simp) hc⟩,hrec _ (by rw [hlen]; exact h)⟩
theorem rQuiet_head {Q : Act → Prop} {l : List Oper} {k : Nat} {a : Act} (n : Nat) (hn : n ≤ l.length) (hp : (l.take n).all vB = true) (hC : ∀ (i : Nat) L w,k ≤ i → i < k + n → C L w → C (L.setIfInBounds i true) w)
  (h : wpQuiet P ops (fun W => ∃ b : AnyOf C,W = b.1) (fun a' => rQuiet P md ops C Q (k + n) (l.drop n) a') (l.take n) a) : rQuiet P md ops C Q k l a := by
 have hlen : (l.take n).length = n := by rw [List.length_take]; omega
 have := rQuiet_run (P := P) (ops := ops) (C := C) (Q := Q) (md := md) (l.take n) (l.drop n) k a (fun i L w h1 h2 => hC i L w h1 (by rw [hlen] at h2; exact h2)) (fun o ho => v_ne (List.all_eq_true.1 hp o ho)) (by rw [hlen]; exact h)
 rwa [List.take_append_drop] at this
theorem rQuiet_call {Q : Act → Prop} {o : Oper} {r : List Oper} {k : Nat} {a : Act} {f : FuncId} {args : Array Value} (v : Value) (hw : Region.wanted o (yielded ops a.tmps) = true) (he : ∀ w,(execOp a.eval o).run P w = .ok (.enter f args) w)
  (hc : ∀ L w,DCl md ops L → k ∈ Region.ready md ops L → C L w → Calls P f args w fun e w' => e = .returned v ∧ C (L.setIfInBounds k true) w') (h : rQuiet P md ops C Q (k + 1) r (a.put o.dst v)) : rQuiet P md ops C Q k (o::r) a :=
 ⟨v,.inl ⟨hw,fun L w hD hi hC => by rw [he w]; exact hc L w hD hi hC⟩,h⟩
theorem rQuiet_value {Q : Act → Prop} {o : Oper} {r : List Oper} {k : Nat} {a : Act} (v : Value) (W : World → World) (hw : Region.wanted o (yielded ops a.tmps) = true)
  (hc : ∀ L w,DCl md ops L → k ∈ Region.ready md ops L → C L w → (execOp a.eval o).run P w = .ok (.value v) (W w) ∧ C (L.setIfInBounds k true) (W w)) (h : rQuiet P md ops C Q (k + 1) r (a.put o.dst v)) : rQuiet P md ops C Q k (o::r) a :=
 ⟨v,.inl ⟨hw,fun L w hD hi hC => by rw [(hc L w hD hi hC).1]; exact ⟨(hc L w hD hi hC).2,rfl⟩⟩,h⟩
theorem rQuiet_none {Q : Act → Prop} {o : Oper} {r : List Oper} {k : Nat} {a : Act} (hw : Region.wanted o (yielded ops a.tmps) = false)
  (hc : ∀ L w,DCl md ops L → k ∈ Region.ready md ops L → C L w → C (L.setIfInBounds k true) w) (h : rQuiet P md ops C Q (k + 1) r (a.put o.dst undef)) : rQuiet P md ops C Q k (o::r) a :=
 ⟨undef,.inr ⟨hw,rfl,hc⟩,h⟩
end
theorem ints2_cl {W : World} {g : Nat} {a b : Int} {t : TypeId} (C : Cl W g [.int .i64 a,.int .i64 b] t) : Ints W (.slice (some ⟨g,0,none⟩) 2 2) [a,b] := by
 refine ⟨_,2,rfl,fun i hi => ⟨g,0,rfl,C.lt,?_⟩⟩
 rw [Nat.zero_add,Cl.cell C i]
 rcases (show i = 0 ∨ i = 1 by simp at hi; omega) with rfl | rfl <;> rfl
theorem MsgOk.only {m : Wi.Msg} (h : MsgOk m) : MsgOk (Wi.only m) := by
 have hz : Bd.inR 0 := ⟨by decide,by decide⟩
 have hn := h.n
 simp only [List.mem_cons,List.not_mem_nil,or_false,forall_eq_or_imp,forall_eq] at hn
 obtain ⟨n0,n1,n2,n3,n4,n5,n6,n7,n8,n9,q0,q1,q2,q3,q4,q5,q6,q7,r0,r1,r2,r3,r4,r5⟩ := hn
 unfold Wi.only
 constructor <;> dsimp only
 ·simp only [List.mem_cons,List.not_mem_nil,or_false,forall_eq_or_imp,forall_eq]
  refine ⟨n0,n1,n2,?_,?_,?_,?_,?_,?_,?_,?_⟩
  ·split <;> assumption
  ·split <;> assumption
  ·split <;> assumption
  ·split <;> assumption
  ·split <;> assumption
  ·split <;> assumption
  ·split <;> assumption
  ·refine ⟨?_,?_,?_,?_,?_,?_,?_,?_,?_,?_,?_,?_,?_,?_⟩ <;> (split <;> first | assumption | exact hz)
 ·split; exact h.c; exact ⟨by simp,by simp⟩
 ·split; exact h.l; exact ⟨by simp,by simp⟩
 ·split; exact h.b; exact ⟨hz,hz,hz,hz,hz,by simp [Wi.zBatch],by simp [Wi.zBatch]⟩
 ·split; exact h.t; exact ⟨by simp,by simp⟩
 ·split; exact h.q; exact ⟨by simp [Wi.zReq],by simp [Wi.zReq],by simp [Wi.zReq],by simp [Wi.zReq]⟩
 ·split; exact h.p; exact ⟨by simp [Wi.zResp],by simp [Wi.zResp]⟩
 ·split; exact h.a; exact ⟨by simp [Wi.zResp],by simp [Wi.zResp]⟩
theorem no_of {a b : Bool} (h : a = true → b = true) (hb : b = false) : a = false := by cases a <;> simp_all
theorem exec_load {P : Program} {o : Oper} {a : Act} {t : TypeId} {x : Operand} {p v : Value} {w : World} (ho : o.op = .load t x) (hx : a.eval x = p) (h : (Instr.loadAt t p).run P w = .ok v w) : (execOp a.eval o).run P w = .ok (.value v) w := by
 unfold execOp
 rw [ho]
 simp only [hx,Sem.run_bind,Sem.run_pure,h,Result.andThen_ok]
def gcnt (L : Array Bool) : Nat := (if L.getD 27 false then 1 else 0) + (if L.getD 28 false then 2 else 0) + (if L.getD 36 false then 1 else 0) + (if L.getD 37 false then 2 else 0)
structure gC (w1 : World) (e l o h : Int) (t : TypeId) (L : Array Bool) (W : World) : Prop where
 b : Below w1.heap.size w1 W
 s : L.getD 43 false = false → W.heap.size = w1.heap.size + gcnt L
 c1 : L.getD 27 false = true → Cl W w1.heap.size [.int .i64 e,.int .i64 l] t
 c2 : L.getD 36 false = true → Cl W (w1.heap.size + 3) [.int .i64 o,.int .i64 h] t
 z : L.size = 47
theorem set_same {L : Array Bool} {i : Nat} (h : i < L.size) : (L.setIfInBounds i true).getD i false = true := by simp [h]
theorem gC.set {w1 W : World} {e l o h : Int} {t : TypeId} {L : Array Bool} (c : gC w1 e l o h t L W) {i : Nat} (h1 : i ≠ 27) (h2 : i ≠ 28) (h3 : i ≠ 36) (h4 : i ≠ 37) (h5 : i ≠ 43) : gC w1 e l o h t (L.setIfInBounds i true) W := by
 refine ⟨c.b,?_,?_,?_,by rw [Array.size_setIfInBounds]; exact c.z⟩
 ·unfold gcnt
  rw [getD_set_ne false h1,getD_set_ne false h2,getD_set_ne false h3,getD_set_ne false h4,getD_set_ne false h5]
  exact c.s
 ·rw [getD_set_ne false h1]; exact c.c1
 ·rw [getD_set_ne false h3]; exact c.c2
theorem gC.build1 {w1 W : World} {e l o h : Int} {t : TypeId} {L : Array Bool} (c : gC w1 e l o h t L W) (hs : W.heap.size = w1.heap.size) (h28 : L.getD 28 false = false) (h36 : L.getD 36 false = false) (h37 : L.getD 37 false = false) :
  gC w1 e l o h t (L.setIfInBounds 27 true) (W.alloc (.cells #[.int .i64 e,.int .i64 l] t)) := by
 refine ⟨c.b.alloc (by omega) _,fun _ => ?_,fun _ => ?_,fun h => ?_,by rw [Array.size_setIfInBounds]; exact c.z⟩
 ·unfold gcnt
  rw [getD_set_ne (i := 27) (j := 28) false (by decide),getD_set_ne (i := 27) (j := 36) false (by decide),getD_set_ne (i := 27) (j := 37) false (by decide),set_same (i := 27) (by rw [c.z]; decide),h28,h36,h37,World.size_alloc,hs]
  simp
 ·rw [← hs]; exact Cl.new W _ _
 ·rw [getD_set_ne false (by decide),h36] at h; cases h
theorem gC.build2 {w1 W : World} {e l o h : Int} {t : TypeId} {L : Array Bool} (c : gC w1 e l o h t L W) (hs : W.heap.size = w1.heap.size + 3) (h27 : L.getD 27 false = true) (h28 : L.getD 28 false = true) (h37 : L.getD 37 false = false) :
  gC w1 e l o h t (L.setIfInBounds 36 true) (W.alloc (.cells #[.int .i64 o,.int .i64 h] t)) := by
 refine ⟨c.b.alloc (by omega) _,fun _ => ?_,fun _ => Cl.alloc (c.c1 h27) _,fun h => ?_,by rw [Array.size_setIfInBounds]; exact c.z⟩
 ·unfold gcnt
  rw [getD_set_ne (i := 36) (j := 27) false (by decide),getD_set_ne (i := 36) (j := 28) false (by decide),getD_set_ne (i := 36) (j := 37) false (by decide),set_same (i := 36) (by rw [c.z]; decide),h27,h28,h37,World.size_alloc,hs]
  simp
 ·rw [← hs]; exact Cl.new W _ _
theorem gC.are1 {w1 W W' : World} {e l o h : Int} {t : TypeId} {L : Array Bool} (c : gC w1 e l o h t L W) (hb : Below W.heap.size W W') (hz : W'.heap.size = W.heap.size + 2) (h27 : L.getD 27 false = true) (h28 : L.getD 28 false = false) (h36 : L.getD 36 false = false) (h37 : L.getD 37 false = false) (h43 : L.getD 43 false = false) :
  gC w1 e l o h t (L.setIfInBounds 28 true) W' := by
 refine ⟨bt c.b hb,fun _ => ?_,fun _ => Cl.below (c.c1 h27) hb,fun h => ?_,by rw [Array.size_setIfInBounds]; exact c.z⟩
 ·have hs := c.s h43
  unfold gcnt at hs ⊢
  rw [h27,h28,h36,h37] at hs
  rw [getD_set_ne (i := 28) (j := 27) false (by decide),getD_set_ne (i := 28) (j := 36) false (by decide),getD_set_ne (i := 28) (j := 37) false (by decide),set_same (i := 28) (by rw [c.z]; decide),h27,h36,h37,hz,hs]
  simp
 ·rw [getD_set_ne false (by decide),h36] at h; cases h
theorem gC.are2 {w1 W W' : World} {e l o h : Int} {t : TypeId} {L : Array Bool} (c : gC w1 e l o h t L W) (hb : Below W.heap.size W W') (hz : W'.heap.size = W.heap.size + 2) (h27 : L.getD 27 false = true) (h28 : L.getD 28 false = true) (h36 : L.getD 36 false = true) (h37 : L.getD 37 false = false) (h43 : L.getD 43 false = false) :
  gC w1 e l o h t (L.setIfInBounds 37 true) W' := by
 refine ⟨bt c.b hb,fun _ => ?_,fun _ => Cl.below (c.c1 h27) hb,fun _ => Cl.below (c.c2 h36) hb,by rw [Array.size_setIfInBounds]; exact c.z⟩
 have hs := c.s h43
 unfold gcnt at hs ⊢
 rw [h27,h28,h36,h37] at hs
 rw [getD_set_ne (i := 37) (j := 27) false (by decide),getD_set_ne (i := 37) (j := 28) false (by decide),getD_set_ne (i := 37) (j := 36) false (by decide),set_same (i := 37) (by rw [c.z]; decide),h27,h28,h36,hz,hs]
 simp
theorem gC.only {w1 W W' : World} {e l o h : Int} {t : TypeId} {L : Array Bool} (c : gC w1 e l o h t L W) (hb : Below W.heap.size W W') : gC w1 e l o h t (L.setIfInBounds 43 true) W' := by
 refine ⟨bt c.b hb,fun h => ?_,fun h => ?_,fun h => ?_,by rw [Array.size_setIfInBounds]; exact c.z⟩
 ·rw [set_same (by rw [c.z]; decide)] at h; cases h
 ·rw [getD_set_ne false (by decide)] at h; exact Cl.below (c.c1 h) hb
 ·rw [getD_set_ne false (by decide)] at h; exact Cl.below (c.c2 h) hb
theorem gC.late {w1 W W' : World} {e l o h : Int} {t : TypeId} {L : Array Bool} (c : gC w1 e l o h t L W) (hb : Below W.heap.size W W') (h43 : L.getD 43 false = true) {i : Nat} (h1 : i ≠ 27) (h2 : i ≠ 36) (h3 : i ≠ 43) : gC w1 e l o h t (L.setIfInBounds i true) W' := by
 refine ⟨bt c.b hb,fun h => ?_,fun h => ?_,fun h => ?_,by rw [Array.size_setIfInBounds]; exact c.z⟩
 ·rw [getD_set_ne false h3,h43] at h; cases h
 ·rw [getD_set_ne false h1] at h; exact Cl.below (c.c1 h) hb
 ·rw [getD_set_ne false h2] at h; exact Cl.below (c.c2 h) hb
theorem gC.cell {w1 : World} {e l o h : Int} {t tm : TypeId} {pa : Nat} {cs : List Value} (CA : Cl w1 pa cs tm) (x : AnyOf (gC w1 e l o h t)) {k : Nat} {u : Value} (hu : cs[k]? = some u) : x.1.cell? ⟨pa,k,none⟩ = some u := by
 obtain ⟨W,L,hL⟩ := x
 exact ((Cl.below CA hL.b).cell k).trans hu
open Go Go.RowKit
section
variable {P : Program} {ops : Array Oper} {md : Region.Mode} {C : World → Prop}
theorem wp_region_class {id : Nat} {Q : Exit → Act → World → Prop} {a : Act} {w : World} {l : List Oper} (C : World → Prop) (hm : P.follows .mixedOrders = true) (hB : Region.lexB .any l.toArray = true) (hC : C w.drew)
  (h : wpQuiet P l.toArray C (fun a' => ∀ w',C w' → Q .normal a' w') l a) : (Code.region id l.toArray true).wp P Q a w :=
 wp_region_quiet (C := C) hm hB hC (by simpa using h)
def BelowOf (w : World) : Type := {W : World // Below w.heap.size w W}
instance (w : World) : Nonempty (BelowOf w) := ⟨⟨w,Below.refl _ _⟩⟩
theorem BelowOf.cell {w : World} (b : BelowOf w) {p : Addr} {v : Value} (h : w.cell? p = some v) : b.1.cell? p = some v := (b.2.cell (World.block_lt_of_cell? w _ h)).trans h
theorem wp_region_below {id : Nat} {Q : Exit → Act → World → Prop} {a : Act} {w : World} {l : List Oper} (hm : P.follows .mixedOrders = true) (hB : Region.lexB .any l.toArray = true)
  (h : wpQuiet P l.toArray (fun W => ∃ b : BelowOf w,W = b.1) (fun a' => ∀ w',(∃ b : BelowOf w,w' = b.1) → Q .normal a' w') l a) : (Code.region id l.toArray true).wp P Q a w :=
 wp_region_class _ hm hB ⟨⟨w.drew,(Below.refl _ _).drew⟩,rfl⟩ h
theorem belowOf_call {w a b : World} (h : Below w.heap.size w a) (k : Below a.heap.size a b) : ∃ c : BelowOf w,b = c.1 := ⟨⟨b,h.trans (k.mono h.size)⟩,rfl⟩
theorem below_class {w : World} {f : FuncId} {args : Array Value} {v : Value} (h : ∀ W,Below w.heap.size w W → Calls P f args W fun e w' => e = .returned v ∧ Below W.heap.size W w') :
  ∀ b : BelowOf w,Calls P f args b.1 fun e w' => e = .returned v ∧ ∃ c : BelowOf w,w' = c.1 := fun b => (h b.1 b.2).mono (fun _ _ ⟨a,k⟩ => ⟨a,belowOf_call b.2 k⟩)
end
end Go.Proofs.YtbljbdjmgogknaaGreatDoor
