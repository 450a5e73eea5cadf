/-
  Hc / Hd / Gh: texts of one proof, one behind the other.
  Conditions: none of its own.
-/
import Derived.Test.YtbljbdjmgogknaaGreatDoorZbs
set_option linter.unusedVariables false
set_option linter.unusedSimpArgs false
set_option maxHeartbeats 6400000
set_option maxRecDepth 20000
namespace Go.Proofs.YtbljbdjmgogknaaGreatDoor
open Go.RowKit
def offU (u : Int) (x : MX) : Bool := !(x.m.to == u)
theorem filterX_take (p : MX → Bool) (l : List MX) (j : Nat) (x : MX) (h : l[j]? = some x) : (l.take (j + 1)).filter p = (l.take j).filter p ++ [x].filter p := by
 obtain ⟨hj,rfl⟩ := List.getElem?_eq_some_iff.1 h
 rw [List.take_succ_eq_append_getElem hj,List.filter_append]
theorem ubClear_any (w0 w : World) (ub : Nat) (uv : Value) (L : List MX) (u : Int) (h : UbW w0 w ub uv L) (hl : L.length ≤ 256) (hm : ∀ y ∈ L,MsgAt w0 y.m y.v) :
  Calls Tryz.prog 18 #[.pointer (some ⟨ub,0,none⟩),.int .i64 u] w (UPost w0 ub uv w (.int .i64 ((L.length : Int) - ((L.filter (offU u)).length : Int))) (L.filter (offU u))) := by
 obtain ⟨a,cp,hve,hcapn,_⟩ := h.o.form
 subst hve
 obtain ⟨i0,z0,hi,hz0,hz1,hz2,hz3⟩ := infoM
 have H0 := hq' h
 have HM := hq' hm
 have hgb := h.b.size
 have HUL := hq' h.c.lt
 have H0L : Hid (∀ j,(Value.slice a L.length cp).ownBlock = some j → j < w.heap.size) := fun j hj => (h.o.lt j hj).2
 have hmade : Hid (Sl (w.alloc (.cells #[] 44)) w0.heap.size 38 (.slice (some ⟨w.heap.size,0,none⟩) 0 0) 0 []) := Sl.ofOwn (e := 44) (World.ownsRow_made w #[] 0 hgb (by unfold maxLen; omega) rfl)
 have BA : Hid (Below w.heap.size w (w.alloc (.cells #[] 44))) := (Below.refl _ _).alloc (Nat.le_refl _) _
 have HFL : Hid (∀ k,((L.take k).filter (offU u)).length ≤ k) := fun k => Nat.le_trans (List.length_filter_le _ _) (by rw [List.length_take]; omega)
 clear h hm
 go_enter Tryz.func18,Tryz.ntmps18
 go_upto_block 0 with (fail)
 go_cut [5] (fun ov wz => ∃ (ao : Option Addr) (co : Nat),ov = .slice ao (L.filter (offU u)).length co ∧ UbW w0 wz ub (.slice a L.length cp) L ∧ Sl wz w0.heap.size 38 ov (L.filter (offU u)).length (cellsX (L.filter (offU u))) ∧ (∀ j,ov.ownBlock = some j → w.heap.size ≤ j) ∧ Below w.heap.size w wz)
 case first =>
  go_wp2
  go_loopw [5,6] (fun ov iv wr => ∃ (k : Nat),iv = .int .i64 (k : Int) ∧ k ≤ L.length ∧ UbW w0 wr ub (.slice a L.length cp) L ∧ Sl wr w0.heap.size 38 ov ((L.take k).filter (offU u)).length (cellsX ((L.take k).filter (offU u))) ∧ (∀ j,ov.ownBlock = some j → w.heap.size ≤ j) ∧ Below w.heap.size w wr) (fun _ iv _ => L.length - (intOf iv).toNat)
  case atStart =>
   refine ⟨0,rfl,Nat.zero_le _,H0.out.below BA.out,?_,fun j hj => ?_,BA.out⟩
   ·simpa [cellsX] using hmade.out
   ·simp [Value.ownBlock] at hj; omega
  case round =>
   obtain ⟨k,rfl,hk,hu,hs,hf,hb⟩ := hrel
   have HU := hq' hu
   have HS := hq' hs
   have HF := hq' hf
   have HB := hq' hb
   obtain ⟨ao,co,hov,_,_⟩ := hs.form
   subst hov
   have c0 : wr.cell? ⟨ub,0,none⟩ = some (.slice a L.length cp) := HU.out.c.cell 0
   have hgr2 := hu.b.size
   have hwr := hb.size
   clear hu hs hf hb H0 BA hmade
   by_cases hkl : k < L.length
   ·have hkli : (k : Int) < (L.length : Int) := by omega
    obtain ⟨x,hx⟩ : ∃ x,L[k]? = some x := ⟨L[k],by simp [hkl]⟩
    have hmx : MsgAt wr x.m x.v := (HM.out x (List.mem_of_getElem? hx)).kept HU.out.b
    obtain ⟨cs,hcs,hmv,hto,HL38,HIL,HIA,HCA,HCO⟩ := mx_cells x wr hmx
    obtain ⟨g,off,c',e,hgl,hr⟩ := HU.out.o.atX (by omega)
    injection e with e1 e2 e3
    subst e1 e3
    have pt : wr.cell? ⟨g,off + k * 38 + 2,none⟩ = some (.int .i64 x.m.to) := by
     rw [Nat.add_assoc]
     exact hr _ _ (cellsX_at L k x hx 2 _ (by rw [hcs]; exact hto))
    have RX : Hid (wr.rangeAt g (off + k * 38) cs) := fun j v hv => by
     rw [Nat.add_assoc]
     exact hr _ _ (cellsX_at L k x hx j v (by rw [hcs]; exact hv))
    have HTK := hq' (filterX_take (offU u) L k x hx)
    clear hmx hmv hgl hr e2 hto hx
    by_cases hq : x.m.to = u
    ·have HTK2 : Hid ((L.take (k + 1)).filter (offU u) = (L.take k).filter (offU u)) := by rw [Hid,HTK.out]; simp [offU,hq]
     have hqb : (x.m.to != u) = false := by simp [hq]
     have HQ := hq' hq
     clear hq HTK
     go_wp2
     go_roundw
     case rel => exact ⟨k + 1,by go_num,by omega,HU.out,by rw [HTK2.out]; exact HS.out,HF.out,HB.out⟩
     case measure => simp [intOf]; omega
    ·have HTK2 : Hid ((L.take (k + 1)).filter (offU u) = (L.take k).filter (offU u) ++ [x]) := by rw [Hid,HTK.out]; simp [offU,hq]
     have hqb : (x.m.to != u) = true := by simp [hq]
     have HQ := hq' hq
     have HFK := HFL.out k
     have SLA : Hid (Sl (wr.alloc (.cells cs.toArray 44)) w0.heap.size 38 (.slice ao ((L.take k).filter (offU u)).length co) ((L.take k).filter (offU u)).length (cellsX ((L.take k).filter (offU u)))) := HS.out.kept (Keeps.alloc (fun _ => False) _ _) (fun _ _ => id)
     have hsrc : Hid (SrcIs (wr.alloc (.cells cs.toArray 44)) 38 (.slice (some ⟨wr.heap.size,0,none⟩) 1 1) 1 cs) := (Cl.new wr cs 44).src 38 1 1 (by rw [HL38.out])
     have hc1 : 0 < cs.length := by rw [HL38.out]; omega
     have hc2 : cs.length ≤ 1000 := by rw [HL38.out]; omega
     have hc3 : i0.size = cs.length := by rw [HL38.out]; exact hz1
     generalize hq2 : (L.take k).filter (offU u) = M at *
     have HM2 := hq' hq2
     clear hq HTK hq2
     go_wp2_with (first
      | (refine wpList_load_mid (by rfl) _ _ (by rfl) g (off + k * 38) (by rfl) cs _ RX.out Tryz.underlying44 (by rfl) HIL.out ?_)
      | (refine wpList_build_wide (by rfl) _ 44 _ (by rfl) cs (by rfl) i0 z0 Tryz.underlying27 hi hz0 hc3 hc1 hc2 ?_)
      | (at_builtin; refine wpList_append_sl rfl (.tmp 28) (.tmp 36) 27 rfl 44 i0 z0 38 432 Tryz.underlying27 hi hz0 hz1 hz2 hz3 (by decide) w0.heap.size _ _ _ rfl SLA.out _ _ _ rfl hsrc.out HCO.out ?_ ?_ ?_ ?_))
     ·unfold maxLen; omega
     ·omega
     ·first | omega | (rw [World.size_alloc]; omega) | (simp; omega)
     intro wv' w9 hown hgr hnew
     have K9 : Hid (Keeps (fun j => (Value.slice ao M.length co).ownBlock = some j) wr w9) := (Keeps.alloc _ _ _).trans (Keeps.grown hgr (fun j hj => hj))
     have H9 : Hid (UbW w0 w9 ub (.slice (some ⟨g,off,none⟩) L.length cp) L) := HU.out.keep K9.out (fun e => by have := HF.out _ e; have := HUL.out; omega) (fun j hj e => by have h1 := HF.out j e; have h2 := H0L.out j hj; omega) (fun j hj e => by have := HF.out j e; omega)
     have S9 : Hid (Sl w9 w0.heap.size 38 wv' (M ++ [x]).length (cellsX (M ++ [x]))) := by
      rw [cellsX_snoc,List.length_append,hcs]
      exact hown
     have F9 : Hid (∀ j,wv'.ownBlock = some j → w.heap.size ≤ j) := fun j hj => by
      rcases hnew with e | e
      ·exact HF.out j (e ▸ hj)
      ·have := e j hj; try rw [World.size_alloc] at this
       omega
     have B9 : Hid (Below w.heap.size w w9) := HB.out.trans (K9.out.toBelow HB.out.size (fun j hj e => by have := HF.out j e; omega))
     obtain ⟨aw,cw,hwv,_⟩ := S9.out.form
     have hwv' : wv' = .slice aw (M.length + 1) cw := by simpa using hwv
     clear hwv
     subst hwv'
     clear hown hgr hnew SLA hsrc K9 HU HS HB
     go_wp2
     go_roundw
     case rel => exact ⟨k + 1,by go_num,by omega,H9.out,by rw [HTK2.out]; exact S9.out,F9.out,B9.out⟩
     case measure => simp [intOf]; omega
   ·obtain rfl : k = L.length := by omega
    have HTA : Hid ((L.take L.length).filter (offU u) = L.filter (offU u)) := by rw [Hid,List.take_length]
    rw [HTA.out] at HS
    have hnl : ¬ (L.length : Int) < (L.length : Int) := by omega
    clear hkl
    go_wp2
    go_meet
    case rel => exact ⟨ao,co,rfl,HU.out,HS.out,(by have := HF.out; rwa [HTA.out] at this),HB.out⟩
 case rest =>
  obtain ⟨ao,co,rfl,hu,hs,hf,hb⟩ := hcut
  have HU := hq' hu
  have HS := hq' hs
  have HF := hq' hf
  have HB := hq' hb
  have hflt : (L.filter (offU u)).length ≤ L.length := List.length_filter_le _ _
  have c0 : wc.cell? ⟨ub,0,none⟩ = some (.slice a L.length cp) := HU.out.c.cell 0
  have cf := HU.out.c.free 0
  have K5 : Keeps (fun j => j = ub) wc (wc.setCell ⟨ub,0,none⟩ (.slice ao (L.filter (offU u)).length co)) := Keeps.setCell _ _ _ _ rfl
  have HW5 : Hid (UbW w0 (wc.setCell ⟨ub,0,none⟩ (.slice ao (L.filter (offU u)).length co)) ub (.slice ao (L.filter (offU u)).length co) (L.filter (offU u))) := ⟨by
    have := HU.out.c.set 0 (.slice ao (L.filter (offU u)).length co)
    exact this,hs.kept K5 (fun j hj e => by have := hf j hj; have := HUL.out; have e2 : j = ub := e; omega),hu.g,fun j hj => by have := hf j hj; have := HUL.out; omega,hu.b.trans (K5.toBelow hu.b.size (fun j hj e => by have := hu.g; have e2 : j = ub := e; omega))⟩
  have HK5 : Hid (UbK ub (.slice a L.length cp) (.slice ao (L.filter (offU u)).length co) w (wc.setCell ⟨ub,0,none⟩ (.slice ao (L.filter (offU u)).length co))) :=
   ⟨(Keeps.below _ hb).trans (K5.mono fun j _ e => .inl e),fun j hj => .inr (hf j hj)⟩
  clear hu hs hf hb K5 H0
  generalize hfl : (L.filter (offU u)).length = fl at *
  have HFL2 := hq' hfl
  clear hfl
  have hs1 : -9223372036854775808 ≤ (L.length : Int) - (fl : Int) := by omega
  have hs2 : (L.length : Int) - (fl : Int) ≤ 9223372036854775807 := by omega
  go_wp2
  go_ret
  exact ⟨_,rfl,HW5.out,HK5.out⟩
structure EX (w0 w : World) (pb : Nat) (lv : Value) (ub : Nat) (uv : Value) (I : List Item) (L : List MX) (X : List (Nat × List Value × TypeId)) : Prop where
 h : BagW w w0.heap.size pb lv I
 u : UbW w0 w ub uv L
 pu : Apart pb lv ub
 pr : ∀ j,uv.ownBlock = some j → Apart pb lv j
 x : ∀ b ∈ X,Cl w b.1 b.2.1 b.2.2 ∧ Apart pb lv b.1 ∧ b.1 ≠ ub ∧ (∀ j,uv.ownBlock = some j → j ≠ b.1)
section
variable {w0 w w' : World} {pb ub : Nat} {lv lv' uv uv' : Value} {I I' : List Item} {L L' : List MX} {X : List (Nat × List Value × TypeId)}
theorem EX.below (h : EX w0 w pb lv ub uv I L X) (b : Below w.heap.size w w') : EX w0 w' pb lv ub uv I L X :=
 ⟨h.h.below b,h.u.below b,h.pu,h.pr,fun y hy => ⟨(h.x y hy).1.below b,(h.x y hy).2⟩⟩
theorem EX.bag (h : EX w0 w pb lv ub uv I L X) (hb : BagW w' w0.heap.size pb lv' I') (k : BagK pb lv lv' w w') : EX w0 w' pb lv' ub uv I' L X := by
 have hs := h.u.b.size
 refine ⟨hb,h.u.keep k.k (fun e => ?_) (fun j hj e => ?_) (fun j hj e => ?_),h.pu.next k h.u.c.lt,fun j hj => (h.pr j hj).next k (h.u.o.lt j hj).2,fun y hy => ?_⟩
 ·rcases e with e | e
  ·exact h.pu.b e.symm
  ·exact h.pu.n ub e rfl
 ·rcases e with e | e
  ·exact (h.pr j hj).b e.symm
  ·exact (h.pr j hj).n j e rfl
 ·rcases e with e | e
  ·have := h.h.b; omega
  ·have := (h.h.s.lt j e).1; omega
 ·obtain ⟨h1,h2,h3,h4⟩ := h.x y hy
  exact ⟨h2.cl k h1,h2.next k h1.lt,h3,h4⟩
theorem EX.ubag (h : EX w0 w pb lv ub uv I L X) (hu : UbW w0 w' ub uv' L') (k : UbK ub uv uv' w w') : EX w0 w' pb lv ub uv' I L' X := by
 refine ⟨h.h.keep k.k (fun e => ?_) (fun j hj e => ?_),hu,h.pu,fun j hj => ?_,fun y hy => ?_⟩
 ·rcases e with e | e
  ·exact h.pu.b e
  ·exact (h.pr pb e).b rfl
 ·rcases e with e | e
  ·exact h.pu.n j hj e
  ·exact (h.pr j e).n j hj rfl
 ·rcases k.n j hj with e | e
  ·exact h.pr j e
  ·exact h.h.apart e
 ·obtain ⟨h1,h2,h3,h4⟩ := h.x y hy
  refine ⟨h1.keep k.k (fun e => ?_),h2,h3,fun j hj => ?_⟩
  ·rcases e with e | e
   ·exact h3 e
   ·exact h4 _ e rfl
  ·rcases k.n j hj with e | e
   ·exact h4 j e
   ·have := h1.lt; omega
theorem EX.box {cs : List Value} {t : TypeId} (h : EX w0 w pb lv ub uv I L X) (hc : Cl w' w.heap.size cs t) (b : Below w.heap.size w w') : EX w0 w' pb lv ub uv I L ((w.heap.size,cs,t)::X) := by
 have h1 := h.below b
 refine ⟨h1.h,h1.u,h1.pu,h1.pr,fun y hy => ?_⟩
 rcases List.mem_cons.1 hy with rfl | hy
 ·exact ⟨hc,h.h.apart (Nat.le_refl _),by have := h.u.c.lt; simp only; omega,fun j hj => by have := (h.u.o.lt j hj).2; simp only; omega⟩
 ·exact h1.x y hy
theorem EX.drop {b : Nat × List Value × TypeId} (h : EX w0 w pb lv ub uv I L (b::X)) : EX w0 w pb lv ub uv I L X :=
 ⟨h.h,h.u,h.pu,h.pr,fun y hy => h.x y (List.mem_cons_of_mem _ hy)⟩
end
def exQ (w0 : World) (pb ub : Nat) (I : List Item) (L : List MX) (X : List (Nat × List Value × TypeId)) (W : World) : Prop := ∃ lv uv,EX w0 W pb lv ub uv I L X
def ExOk (w0 : World) (L : List MX) : Prop := L.length ≤ 256 ∧ ∀ x ∈ L,Wi.good x.m = true ∧ MxOk x ∧ MsgAt w0 x.m x.v
theorem ExOk.put {w0 : World} {L : List MX} {x : MX} (h : ExOk w0 L) (hg : Wi.good x.m = true) (ok : MxOk x) (hm : MsgAt w0 x.m x.v) (hl : L.length < 256) : ExOk w0 (L ++ [x]) := by
 refine ⟨by rw [List.length_append,List.length_singleton]; omega,fun y hy => ?_⟩
 rcases List.mem_append.1 hy with e | e
 ·exact h.2 y e
 ·rw [List.mem_singleton.1 e]; exact ⟨hg,ok,hm⟩
def putL (x : MX) (L : List MX) : List MX := if Wi.good x.m = true ∧ L.length < 256 then L ++ [x] else L
def putN (x : MX) (L : List MX) : Int := if Wi.good x.m = true then (if L.length < 256 then 0 else 11) else 1
theorem ex_put_b (w0 : World) (pb ub : Nat) (L : List MX) (X : List (Nat × List Value × TypeId)) (x : MX) (cs : List Value) (hcs : mxC x = cs) (hm : MsgAt w0 x.m x.v) (ok : MxOk x) (hw : Lw w0) (W : World) (h : exQ w0 pb ub (itsX L) L X W) :
  Calls Tryz.prog 10 #[.pointer (some ⟨pb,0,none⟩),.agg cs.toArray] W fun e w' => e = .returned (.int .i64 (putN x L)) ∧ exQ w0 pb ub (itsX (putL x L)) L X w' := by
 obtain ⟨lv,uv,h⟩ := h
 have hB := h.u.b.size
 cases hg : Wi.good x.m with
 | false =>
  refine (bagPut_bad x cs hcs w0.heap.size pb lv (itsX L) W h.h hB (hm.kept h.u.b) ok hg (hw.below h.u.b)).mono ?_
  rintro e w' ⟨rfl,hb,hbl⟩
  refine ⟨by simp [putN,hg],lv,uv,?_⟩
  rw [putL,if_neg (by simp [hg])]
  exact h.below hbl
 | true =>
  refine (bagPut_m x cs hcs w0.heap.size pb lv (itsX L) W h.h hB (hm.kept h.u.b) ok hg (hw.below h.u.b)).mono ?_
  rintro e w' ⟨rfl,lv',hb,hk⟩
  rw [itsX_len] at hb ⊢
  refine ⟨by simp [putN,hg],lv',uv,?_⟩
  by_cases hl : L.length < 256
  ·rw [if_pos hl,← itsX_snoc] at hb
   rw [putL,if_pos ⟨hg,hl⟩]
   exact h.bag hb hk
  ·rw [if_neg hl] at hb
   rw [putL,if_neg (by simp [hl])]
   exact h.bag hb hk
theorem ex_put_u (w0 : World) (pb ub : Nat) (I : List Item) (L : List MX) (X : List (Nat × List Value × TypeId)) (x : MX) (cs : List Value) (hcs : mxC x = cs) (hm : MsgAt w0 x.m x.v) (ok : MxOk x) (W : World) (h : exQ w0 pb ub I L X W) :
  Calls Tryz.prog 11 #[.pointer (some ⟨ub,0,none⟩),.agg cs.toArray] W fun e w' => e = .returned (.int .i64 (putN x L)) ∧ exQ w0 pb ub I (putL x L) X w' := by
 obtain ⟨lv,uv,h⟩ := h
 cases hg : Wi.good x.m with
 | false =>
  refine (ubPut_bad x cs hcs w0 W ub uv L h.u (hm.kept h.u.b) ok hg).mono ?_
  rintro e w' ⟨uv',rfl,hu,hk⟩
  refine ⟨by simp [putN,hg],lv,uv',?_⟩
  rw [putL,if_neg (by simp [hg])]
  exact h.ubag hu hk
 | true =>
  by_cases hl : L.length < 256
  ·refine (ubPut_yes x cs hcs w0 W ub uv L h.u (hm.kept h.u.b) ok hg hl).mono ?_
   rintro e w' ⟨uv',rfl,hu,hk⟩
   refine ⟨by simp [putN,hg,hl],lv,uv',?_⟩
   rw [putL,if_pos ⟨hg,hl⟩]
   exact h.ubag hu hk
  ·refine (ubPut_full x cs hcs w0 W ub uv L h.u (hm.kept h.u.b) ok hg (by omega)).mono ?_
   rintro e w' ⟨uv',rfl,hu,hk⟩
   refine ⟨by simp [putN,hg,hl],lv,uv',?_⟩
   rw [putL,if_neg (by simp [hl])]
   exact h.ubag hu hk
theorem putL_ok {w0 : World} {L : List MX} {x : MX} (h : ExOk w0 L) (ok : MxOk x) (hm : MsgAt w0 x.m x.v) : ExOk w0 (putL x L) := by
 unfold putL
 split
 ·rename_i hc; exact h.put hc.1 ok hm hc.2
 ·exact h
/-! ### Copy -/
def copyL (n : Int) (L : List MX) : List MX := if 0 ≤ n ∧ n < L.length ∧ L.length < 256 then L ++ (L.drop n.toNat).take 1 else L
def copyB (n : Int) (L : List MX) : Bool := decide (0 ≤ n ∧ n < L.length ∧ L.length < 256)
theorem drop_one {α : Type} {L : List α} {k : Nat} {x : α} (h : L[k]? = some x) : (L.drop k).take 1 = [x] := by
 obtain ⟨hk,rfl⟩ := List.getElem?_eq_some_iff.1 h
 rw [List.drop_eq_getElem_cons hk]
 rfl
theorem itsX_at {L : List MX} {k : Nat} {x : MX} (h : L[k]? = some x) : (itsX L)[k]? = some (mIt x.m) := by simp [itsX,h]
theorem ex_copy_b (w0 : World) (pb ub : Nat) (L : List MX) (X : List (Nat × List Value × TypeId)) (n : Int) (hl : L.length ≤ 256) (W : World) (h : exQ w0 pb ub (itsX L) L X W) :
  Calls Tryz.prog 15 #[.pointer (some ⟨pb,0,none⟩),.int .i64 n] W fun e w' => e = .returned (.bool (copyB n L)) ∧ exQ w0 pb ub (itsX (copyL n L)) L X w' := by
 obtain ⟨lv,uv,h⟩ := h
 have hB := h.u.b.size
 by_cases hn : 0 ≤ n ∧ n < L.length
 ·by_cases hf : L.length < 256
  ·obtain ⟨k,rfl⟩ : ∃ k : Nat,n = (k : Int) := ⟨n.toNat,by omega⟩
   obtain ⟨x,hx⟩ : ∃ x,L[k]? = some x := ⟨L[k]'(by omega),List.getElem?_eq_getElem (by omega)⟩
   refine (bagCopy_any w0.heap.size pb lv (itsX L) k _ (itsX_at hx) (by rw [itsX_len]; exact hf) W h.h hB).mono ?_
   rintro e w' ⟨rfl,lv',hb,hk⟩
   refine ⟨by simp [copyB]; omega,lv',uv,?_⟩
   rw [copyL,if_pos ⟨hn.1,hn.2,hf⟩,Int.toNat_natCast,drop_one hx,itsX_snoc]
   exact h.bag hb hk
  ·refine (bagCopy_full w0.heap.size pb lv (itsX L) n (by rw [itsX_len]; omega) W h.h).mono ?_
   rintro e w' ⟨rfl,rfl⟩
   refine ⟨by simp [copyB,hf],lv,uv,?_⟩
   rw [copyL,if_neg (by simp [hf])]
   exact h
 ·refine (bagCopy_no w0.heap.size pb lv (itsX L) n (by rw [itsX_len]; exact hn) W h.h).mono ?_
  rintro e w' ⟨rfl,rfl⟩
  refine ⟨by simp [copyB]; omega,lv,uv,?_⟩
  rw [copyL,if_neg (by omega)]
  exact h
theorem ex_copy_u (w0 : World) (pb ub : Nat) (I : List Item) (L : List MX) (X : List (Nat × List Value × TypeId)) (n : Int) (hl : ExOk w0 L) (W : World) (h : exQ w0 pb ub I L X W) :
  Calls Tryz.prog 16 #[.pointer (some ⟨ub,0,none⟩),.int .i64 n] W fun e w' => e = .returned (.bool (copyB n L)) ∧ exQ w0 pb ub I (copyL n L) X w' := by
 obtain ⟨lv,uv,h⟩ := h
 by_cases hn : 0 ≤ n ∧ n < L.length
 ·by_cases hf : L.length < 256
  ·obtain ⟨k,rfl⟩ : ∃ k : Nat,n = (k : Int) := ⟨n.toNat,by omega⟩
   obtain ⟨x,hx⟩ : ∃ x,L[k]? = some x := ⟨L[k]'(by omega),List.getElem?_eq_getElem (by omega)⟩
   refine (ubCopy_any w0 W ub uv L k h.u hl.1 k x rfl hx ((hl.2 x (List.mem_of_getElem? hx)).2.2.kept h.u.b) hf).mono ?_
   rintro e w' ⟨uv',rfl,hu,hk⟩
   refine ⟨by simp [copyB]; omega,lv,uv',?_⟩
   rw [copyL,if_pos ⟨hn.1,hn.2,hf⟩,Int.toNat_natCast,drop_one hx]
   exact h.ubag hu hk
  ·refine (ubCopy_full w0 W ub uv L n h.u hl.1 (by have := hl.1; omega) hn).mono ?_
   rintro e w' ⟨uv',rfl,hu,hk⟩
   refine ⟨by simp [copyB,hf],lv,uv',?_⟩
   rw [copyL,if_neg (by simp [hf])]
   exact h.ubag hu hk
 ·refine (ubCopy_no w0 W ub uv L n h.u hl.1 hn).mono ?_
  rintro e w' ⟨uv',rfl,hu,hk⟩
  refine ⟨by simp [copyB]; omega,lv,uv',?_⟩
  rw [copyL,if_neg (by omega)]
  exact h.ubag hu hk
theorem copyL_ok {w0 : World} {L : List MX} {n : Int} (h : ExOk w0 L) : ExOk w0 (copyL n L) := by
 unfold copyL
 split
 ·rename_i hc
  obtain ⟨k,rfl⟩ : ∃ k : Nat,n = (k : Int) := ⟨n.toNat,by omega⟩
  obtain ⟨x,hx⟩ : ∃ x,L[k]? = some x := ⟨L[k]'(by omega),List.getElem?_eq_getElem (by omega)⟩
  rw [Int.toNat_natCast,drop_one hx]
  obtain ⟨h1,h2,h3⟩ := h.2 x (List.mem_of_getElem? hx)
  exact h.put h1 h2 h3 hc.2.2
 ·exact h
/-! ### Clear -/
theorem itsX_filter (u : Int) (L : List MX) : (itsX L).filter (fun x => !toU u x) = itsX (L.filter (offU u)) := by
 unfold itsX
 rw [List.filter_map]
 rfl
theorem ex_clear_b (w0 : World) (pb ub : Nat) (L : List MX) (X : List (Nat × List Value × TypeId)) (u : Int) (W : World) (h : exQ w0 pb ub (itsX L) L X W) :
  Calls Tryz.prog 17 #[.pointer (some ⟨pb,0,none⟩),.int .i64 u] W fun e w' => e = .returned (.int .i64 ((L.length : Int) - ((L.filter (offU u)).length : Int))) ∧ exQ w0 pb ub (itsX (L.filter (offU u))) L X w' := by
 obtain ⟨lv,uv,h⟩ := h
 have hB := h.u.b.size
 refine (bagClear_any w0.heap.size pb lv (itsX L) u W h.h hB).mono ?_
 rintro e w' ⟨rfl,lv',hb,hk⟩
 rw [itsX_filter] at hb ⊢
 rw [itsX_len,itsX_len]
 exact ⟨rfl,lv',uv,h.bag hb hk⟩
theorem ex_clear_u (w0 : World) (pb ub : Nat) (I : List Item) (L : List MX) (X : List (Nat × List Value × TypeId)) (u : Int) (hl : ExOk w0 L) (W : World) (h : exQ w0 pb ub I L X W) :
  Calls Tryz.prog 18 #[.pointer (some ⟨ub,0,none⟩),.int .i64 u] W fun e w' => e = .returned (.int .i64 ((L.length : Int) - ((L.filter (offU u)).length : Int))) ∧ exQ w0 pb ub I (L.filter (offU u)) X w' := by
 obtain ⟨lv,uv,h⟩ := h
 refine (ubClear_any w0 W ub uv L u h.u hl.1 (fun y hy => (hl.2 y hy).2.2)).mono ?_
 rintro e w' ⟨uv',rfl,hu,hk⟩
 exact ⟨rfl,lv,uv',h.ubag hu hk⟩
theorem clear_ok {w0 : World} {L : List MX} {u : Int} (h : ExOk w0 L) : ExOk w0 (L.filter (offU u)) :=
 ⟨Nat.le_trans (List.length_filter_le _ _) h.1,fun x hx => h.2 x (List.mem_filter.1 hx).1⟩
theorem erase_ok {w0 : World} {L : List MX} {k : Nat} (h : ExOk w0 L) : ExOk w0 (L.eraseIdx k) :=
 ⟨Nat.le_trans (List.length_eraseIdx_le _ _) h.1,fun x hx => h.2 x (List.mem_of_mem_eraseIdx hx)⟩
theorem exQ.cl {w0 W : World} {pb ub : Nat} {I : List Item} {L : List MX} {X : List (Nat × List Value × TypeId)} (h : exQ w0 pb ub I L X W) {b : Nat} {cs : List Value} {t : TypeId} (hy : (b,cs,t) ∈ X) : Cl W b cs t := by
 obtain ⟨_,_,h⟩ := h
 exact (h.x _ hy).1
theorem exQ.below {w0 W W' : World} {pb ub : Nat} {I : List Item} {L : List MX} {X : List (Nat × List Value × TypeId)} (h : exQ w0 pb ub I L X W) (b : Below W.heap.size W W') : exQ w0 pb ub I L X W' := by
 obtain ⟨lv,uv,h⟩ := h
 exact ⟨lv,uv,h.below b⟩
theorem exQ.bel {w0 W : World} {pb ub : Nat} {I : List Item} {L : List MX} {X : List (Nat × List Value × TypeId)} (h : exQ w0 pb ub I L X W) : Below w0.heap.size w0 W := by
 obtain ⟨_,_,h⟩ := h
 exact h.u.b
def exC (i1 i2 : Nat) (Q0 Q1 Q2 : World → Prop) (L : Array Bool) (W : World) : Prop := if L.getD i2 false then Q2 W else if L.getD i1 false then Q1 W else Q0 W
section
variable {i1 i2 : Nat} {Q0 Q1 Q2 : World → Prop} {W W' : World} {L : Array Bool}
theorem exC.set {i : Nat} (h : exC i1 i2 Q0 Q1 Q2 L W) (h1 : i ≠ i1) (h2 : i ≠ i2) : exC i1 i2 Q0 Q1 Q2 (L.setIfInBounds i true) W := by
 unfold exC at *
 rw [getD_set_ne false h1,getD_set_ne false h2]
 exact h
theorem exC.any (h : exC i1 i2 Q0 Q1 Q2 L W) : Q0 W ∨ Q1 W ∨ Q2 W := by
 unfold exC at h
 split at h
 ·exact .inr (.inr h)
 ·split at h
  ·exact .inr (.inl h)
  ·exact .inl h
theorem exC.zero (h : exC i1 i2 Q0 Q1 Q2 L W) (e1 : L.getD i1 false = false) (e2 : L.getD i2 false = false) : Q0 W := by
 unfold exC at h
 rw [e1,e2] at h
 exact h
theorem exC.one (h : exC i1 i2 Q0 Q1 Q2 L W) (e1 : L.getD i1 false = true) (e2 : L.getD i2 false = false) : Q1 W := by
 unfold exC at h
 rw [e1,e2] at h
 exact h
theorem exC.at1 (hs : i1 < L.size) (n : i1 ≠ i2) (e2 : L.getD i2 false = false) (h : Q1 W) : exC i1 i2 Q0 Q1 Q2 (L.setIfInBounds i1 true) W := by
 unfold exC
 rw [getD_set_ne false n,e2]
 simp [hs,h]
theorem exC.at2 (hs : i2 < L.size) (h : Q2 W) : exC i1 i2 Q0 Q1 Q2 (L.setIfInBounds i2 true) W := by
 unfold exC
 simp [hs,h]
end
theorem exec_call2 (a : Act) (w : World) (o : Oper) (f : FuncId) (k l : Nat) (x y : Value) (ts : Array TypeId) (ho : o.op = .call { callee := .value (.func f),args := #[.tmp k,.tmp l],argTypes := ts }) (hf : a.eval (.func f) = .func (.func f) #[] #[]) (h : a.eval (.tmp k) = x) (h2 : a.eval (.tmp l) = y) (he : (callFunc f #[x,y]).run Tryz.prog w = .ok (.enter f #[x,y]) w) :
  (execOp a.eval o).run Tryz.prog w = .ok (.enter f #[x,y]) w := by
 generalize a.eval = ev at *
 unfold execOp
 rw [ho]
 go_simp
/-! ### Take of both, told in one way -/
def tkX (n : Int) (L : List MX) : Option MX := if 0 ≤ n ∧ n < L.length then L[n.toNat]? else none
def tkM (n : Int) (L : List MX) : MX := (tkX n L).getD mxZ
def tkB (n : Int) (L : List MX) : Bool := (tkX n L).isSome
def tkL (n : Int) (L : List MX) : List MX := if (tkX n L).isSome then L.eraseIdx n.toNat else L
theorem zero_own (W : World) (B : Nat) : MsgO W B Wi.zMsg zeroV := ⟨own_nil _ _ _ _,own_nil _ _ _ _,own_nil _ _ _ _,tab_nil _ _,own_nil _ _ _ _,own_nil _ _ _ _,own_nil _ _ _ _⟩
theorem bagTake_o (B pb : Nat) (lv : Value) (l : List Item) (k : Nat) (m : Wi.Msg) (hx : l[k]? = some (mIt m)) (hg : Wi.good m = true) (w : World) (h : BagW w B pb lv l) (hB : B ≤ w.heap.size) (hw : Lw w) :
  Calls Tryz.prog 12 #[.pointer (some ⟨pb,0,none⟩),.int .i64 k] w fun e w' => ∃ v lv',e = .returned (.tuple #[.agg (msgC m v).toArray,.bool true]) ∧ MsgO w' w.heap.size m v ∧ MsgOk m ∧ BagW w' B pb lv' (l.eraseIdx k) ∧ BagK pb lv lv' w w' := by
 refine (bagTake_any B pb lv l k _ hx (fun cs b => ∃ v,cs = msgC m v ∧ MsgO b w.heap.size m v ∧ MsgOk m) w h hB (fun W hW => ?_)).mono ?_
 ·have hl := Wi.enc_le hg
  have hp := Frm.put_length (Wi.enc m)
  have := wdecode_any (Frm.put (Wi.enc m)) (by omega) W (hw.below hW)
  rw [decM_put hg] at this
  refine this.mono ?_
  rintro e w' ⟨v,rfl,hmo,hok,hb⟩
  simp only [Option.getD_some] at hmo hok
  have hone := msg_one hmo.at
  refine ⟨msgC m v,rfl,rfl,by simpa using hone,hb,fun S b hk hs => ⟨v,rfl,?_,hok⟩⟩
  exact (hmo.keepsS (S := fun j => S j ∧ j < w'.heap.size) (hk.mono (fun j hj e => ⟨e,hj⟩)) (fun j hj e => hs j hj e.2 e.1)).weaken hW.size
 ·rintro e w' ⟨cs,lv',rfl,⟨v,rfl,h1,h2⟩,h3,h4⟩
  exact ⟨v,lv',rfl,h1,h2,h3,h4⟩
theorem tk_in {n : Int} {L : List MX} (h : 0 ≤ n ∧ n < L.length) : ∃ (k : Nat) (x : MX),n = (k : Int) ∧ L[k]? = some x ∧ tkM n L = x ∧ tkB n L = true ∧ tkL n L = L.eraseIdx k := by
 obtain ⟨k,rfl⟩ : ∃ k : Nat,n = (k : Int) := ⟨n.toNat,by omega⟩
 obtain ⟨x,hx⟩ : ∃ x,L[k]? = some x := ⟨L[k]'(by omega),List.getElem?_eq_getElem (by omega)⟩
 have e : tkX (k : Int) L = some x := by rw [tkX,if_pos h,Int.toNat_natCast,hx]
 exact ⟨k,x,rfl,hx,by rw [tkM,e]; rfl,by rw [tkB,e]; rfl,by rw [tkL,e,Int.toNat_natCast]; rfl⟩
theorem tk_out {n : Int} {L : List MX} (h : ¬ (0 ≤ n ∧ n < L.length)) : tkM n L = mxZ ∧ tkB n L = false ∧ tkL n L = L := by
 have e : tkX n L = none := by rw [tkX,if_neg h]
 exact ⟨by rw [tkM,e]; rfl,by rw [tkB,e]; rfl,by rw [tkL,e]; rfl⟩
theorem ex_tk_b (w0 : World) (pb ub : Nat) (L : List MX) (X : List (Nat × List Value × TypeId)) (n : Int) (hl : ExOk w0 L) (hw : Lw w0) (W : World) (h : exQ w0 pb ub (itsX L) L X W) :
  Calls Tryz.prog 12 #[.pointer (some ⟨pb,0,none⟩),.int .i64 n] W fun e w' => ∃ v,e = .returned (.tuple #[.agg (msgC (tkM n L).m v).toArray,.bool (tkB n L)]) ∧ MsgO w' W.heap.size (tkM n L).m v ∧ MsgOk (tkM n L).m ∧
   ∃ lv uv,EX w0 w' pb lv ub uv (itsX (tkL n L)) L X ∧ ub < W.heap.size ∧ ∀ j,uv.ownBlock = some j → j < W.heap.size := by
 obtain ⟨lv,uv,h⟩ := h
 have hB := h.u.b.size
 by_cases hn : 0 ≤ n ∧ n < L.length
 ·obtain ⟨k,x,rfl,hx,e1,e2,e3⟩ := tk_in hn
  rw [e1,e2,e3]
  refine (bagTake_o w0.heap.size pb lv (itsX L) k x.m (itsX_at hx) (hl.2 x (List.mem_of_getElem? hx)).1 W h.h hB (hw.below h.u.b)).mono ?_
  rintro e w' ⟨v,lv',rfl,h1,h2,hb,hk⟩
  rw [itsX_erase] at hb
  exact ⟨v,rfl,h1,h2,lv',uv,h.bag hb hk,h.u.c.lt,fun j hj => (h.u.o.lt j hj).2⟩
 ·obtain ⟨e1,e2,e3⟩ := tk_out hn
  rw [e1,e2,e3]
  refine (bagTake_no w0.heap.size pb lv (itsX L) n (by rw [itsX_len]; exact hn) W h.h).mono ?_
  rintro e w' ⟨rfl,hb,hbl⟩
  exact ⟨zeroV,rfl,zero_own _ _,zMsg_ok,lv,uv,h.below hbl,h.u.c.lt,fun j hj => (h.u.o.lt j hj).2⟩
theorem ex_tk_u (w0 : World) (pb ub : Nat) (I : List Item) (L : List MX) (X : List (Nat × List Value × TypeId)) (n : Int) (hl : ExOk w0 L) (lv uv : Value) (W : World) (h : EX w0 W pb lv ub uv I L X) :
  Calls Tryz.prog 13 #[.pointer (some ⟨ub,0,none⟩),.int .i64 n] W fun e w' => e = .returned (.tuple #[.agg (msgC (tkM n L).m (tkM n L).v).toArray,.bool (tkB n L)]) ∧ exQ w0 pb ub I (tkL n L) X w' ∧ Keeps (fun j => j = ub ∨ uv.ownBlock = some j) W w' := by
 by_cases hn : 0 ≤ n ∧ n < L.length
 ·obtain ⟨k,x,rfl,hx,e1,e2,e3⟩ := tk_in hn
  rw [e1,e2,e3]
  refine (ubTake_any w0 W ub uv L k h.u hl.1 k x rfl hx (fun y hy => (hl.2 y hy).2.2)).mono ?_
  rintro e w' ⟨uv',rfl,hu,hk⟩
  exact ⟨rfl,⟨lv,uv',h.ubag hu hk⟩,hk.k⟩
 ·obtain ⟨e1,e2,e3⟩ := tk_out hn
  rw [e1,e2,e3]
  refine (ubTake_no w0 W ub uv L n h.u hl.1 hn).mono ?_
  rintro e w' ⟨uv',rfl,hu,hk⟩
  exact ⟨rfl,⟨lv,uv',h.ubag hu hk⟩,hk.k⟩
theorem tkM_at {w0 : World} {n : Int} {L : List MX} (h : ExOk w0 L) : MsgAt w0 (tkM n L).m (tkM n L).v := by
 by_cases hn : 0 ≤ n ∧ n < L.length
 ·obtain ⟨k,x,_,hx,e1,_,_⟩ := tk_in hn
  rw [e1]; exact (h.2 x (List.mem_of_getElem? hx)).2.2
 ·rw [(tk_out hn).1]; exact (zero_own w0 0).at
theorem tkL_ok {w0 : World} {n : Int} {L : List MX} (h : ExOk w0 L) : ExOk w0 (tkL n L) := by
 by_cases hn : 0 ≤ n ∧ n < L.length
 ·obtain ⟨k,x,_,hx,_,_,e3⟩ := tk_in hn
  rw [e3]; exact erase_ok h
 ·rw [(tk_out hn).2.2]; exact h
theorem exQ.drop {w0 W : World} {pb ub : Nat} {I : List Item} {L : List MX} {b : Nat × List Value × TypeId} {X : List (Nat × List Value × TypeId)} (h : exQ w0 pb ub I L (b::X) W) : exQ w0 pb ub I L X W := by
 obtain ⟨lv,uv,h⟩ := h
 exact ⟨lv,uv,h.drop⟩
theorem exQ.box {w0 W W' : World} {pb ub : Nat} {I : List Item} {L : List MX} {X : List (Nat × List Value × TypeId)} {cs : List Value} {t : TypeId} (h : exQ w0 pb ub I L X W) (hc : Cl W' W.heap.size cs t) (b : Below W.heap.size W W') : exQ w0 pb ub I L ((W.heap.size,cs,t)::X) W' := by
 obtain ⟨lv,uv,h⟩ := h
 exact ⟨lv,uv,h.box hc b⟩
theorem Sl.at {w : World} {B : Nat} {v : Value} {n : Nat} {xs : List Value} {size : Nat} (h : Sl w B size v n xs) (hn : 0 < n) : ∃ g off cap,v = .slice (some ⟨g,off,none⟩) n cap ∧ g < w.heap.size ∧ ∀ j u,xs[j]? = some u → w.cell? ⟨g,off + j,none⟩ = some u := by
 rcases h.2 with ⟨rfl,h0⟩ | ⟨g,off,cap,rfl,hB,hg,hc,hm,hr,ht⟩
 ·omega
 ·exact ⟨g,off,cap,rfl,hg,hr⟩
def md (x : Int) : Int := (IntKind.u64.wrap x).tmod 6
def wantV (l : List Nat) : List Value := l.map (fun i : Nat => Value.int .i64 (i : Int))
structure CsW (w0 w : World) (pb : Nat) (lv wv : Value) (items : List Item) (want : List Nat) : Prop where
 h : BagW w w0.heap.size pb lv items
 s : Sl w w0.heap.size 1 wv want.length (wantV want)
 ap : ∀ j,wv.ownBlock = some j → Apart pb lv j
 bel : Below w0.heap.size w0 w
theorem CsW.below {w0 w w' : World} {pb : Nat} {lv wv : Value} {items : List Item} {want : List Nat} (c : CsW w0 w pb lv wv items want) (b : Below w.heap.size w w') : CsW w0 w' pb lv wv items want :=
 ⟨c.h.below b,c.s.kept (Keeps.below (fun _ => False) b) (fun _ _ => id),c.ap,bt c.bel b⟩
theorem CsW.bag {w0 w w' : World} {pb : Nat} {lv lv' wv : Value} {items items' : List Item} {want : List Nat} (c : CsW w0 w pb lv wv items want) (h : BagW w' w0.heap.size pb lv' items') (k : BagK pb lv lv' w w') : CsW w0 w' pb lv' wv items' want :=
 ⟨h,c.s.kept k.k (fun j hj e => by
  rcases e with e | e
  ·exact (c.ap j hj).b e.symm
  ·exact (c.ap j hj).n j e rfl),fun j hj => (c.ap j hj).next k (c.s.lt j hj).2,c.bel.trans (k.below c.h c.bel.size)⟩
theorem CsW.add {w0 w w1 w' : World} {pb : Nat} {lv wv wv' : Value} {items : List Item} {want : List Nat} {x : Nat} (c : CsW w0 w pb lv wv items want) (b : Below w.heap.size w w1) (s : Sl w' w0.heap.size 1 wv' (want.length + 1) (wantV want ++ [.int .i64 (x : Int)]))
  (g : w1.grownBy w' wv.ownBlock) (n : wv'.ownBlock = wv.ownBlock ∨ ∀ j,wv'.ownBlock = some j → w1.heap.size ≤ j) : CsW w0 w' pb lv wv' items (want ++ [x]) := by
 have k1 : Keeps (fun j => wv.ownBlock = some j) w w' := (Keeps.below _ b).trans (Keeps.grown g (fun j hj => hj))
 refine ⟨c.h.keep k1 (fun e => (c.ap pb e).b rfl) (fun j hj e => (c.ap j e).n j hj rfl),?_,fun j hj => ?_,c.bel.trans (k1.toBelow c.bel.size (fun j hj e => by have := (c.s.lt j e).1; omega))⟩
 ·have e : wantV (want ++ [x]) = wantV want ++ [.int .i64 (x : Int)] := by simp [wantV]
  rw [e,List.length_append]
  exact s
 ·rcases n with e | e
  ·exact c.ap j (e ▸ hj)
  ·exact c.h.apart (Nat.le_trans b.size (e j hj))
end Go.Proofs.YtbljbdjmgogknaaGreatDoor
