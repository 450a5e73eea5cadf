/-
  Hh: texts of one proof, one behind the other.
  Conditions: none of its own.
-/
import Derived.Test.YtbljbdjmgogknaaGreatDoorZbw
set_option linter.unusedVariables false
set_option linter.unusedSimpArgs false
namespace Go.Proofs.YtbljbdjmgogknaaGreatDoor
open Go.ChangeShapes Go.WideShapes Go.ChangeAt Go.RowKit
set_option maxRecDepth 100000 in
theorem open_actK1 {W : World} {b0 fuel : Nat} {H : Type} {enc : TypeId × Value → H} {spare : Nat → Bool} {held : Bool} {cs : List Value} {x : DataW H × List MemPlace}
  (h : DataW.trod enc Tryz.prog W b0 spare held fuel 46 cs = some x) : ∃ x : ActX,cs = actC x ∧ MsgAt W x.m x.v ∧ ActK x := by
 obtain ⟨y0,y1,y2,m,_,hcl,h0,h1,h2⟩ := Go.Deep.trod_struct3 Tryz.underlying46 h
 rw [cAct] at hcl
 simp [cInt,cMsg] at h0 h1 h2
 obtain ⟨n0,e0,_,w0⟩ := DataW.trod_int Tryz.underlying3 h0
 obtain ⟨n2,e2,_,w2⟩ := DataW.trod_int Tryz.underlying3 h2
 obtain ⟨mm,mv,e1,hm,ho,hcap⟩ := open_msgK h1
 have e : cs = actC ⟨n0,mm,mv,n2⟩ := by
  obtain ⟨c0,t,rfl,ht⟩ := list_cons hcl
  simp at e0 e1 e2
  have k2 : t = t.take 38 ++ t.drop 38 := (List.take_append_drop 38 _).symm
  have k3 : (t.drop 38).take 1 = t.drop 38 := List.take_of_length_le (by simp; omega)
  rw [e0,actC,k2,e1,← k3,e2]
 refine ⟨⟨n0,mm,mv,n2⟩,e,hm,⟨ho,inR_wf w0,inR_wf w2,?_⟩,hcap⟩
 have := msg_one hm
 simp only [actC,List.all_cons,List.all_append,List.all_nil,Bool.and_true,Bool.and_eq_true,List.all_eq_true]
 exact ⟨rfl,this,rfl⟩
set_option maxRecDepth 100000 in
theorem open_actsK {W : World} {r : Reach} {base b0 : Nat} {H : Type} {enc : TypeId × Value → H} {spare : Nat → Bool} {held : Bool} {v : Value} {d : DataW H} {p : List MemPlace}
  (h : DataW.Trod enc Tryz.prog W b0 spare held 22 v d p) (hv : Value.okWide Tryz.prog W r base 22 v) : ∃ l,ActsAt W v l ∧ l.length ≤ maxLen ∧ ∀ x ∈ l,ActK x := by
 obtain ⟨a,len,cap,rfl,hl,hm,h0,h1,hel⟩ := slice_open Tryz.underlying22 hv h
 rw [cAct] at hel
 obtain ⟨zs,hz,hzs⟩ := list_of (⟨0,Wi.zMsg,zeroV,0⟩ : ActX) (fun i (x : ActX) => (∃ g off,a = some ⟨g,off,none⟩ ∧ g < W.heap.size ∧ W.rangeAt g (off + i * 40) (actC x) ∧ MsgAt W x.m x.v) ∧ ActK x) (n := len) (fun i hi => by
   obtain ⟨b,off,cs,n,y,rfl,hlt,hcl,hc,ht⟩ := hel i hi
   obtain ⟨x,rfl,hx,ho⟩ := open_actK1 ht
   exact ⟨x,⟨b,off,rfl,hlt,fun j u hu => (hc j (by have := (List.getElem?_eq_some_iff.1 hu).1; rwa [actC_len] at this)).trans hu,hx⟩,ho⟩)
 subst hz
 have hat : ∀ i x,zs[i]? = some x → i < zs.length ∧ zs.getD i ⟨0,Wi.zMsg,zeroV,0⟩ = x := fun i x h => by
  obtain ⟨hi,rfl⟩ := List.getElem?_eq_some_iff.1 h
  exact ⟨hi,by simp [List.getD,hi]⟩
 refine ⟨zs,⟨a,cap,rfl,fun i x hx => ?_⟩,Nat.le_trans hl hm,fun x hx => ?_⟩
 ·obtain ⟨hi,rfl⟩ := hat i x hx
  exact (hzs i hi).1
 ·obtain ⟨i,hi⟩ := List.getElem?_of_mem hx
  obtain ⟨hi2,rfl⟩ := hat i x hi
  exact (hzs i hi2).2
end Go.Proofs.YtbljbdjmgogknaaGreatDoor
