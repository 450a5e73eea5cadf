/-
  Wv: texts of one proof, one behind the other.
  Conditions: none of its own.
-/
import Derived.Test.YtbljbdjmgogknaaGreatDoorZac
import Derived.Test.YtbljbdjmgogknaaGreatDoorZam
set_option linter.unusedVariables false
set_option linter.unusedSimpArgs false
namespace Go.Proofs.YtbljbdjmgogknaaGreatDoor
open Go.ChangeShapes Go.WideShapes Go.ChangeAt Go.RowKit
theorem cLife : Tryz.prog.cellsOf 90 = 2 := by kernel_rfl
theorem cSlot : Tryz.prog.cellsOf 109 = 3 := by kernel_rfl
theorem cSeen : Tryz.prog.cellsOf 70 = 2 := by kernel_rfl
theorem cPart : Tryz.prog.cellsOf 32 = 3 := by kernel_rfl
theorem cReq : Tryz.prog.cellsOf 39 = 11 := by kernel_rfl
theorem cResp : Tryz.prog.cellsOf 42 = 8 := by kernel_rfl
theorem cMsg : Tryz.prog.cellsOf 44 = 38 := by kernel_rfl
theorem cErr : Tryz.prog.cellsOf 40 = 1 := by kernel_rfl
theorem cInts : Tryz.prog.cellsOf 30 = 1 := by kernel_rfl
theorem cLives : Tryz.prog.cellsOf 33 = 1 := by kernel_rfl
theorem cSlots : Tryz.prog.cellsOf 68 = 1 := by kernel_rfl
theorem cTab : Tryz.prog.cellsOf 37 = 1 := by kernel_rfl
theorem list_cons {α : Type} {n : Nat} {l : List α} (h : l.length = n + 1) : ∃ a t,l = a::t ∧ t.length = n := by
 cases l with
 | nil => simp at h
 | cons a t => exact ⟨a,t,rfl,by simpa using h⟩
set_option maxRecDepth 100000 in
theorem open_intsT {W : World} {b0 fuel : Nat} {H : Type} {enc : TypeId × Value → H} {spare : Nat → Bool} {held : Bool} {cs : List Value} {x : DataW H × List MemPlace}
  (h : DataW.trod enc Tryz.prog W b0 spare held fuel 30 cs = some x) : ∃ v zs,cs = [v] ∧ Ints W v zs ∧ zs.length ≤ maxLen ∧ ∀ x ∈ zs,Bd.inR x := by
 obtain ⟨a,len,cap,rfl,hl,hm,h0,hel⟩ := slice_trod Tryz.underlying30 (by rw [cInt]; decide) h
 rw [cInt] at hel
 obtain ⟨zs,hz,hzs⟩ := list_of (0 : Int) (fun i (x : Int) => (∃ g off,a = some ⟨g,off,none⟩ ∧ g < W.heap.size ∧ W.cell? ⟨g,off + i,none⟩ = some (.int .i64 x)) ∧ Bd.inR x) (n := len) (fun i hi => by
   obtain ⟨b,off,cs,n,y,rfl,hlt,hcl,hc,ht⟩ := hel i hi
   obtain ⟨n0,e0,_,w0⟩ := DataW.trod_int Tryz.underlying3 ht
   subst e0
   exact ⟨n0,⟨b,off,rfl,hlt,by simpa using hc 0 (by omega)⟩,inR_wf w0⟩)
 subst hz
 refine ⟨_,zs,rfl,⟨a,cap,rfl,fun i hi => (hzs i hi).1⟩,Nat.le_trans hl hm,fun x hx => ?_⟩
 obtain ⟨i,hi⟩ := List.getElem?_of_mem hx
 obtain ⟨hi2,rfl⟩ := List.getElem?_eq_some_iff.1 hi
 have := (hzs i hi2).2
 simpa [List.getD,hi2] using this
set_option maxRecDepth 100000 in
theorem open_lives1 {W : World} {b0 fuel : Nat} {H : Type} {enc : TypeId × Value → H} {spare : Nat → Bool} {held : Bool} {cs : List Value} {x : DataW H × List MemPlace}
  (h : DataW.trod enc Tryz.prog W b0 spare held fuel 90 cs = some x) : ∃ x : Int × Int,(Bd.inR x.1 ∧ Bd.inR x.2) ∧ cs = lifeC x := by
 obtain ⟨xs,n,_,_,hcl,hxl,hfd⟩ := DataW.trod_struct Tryz.underlying90 h
 rw [cLife] at hcl
 match xs,hxl,cs,hcl with
 | [x0,x1],_,[c0,c1],_ =>
  have g0 := hfd 0 _ rfl
  have g1 := hfd 1 _ rfl
  simp [cInt,cStr,cRecs,cErr,cInts,cLives,cSlots,cTab,cPart,cBat,cReq,cResp] at g0 g1
  obtain ⟨n0,e0,_,w0⟩ := DataW.trod_int Tryz.underlying3 g0
  obtain ⟨n1,e1,_,w1⟩ := DataW.trod_int Tryz.underlying3 g1
  simp [wreqC,wrespC] at e0 e1
  subst e0 e1
  exact ⟨(n0,n1),⟨inR_wf w0,inR_wf w1⟩,rfl⟩
set_option maxRecDepth 100000 in
theorem open_livesT {W : World} {b0 fuel : Nat} {H : Type} {enc : TypeId × Value → H} {spare : Nat → Bool} {held : Bool} {cs : List Value} {x : DataW H × List MemPlace}
  (h : DataW.trod enc Tryz.prog W b0 spare held fuel 33 cs = some x) : ∃ v l,cs = [v] ∧ Rw 2 lifeC W v l ∧ l.length ≤ maxLen ∧ ∀ x ∈ l,Bd.inR x.1 ∧ Bd.inR x.2 := by
 obtain ⟨a,len,cap,rfl,hl,hm,h0,hel⟩ := slice_trod Tryz.underlying33 (by rw [cLife]; decide) h
 rw [cLife] at hel
 obtain ⟨zs,hz,hzs⟩ := list_of ((0,0) : Int × Int) (fun i (x : Int × Int) => (∃ g off,a = some ⟨g,off,none⟩ ∧ g < W.heap.size ∧ ∀ j u,(lifeC x)[j]? = some u → W.cell? ⟨g,off + i * 2 + j,none⟩ = some u) ∧ (Bd.inR x.1 ∧ Bd.inR x.2)) (n := len) (fun i hi => by
   obtain ⟨b,off,cs,n,y,rfl,hlt,hcl,hc,ht⟩ := hel i hi
   obtain ⟨x,hx,rfl⟩ := open_lives1 ht
   exact ⟨x,⟨b,off,rfl,hlt,fun j u hu => (hc j (by have := (List.getElem?_eq_some_iff.1 hu).1; simpa [lifeC] using this)).trans hu⟩,hx⟩)
 subst hz
 have hat : ∀ i x,zs[i]? = some x → i < zs.length ∧ zs.getD i ((0,0)) = x := fun i x h => by
  obtain ⟨hi,rfl⟩ := List.getElem?_eq_some_iff.1 h
  exact ⟨hi,by simp [List.getD,hi]⟩
 refine ⟨_,zs,rfl,⟨a,cap,rfl,fun i x hx => ?_⟩,Nat.le_trans hl hm,fun x hx => ?_⟩
 ·obtain ⟨hi,rfl⟩ := hat i x hx
  exact (hzs i hi).1
 ·obtain ⟨i,hi⟩ := List.getElem?_of_mem hx
  obtain ⟨hi2,rfl⟩ := hat i x hi
  exact (hzs i hi2).2
set_option maxRecDepth 100000 in
theorem open_slots1 {W : World} {b0 fuel : Nat} {H : Type} {enc : TypeId × Value → H} {spare : Nat → Bool} {held : Bool} {cs : List Value} {x : DataW H × List MemPlace}
  (h : DataW.trod enc Tryz.prog W b0 spare held fuel 109 cs = some x) : ∃ x : Wi.Slot,(Bd.inR x.1 ∧ Bd.inR x.2.1 ∧ Bd.inR x.2.2) ∧ cs = slotC x := by
 obtain ⟨xs,n,_,_,hcl,hxl,hfd⟩ := DataW.trod_struct Tryz.underlying109 h
 rw [cSlot] at hcl
 match xs,hxl,cs,hcl with
 | [x0,x1,x2],_,[c0,c1,c2],_ =>
  have g0 := hfd 0 _ rfl
  have g1 := hfd 1 _ rfl
  have g2 := hfd 2 _ rfl
  simp [cInt,cStr,cRecs,cErr,cInts,cLives,cSlots,cTab,cPart,cBat,cReq,cResp] at g0 g1 g2
  obtain ⟨n0,e0,_,w0⟩ := DataW.trod_int Tryz.underlying3 g0
  obtain ⟨n1,e1,_,w1⟩ := DataW.trod_int Tryz.underlying3 g1
  obtain ⟨n2,e2,_,w2⟩ := DataW.trod_int Tryz.underlying3 g2
  simp [wreqC,wrespC] at e0 e1 e2
  subst e0 e1 e2
  exact ⟨(n0,n1,n2),⟨inR_wf w0,inR_wf w1,inR_wf w2⟩,rfl⟩
set_option maxRecDepth 100000 in
theorem open_slotsT {W : World} {b0 fuel : Nat} {H : Type} {enc : TypeId × Value → H} {spare : Nat → Bool} {held : Bool} {cs : List Value} {x : DataW H × List MemPlace}
  (h : DataW.trod enc Tryz.prog W b0 spare held fuel 68 cs = some x) : ∃ v l,cs = [v] ∧ Rw 3 slotC W v l ∧ l.length ≤ maxLen ∧ ∀ x ∈ l,Bd.inR x.1 ∧ Bd.inR x.2.1 ∧ Bd.inR x.2.2 := by
 obtain ⟨a,len,cap,rfl,hl,hm,h0,hel⟩ := slice_trod Tryz.underlying68 (by rw [cSlot]; decide) h
 rw [cSlot] at hel
 obtain ⟨zs,hz,hzs⟩ := list_of ((0,0,0) : Wi.Slot) (fun i (x : Wi.Slot) => (∃ g off,a = some ⟨g,off,none⟩ ∧ g < W.heap.size ∧ ∀ j u,(slotC x)[j]? = some u → W.cell? ⟨g,off + i * 3 + j,none⟩ = some u) ∧ (Bd.inR x.1 ∧ Bd.inR x.2.1 ∧ Bd.inR x.2.2)) (n := len) (fun i hi => by
   obtain ⟨b,off,cs,n,y,rfl,hlt,hcl,hc,ht⟩ := hel i hi
   obtain ⟨x,hx,rfl⟩ := open_slots1 ht
   exact ⟨x,⟨b,off,rfl,hlt,fun j u hu => (hc j (by have := (List.getElem?_eq_some_iff.1 hu).1; simpa [slotC] using this)).trans hu⟩,hx⟩)
 subst hz
 have hat : ∀ i x,zs[i]? = some x → i < zs.length ∧ zs.getD i ((0,0,0)) = x := fun i x h => by
  obtain ⟨hi,rfl⟩ := List.getElem?_eq_some_iff.1 h
  exact ⟨hi,by simp [List.getD,hi]⟩
 refine ⟨_,zs,rfl,⟨a,cap,rfl,fun i x hx => ?_⟩,Nat.le_trans hl hm,fun x hx => ?_⟩
 ·obtain ⟨hi,rfl⟩ := hat i x hx
  exact (hzs i hi).1
 ·obtain ⟨i,hi⟩ := List.getElem?_of_mem hx
  obtain ⟨hi2,rfl⟩ := hat i x hi
  exact (hzs i hi2).2
set_option maxRecDepth 100000 in
theorem open_seen1 {W : World} {b0 fuel : Nat} {H : Type} {enc : TypeId × Value → H} {spare : Nat → Bool} {held : Bool} {cs : List Value} {x : DataW H × List MemPlace}
  (h : DataW.trod enc Tryz.prog W b0 spare held fuel 70 cs = some x) : ∃ (x : Wi.Seen) (sv : Value),(Bd.inR x.1 ∧ x.2.length ≤ maxLen ∧ ∀ y ∈ x.2,Bd.inR y.1 ∧ Bd.inR y.2.1 ∧ Bd.inR y.2.2) ∧ Rw 3 slotC W sv x.2 ∧ cs = [.int .i64 x.1,sv] := by
 obtain ⟨xs,n,_,_,hcl,hxl,hfd⟩ := DataW.trod_struct Tryz.underlying70 h
 rw [cSeen] at hcl
 match xs,hxl,cs,hcl with
 | [x0,x1],_,[c0,c1],_ =>
  have g0 := hfd 0 _ rfl
  have g1 := hfd 1 _ rfl
  simp [cInt,cStr,cRecs,cErr,cInts,cLives,cSlots,cTab,cPart,cBat,cReq,cResp] at g0 g1
  obtain ⟨n0,e0,_,w0⟩ := DataW.trod_int Tryz.underlying3 g0
  obtain ⟨v1,l1,e1,R1,m1,o1⟩ := open_slotsT g1
  simp [wreqC,wrespC] at e0 e1
  subst e0 e1
  exact ⟨(n0,l1),_,⟨inR_wf w0,m1,o1⟩,R1,rfl⟩
set_option maxRecDepth 100000 in
theorem open_tableT {W : World} {b0 fuel : Nat} {H : Type} {enc : TypeId × Value → H} {spare : Nat → Bool} {held : Bool} {cs : List Value} {x : DataW H × List MemPlace}
  (h : DataW.trod enc Tryz.prog W b0 spare held fuel 37 cs = some x) : ∃ v l,cs = [v] ∧ Tbl W v l ∧ l.length ≤ maxLen ∧ ∀ x ∈ l,Bd.inR x.1 ∧ x.2.length ≤ maxLen ∧ ∀ y ∈ x.2,Bd.inR y.1 ∧ Bd.inR y.2.1 ∧ Bd.inR y.2.2 := by
 obtain ⟨a,len,cap,rfl,hl,hm,h0,hel⟩ := slice_trod Tryz.underlying37 (by rw [cSeen]; decide) h
 rw [cSeen] at hel
 obtain ⟨zs,hz,hzs⟩ := list_of ((0,[]) : Wi.Seen) (fun i (x : Wi.Seen) => (∃ g off sv,a = some ⟨g,off,none⟩ ∧ g < W.heap.size ∧ W.cell? ⟨g,off + i * 2,none⟩ = some (.int .i64 x.1) ∧ W.cell? ⟨g,off + i * 2 + 1,none⟩ = some sv ∧ Rw 3 slotC W sv x.2) ∧ (Bd.inR x.1 ∧ x.2.length ≤ maxLen ∧ ∀ y ∈ x.2,Bd.inR y.1 ∧ Bd.inR y.2.1 ∧ Bd.inR y.2.2)) (n := len) (fun i hi => by
   obtain ⟨b,off,cs,n,y,rfl,hlt,hcl,hc,ht⟩ := hel i hi
   obtain ⟨x,sv,hx,hR,rfl⟩ := open_seen1 ht
   exact ⟨x,⟨b,off,sv,rfl,hlt,by simpa using hc 0 (by omega),by simpa using hc 1 (by omega),hR⟩,hx⟩)
 subst hz
 have hat : ∀ i x,zs[i]? = some x → i < zs.length ∧ zs.getD i ((0,[]) : Wi.Seen) = x := fun i x h => by
  obtain ⟨hi,rfl⟩ := List.getElem?_eq_some_iff.1 h
  exact ⟨hi,by simp [List.getD,hi]⟩
 refine ⟨_,zs,rfl,⟨a,cap,rfl,fun i x hx => ?_⟩,Nat.le_trans hl hm,fun x hx => ?_⟩
 ·obtain ⟨hi,rfl⟩ := hat i x hx
  exact (hzs i hi).1
 ·obtain ⟨i,hi⟩ := List.getElem?_of_mem hx
  obtain ⟨hi2,rfl⟩ := hat i x hi
  exact (hzs i hi2).2
set_option maxRecDepth 100000 in
theorem open_partT {W : World} {b0 fuel : Nat} {H : Type} {enc : TypeId × Value → H} {spare : Nat → Bool} {held : Bool} {cs : List Value} {x : DataW H × List MemPlace}
  (h : DataW.trod enc Tryz.prog W b0 spare held fuel 32 cs = some x) : ∃ (ep : Int) (chain : List Int) (learner : Int) (cv : Value),cs = [.int .i64 ep,cv,.int .i64 learner] ∧ Bd.inR ep ∧ Ints W cv chain ∧ chain.length ≤ maxLen ∧ (∀ x ∈ chain,Bd.inR x) ∧ Bd.inR learner := by
 obtain ⟨xs,n,_,_,hcl,hxl,hfd⟩ := DataW.trod_struct Tryz.underlying32 h
 rw [cPart] at hcl
 match xs,hxl,cs,hcl with
 | [x0,x1,x2],_,[c0,c1,c2],_ =>
  have g0 := hfd 0 _ rfl
  have g1 := hfd 1 _ rfl
  have g2 := hfd 2 _ rfl
  simp [cInt,cStr,cRecs,cErr,cInts,cLives,cSlots,cTab,cPart,cBat,cReq,cResp] at g0 g1 g2
  obtain ⟨n0,e0,_,w0⟩ := DataW.trod_int Tryz.underlying3 g0
  obtain ⟨v1,l1,e1,R1,m1,o1⟩ := open_intsT g1
  obtain ⟨n2,e2,_,w2⟩ := DataW.trod_int Tryz.underlying3 g2
  simp [wreqC,wrespC] at e0 e1 e2
  subst e0 e1 e2
  exact ⟨n0,l1,n2,_,rfl,inR_wf w0,R1,m1,o1,inR_wf w2⟩
def ReqOk (q : Wi.Req) : Prop := (Bd.inR q.client ∧ Bd.inR q.n ∧ Bd.inR q.kind ∧ Bd.inR q.part ∧ Bd.inR q.seq ∧ Bd.inR q.off ∧ Bd.inR q.max ∧ Bd.inR q.gen) ∧ q.group.length ≤ maxLen ∧ q.member.length ≤ maxLen ∧ q.recs.length ≤ maxLen ∧ ∀ x ∈ q.recs,RecOk x
set_option maxRecDepth 100000 in
theorem open_reqT {W : World} {b0 fuel : Nat} {H : Type} {enc : TypeId × Value → H} {spare : Nat → Bool} {held : Bool} {cs : List Value} {x : DataW H × List MemPlace}
  (h : DataW.trod enc Tryz.prog W b0 spare held fuel 39 cs = some x) : ∃ (q : Wi.Req) (rv : Value),cs = wreqC q rv ∧ Recs W rv q.recs ∧ ReqOk q := by
 obtain ⟨xs,n,_,_,hcl,hxl,hfd⟩ := DataW.trod_struct Tryz.underlying39 h
 rw [cReq] at hcl
 match xs,hxl,cs,hcl with
 | [x0,x1,x2,x3,x4,x5,x6,x7,x8,x9,x10],_,[c0,c1,c2,c3,c4,c5,c6,c7,c8,c9,c10],_ =>
  have g0 := hfd 0 _ rfl
  have g1 := hfd 1 _ rfl
  have g2 := hfd 2 _ rfl
  have g3 := hfd 3 _ rfl
  have g4 := hfd 4 _ rfl
  have g5 := hfd 5 _ rfl
  have g6 := hfd 6 _ rfl
  have g7 := hfd 7 _ rfl
  have g8 := hfd 8 _ rfl
  have g9 := hfd 9 _ rfl
  have g10 := hfd 10 _ rfl
  simp [cInt,cStr,cRecs,cErr,cInts,cLives,cSlots,cTab,cPart,cBat,cReq,cResp] at g0 g1 g2 g3 g4 g5 g6 g7 g8 g9 g10
  obtain ⟨n0,e0,_,w0⟩ := DataW.trod_int Tryz.underlying3 g0
  obtain ⟨n1,e1,_,w1⟩ := DataW.trod_int Tryz.underlying3 g1
  obtain ⟨n2,e2,_,w2⟩ := DataW.trod_int Tryz.underlying3 g2
  obtain ⟨n3,e3,_,w3⟩ := DataW.trod_int Tryz.underlying3 g3
  obtain ⟨n4,e4,_,w4⟩ := DataW.trod_int Tryz.underlying3 g4
  obtain ⟨n5,e5,_,w5⟩ := DataW.trod_int Tryz.underlying3 g5
  obtain ⟨n6,e6,_,w6⟩ := DataW.trod_int Tryz.underlying3 g6
  obtain ⟨n7,e7,_,w7⟩ := DataW.trod_int Tryz.underlying3 g7
  obtain ⟨s8,e8,_,w8⟩ := DataW.trod_string Tryz.underlying9 g8
  obtain ⟨s9,e9,_,w9⟩ := DataW.trod_string Tryz.underlying9 g9
  obtain ⟨v10,l10,e10,R10,m10,o10,_⟩ := open_recsT g10
  simp [wreqC,wrespC] at e0 e1 e2 e3 e4 e5 e6 e7 e8 e9 e10
  subst e0 e1 e2 e3 e4 e5 e6 e7 e8 e9 e10
  exact ⟨⟨n0,n1,n2,n3,n4,n5,n6,n7,s8.data.toList,s9.data.toList,l10⟩,_,rfl,R10,⟨inR_wf w0,inR_wf w1,inR_wf w2,inR_wf w3,inR_wf w4,inR_wf w5,inR_wf w6,inR_wf w7⟩,w8,w9,m10,o10⟩
def RespOk (a : Wi.Resp) : Prop := (Bd.inR a.client ∧ Bd.inR a.n ∧ Bd.inR a.code ∧ Bd.inR a.off ∧ Bd.inR a.high ∧ Bd.inR a.gen) ∧ (a.parts.length ≤ maxLen ∧ ∀ x ∈ a.parts,Bd.inR x) ∧ a.recs.length ≤ maxLen ∧ ∀ x ∈ a.recs,RecOk x
end Go.Proofs.YtbljbdjmgogknaaGreatDoor
