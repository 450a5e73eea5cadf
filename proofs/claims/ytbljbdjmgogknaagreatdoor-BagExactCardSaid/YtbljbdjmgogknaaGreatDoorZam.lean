/-
  Cp: texts of one proof, one behind the other.
  Conditions: none of its own.
-/
import Derived.Test.YtbljbdjmgogknaaGreatDoorZal
set_option linter.unusedVariables false
set_option linter.unusedSimpArgs false
namespace Go.Proofs.YtbljbdjmgogknaaGreatDoor
open Go.ChangeShapes Go.WideShapes Go.ChangeAt Go.RowKit
theorem spot_of_cell {w : World} {a : Addr} {u : Value} (h : w.cell? a = some u) : a.spot = none := by
 unfold World.cell? at h
 split at h
 ·split at h
  ·cases h
  ·rename_i h2
   cases hs : a.spot with
   | none => rfl
   | some s => rw [hs] at h2; simp at h2
 ·cases h
theorem slice_trod {P : Program} {W : World} {b0 fuel : Nat} {t e : TypeId} {cs : List Value} {H : Type} {enc : TypeId × Value → H} {spare : Nat → Bool} {held : Bool} {x : DataW H × List MemPlace}
  (hs : P.underlying t = some (.slice e)) (hc : 0 < P.cellsOf e) (h : DataW.trod enc P W b0 spare held fuel t cs = some x) :
  ∃ a len cap,cs = [.slice a len cap] ∧ len ≤ cap ∧ cap ≤ maxLen ∧ (a = none → len = 0 ∧ cap = 0) ∧
   ∀ i,i < len → ∃ b off cs n y,a = some ⟨b,off,none⟩ ∧ b < W.heap.size ∧ cs.length = P.cellsOf e ∧ (∀ j,j < P.cellsOf e → W.cell? ⟨b,off + i * P.cellsOf e + j,none⟩ = cs[j]?) ∧
    DataW.trod enc P W b0 spare held n e cs = some y := by
 rcases Go.Deep.open_slice hs h with ⟨rfl,_⟩ | ⟨a,l,c,m,n,D,Pl,rfl,hb,hl,hm,hmm,hx,hel⟩
 ·exact ⟨none,0,0,rfl,Nat.le_refl _,Nat.zero_le _,fun _ => ⟨rfl,rfl⟩,fun i hi => by omega⟩
 ·refine ⟨some a,l,c,rfl,hl,hm,fun h0 => (by cases h0),fun i hi => ?_⟩
  have hlm : l ≤ m := by rw [hmm]; split <;> omega
  obtain ⟨cs0,h10,_⟩ := hel 0 (by omega)
  obtain ⟨_,hlen0,hcell0⟩ := World.cells?_some h10
  have hc0 := hcell0 0 hc
  have hsp : a.spot = none ∧ a.block < W.heap.size := by
   have e : (a.add (0 * P.cellsOf e)).add 0 = a := by simp [Addr.add]
   rw [e,List.getElem?_eq_getElem (by omega)] at hc0
   exact ⟨spot_of_cell hc0,World.block_lt_of_cell? W a hc0⟩
  obtain ⟨b,off,spot⟩ := a
  obtain ⟨h1,h2⟩ := hsp
  dsimp only at h1 h2
  subst h1
  obtain ⟨cs,h1,h3⟩ := hel i (by omega)
  obtain ⟨_,hlen,hcell⟩ := World.cells?_some h1
  refine ⟨b,off,cs,n,_,rfl,h2,hlen,fun j hj => ?_,h3⟩
  have := hcell j hj
  rw [Go.Deep.add_add] at this
  rw [← this]
  unfold Addr.add
  split
  ·simp_all
  ·simp [Nat.add_assoc]
set_option maxRecDepth 100000 in
theorem open_recsT {W : World} {b0 fuel : Nat} {H : Type} {enc : TypeId × Value → H} {spare : Nat → Bool} {held : Bool} {cs : List Value} {x : DataW H × List MemPlace}
  (h : DataW.trod enc Tryz.prog W b0 spare held fuel 34 cs = some x) : ∃ rv l,cs = [rv] ∧ Recs W rv l ∧ l.length ≤ maxLen ∧ (∀ x ∈ l,RecOk x) ∧ ∃ a cap,rv = .slice a l.length cap ∧ l.length ≤ cap ∧ cap ≤ maxLen := by
 obtain ⟨a,len,cap,rfl,hl,hm,h0,hel⟩ := slice_trod Tryz.underlying34 (by rw [cRec]; decide) h
 rw [cRec] at hel
 obtain ⟨zs,hz,hzs⟩ := list_of (⟨0,[],[],false⟩ : Cr.Rec) (fun i (x : Cr.Rec) => (∃ g off,a = some ⟨g,off,none⟩ ∧ g < W.heap.size ∧ W.cell? ⟨g,off + i * 4,none⟩ = some (.int .i64 x.off) ∧ W.cell? ⟨g,off + i * 4 + 1,none⟩ = some (.string ⟨x.key.toArray⟩) ∧
  W.cell? ⟨g,off + i * 4 + 2,none⟩ = some (.string ⟨x.val.toArray⟩) ∧ W.cell? ⟨g,off + i * 4 + 3,none⟩ = some (.bool x.gone)) ∧ RecOk x) (n := len) (fun i hi => by
   obtain ⟨b,off,cs,n,y,rfl,hlt,_,hc,ht⟩ := hel i hi
   obtain ⟨x,hx,rfl⟩ := open_rec ht
   exact ⟨x,⟨b,off,rfl,hlt,by simpa using hc 0 (by omega),by simpa using hc 1 (by omega),by simpa using hc 2 (by omega),by simpa using hc 3 (by omega)⟩,hx⟩)
 subst hz
 have hat : ∀ i x,zs[i]? = some x → i < zs.length ∧ zs.getD i ⟨0,[],[],false⟩ = x := fun i x h => by
  obtain ⟨hi,rfl⟩ := List.getElem?_eq_some_iff.1 h
  exact ⟨hi,by simp [List.getD,hi]⟩
 refine ⟨_,zs,rfl,⟨a,cap,rfl,fun i x hx => ?_⟩,Nat.le_trans hl hm,fun x hx => ?_,a,cap,rfl,hl,hm⟩
 ·obtain ⟨hi,rfl⟩ := hat i x hx
  exact (hzs i hi).1
 ·obtain ⟨i,hi⟩ := List.getElem?_of_mem hx
  obtain ⟨hi2,rfl⟩ := hat i x hi
  exact (hzs i hi2).2
theorem cBat : Tryz.prog.cellsOf 36 = 6 := by kernel_rfl
set_option maxRecDepth 100000 in
theorem open_batT {W : World} {b0 fuel : Nat} {H : Type} {enc : TypeId × Value → H} {spare : Nat → Bool} {held : Bool} {cs : List Value} {x : DataW H × List MemPlace}
  (h : DataW.trod enc Tryz.prog W b0 spare held fuel 36 cs = some x) : ∃ b rv,cs = [.int .i64 b.base,.int .i64 b.count,.int .i64 b.prod,.int .i64 b.seq,.int .i64 b.time,rv] ∧ Recs W rv b.recs ∧ BatOk b := by
 obtain ⟨xs,n,_,_,hcl,hxl,hfd⟩ := DataW.trod_struct Tryz.underlying36 h
 rw [cBat] at hcl
 match xs,hxl,cs,hcl with
 | [x0,x1,x2,x3,x4,x5],_,[c0,c1,c2,c3,c4,c5],_ =>
  have g0 := hfd 0 _ rfl
  have g1 := hfd 1 _ rfl
  have g2 := hfd 2 _ rfl
  have g3 := hfd 3 _ rfl
  have g4 := hfd 4 _ rfl
  have g5 := hfd 5 _ rfl
  simp [cInt,cRecs] at g0 g1 g2 g3 g4 g5
  obtain ⟨n0,e0,_,w0⟩ := DataW.trod_int Tryz.underlying3 g0
  obtain ⟨n1,e1,_,w1⟩ := DataW.trod_int Tryz.underlying3 g1
  obtain ⟨n2,e2,_,w2⟩ := DataW.trod_int Tryz.underlying3 g2
  obtain ⟨n3,e3,_,w3⟩ := DataW.trod_int Tryz.underlying3 g3
  obtain ⟨n4,e4,_,w4⟩ := DataW.trod_int Tryz.underlying3 g4
  obtain ⟨rv,l,e5,hR,hl,hx,_⟩ := open_recsT g5
  simp at e0 e1 e2 e3 e4 e5
  subst e0 e1 e2 e3 e4 e5
  exact ⟨⟨n0,n1,n2,n3,n4,l⟩,c5,rfl,hR,inR_wf w0,inR_wf w1,inR_wf w2,inR_wf w3,inR_wf w4,hl,hx⟩
end Go.Proofs.YtbljbdjmgogknaaGreatDoor
