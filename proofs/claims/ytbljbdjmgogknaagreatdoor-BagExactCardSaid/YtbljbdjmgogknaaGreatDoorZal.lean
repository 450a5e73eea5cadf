/-
  Co: texts of one proof, one behind the other.
  Conditions: none of its own.
-/
import Derived.Test.YtbljbdjmgogknaaGreatDoorZab
set_option linter.unusedVariables false
set_option linter.unusedSimpArgs false
namespace Go.Proofs.YtbljbdjmgogknaaGreatDoor
open Go.ChangeShapes Go.WideShapes Go.ChangeAt Go.RowKit
theorem cInt : Tryz.prog.cellsOf 3 = 1 := by kernel_rfl
theorem cStr : Tryz.prog.cellsOf 9 = 1 := by kernel_rfl
theorem cBool : Tryz.prog.cellsOf 4 = 1 := by kernel_rfl
theorem cRec : Tryz.prog.cellsOf 67 = 4 := by kernel_rfl
theorem cRecs : Tryz.prog.cellsOf 34 = 1 := by kernel_rfl
theorem inR_wf {n : Int} (h : (Lit.int .i64 n).wf = true) : Bd.inR n := by
 have e1 : IntKind.i64.min = -9223372036854775808 := by decide
 have e2 : IntKind.i64.max = 9223372036854775807 := by decide
 simp [Lit.wf,e1,e2] at h
 exact h
set_option maxRecDepth 100000 in
theorem open_rec {W : World} {b0 : Nat} {H : Type} {enc : TypeId × Value → H} {spare : Nat → Bool} {held : Bool} {fuel : Nat} {cs : List Value} {y : DataW H × List MemPlace}
  (h : DataW.trod enc Tryz.prog W b0 spare held fuel 67 cs = some y) : ∃ x : Cr.Rec,RecOk x ∧ cs = [.int .i64 x.off,.string ⟨x.key.toArray⟩,.string ⟨x.val.toArray⟩,.bool x.gone] := by
 obtain ⟨y0,y1,y2,y3,m,_,hcl,h0,h1,h2,h3⟩ := Go.Joins.trod_struct4 Tryz.underlying67 h
 rw [cRec] at hcl
 obtain ⟨n0,e0,_,w0⟩ := DataW.trod_int Tryz.underlying3 h0
 obtain ⟨s1,e1,_,w1⟩ := DataW.trod_string Tryz.underlying9 h1
 obtain ⟨s2,e2,_,w2⟩ := DataW.trod_string Tryz.underlying9 h2
 obtain ⟨b3,e3,_⟩ := DataW.trod_bool Tryz.underlying4 h3
 match cs,hcl with
 | [c0,c1,c2,c3],_ =>
  simp [cInt,cStr,cBool] at e0 e1 e2 e3
  subst e0 e1 e2 e3
  exact ⟨⟨n0,s1.data.toList,s2.data.toList,b3⟩,⟨inR_wf w0,w1,w2⟩,rfl⟩
end Go.Proofs.YtbljbdjmgogknaaGreatDoor
