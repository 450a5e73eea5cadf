/-
  Gk: texts of one proof, one behind the other.
  Conditions: none of its own.
-/
import Derived.Test.YtbljbdjmgogknaaGreatDoorZbt
set_option linter.unusedVariables false
set_option linter.unusedSimpArgs false
namespace Go.Proofs.YtbljbdjmgogknaaGreatDoor
open Go.ChangeShapes Go.WideShapes Go.ChangeAt Go.RowKit
structure ActX where
 kind : Int
 m : Wi.Msg
 v : MsgV
 n : Int
def actC (x : ActX) : List Value := .int .i64 x.kind::(msgC x.m x.v ++ [.int .i64 x.n])
theorem actC_len (x : ActX) : (actC x).length = 40 := rfl
def ActsAt (w : World) (v : Value) (l : List ActX) : Prop :=
 ∃ a cap,v = .slice a l.length cap ∧ ∀ i x,l[i]? = some x → ∃ g off,a = some ⟨g,off,none⟩ ∧ g < w.heap.size ∧ w.rangeAt g (off + i * 40) (actC x) ∧ MsgAt w x.m x.v
theorem ActsAt.kept {w w' : World} {v : Value} {l : List ActX} (h : ActsAt w v l) (hb : Below w.heap.size w w') : ActsAt w' v l := by
 obtain ⟨a,cap,rfl,hc⟩ := h
 refine ⟨a,cap,rfl,fun i x hx => ?_⟩
 obtain ⟨g,off,e,hg,hr,hm⟩ := hc i x hx
 exact ⟨g,off,e,Nat.lt_of_lt_of_le hg hb.size,fun j u hu => (hb.cell (p := ⟨g,off + i * 40 + j,none⟩) hg).trans (hr j u hu),hm.kept hb⟩
def ActOk (x : ActX) : Prop := MsgOk x.m ∧ Bd.inR x.kind ∧ Bd.inR x.n ∧ (actC x).all (·.oneCell') = true
theorem cAct : Tryz.prog.cellsOf 46 = 40 := by kernel_rfl
theorem msg_oneA {w : World} {m : Wi.Msg} {v : MsgV} (h : MsgAt w m v) : ∀ u ∈ msgC m v,u.oneCell' = true := by
 obtain ⟨a0,c0,h0⟩ := h.chain.form
 obtain ⟨a1,c1,h1⟩ := h.lives.form
 obtain ⟨a2,c2,h2⟩ := h.brecs.form
 obtain ⟨a3,c3,h3⟩ := h.table.form
 obtain ⟨a4,c4,h4⟩ := h.qrecs.form
 obtain ⟨a5,c5,h5⟩ := h.parts.form
 obtain ⟨a6,c6,h6⟩ := h.arecs.form
 obtain ⟨v0,v1,v2,v3,v4,v5,v6⟩ := v
 dsimp only at h0 h1 h2 h3 h4 h5 h6
 subst h0 h1 h2 h3 h4 h5 h6
 simp [msgC,wreqC,wrespC,Value.oneCell']
end Go.Proofs.YtbljbdjmgogknaaGreatDoor
