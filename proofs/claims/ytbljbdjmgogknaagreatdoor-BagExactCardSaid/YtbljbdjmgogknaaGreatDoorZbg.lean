/-
  Gr: texts of one proof, one behind the other.
  Conditions: none of its own.
-/
import Derived.Test.YtbljbdjmgogknaaGreatDoorZbe
import Derived.Test.YtbljbdjmgogknaaGreatDoorZbf
set_option linter.unusedVariables false
set_option linter.unusedSimpArgs false
namespace Go.Proofs.YtbljbdjmgogknaaGreatDoor
open Go.RowKit
theorem infoMsg : (Tryz.prog.info? 44).map (fun i => (i.zero,i.size,i.bytes)) = some (some (.agg (zt0).toArray),38,432) := by kernel_rfl
theorem infoM : ∃ i z,Tryz.prog.info? 44 = some i ∧ i.zero = some z ∧ i.size = 38 ∧ i.bytes = 432 ∧ z.cells.size = 38 := by
 obtain ⟨i,hi,h0,h1,h2⟩ := info_parts infoMsg
 exact ⟨i,_,hi,h0,h1,h2,rfl⟩
theorem Sl.atX {w : World} {B : Nat} {v : Value} {n : Nat} {xs : List Value} {size : Nat} (h : Sl w B size v n xs) (hn : 0 < n) : ∃ g off cap,v = .slice (some ⟨g,off,none⟩) n cap ∧ g < w.heap.size ∧ ∀ j u,xs[j]? = some u → w.cell? ⟨g,off + j,none⟩ = some u := by
 rcases h.2 with ⟨rfl,h0⟩ | ⟨g,off,cap,rfl,hB,hg,hc,hm,hr,ht⟩
 ·omega
 ·exact ⟨g,off,cap,rfl,hg,hr⟩
end Go.Proofs.YtbljbdjmgogknaaGreatDoor
