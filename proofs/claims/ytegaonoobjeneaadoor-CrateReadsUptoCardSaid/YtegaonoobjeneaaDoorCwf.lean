/-
  Crate: rec, walked.
  Conditions: the model's bound on strings.
-/
import Derived.Test.YtegaonoobjeneaaDoorCwg
import Derived.Test.YtegaonoobjeneaaDoorBwx
import Derived.Deep.RegionHeld3
set_option linter.unusedVariables false
set_option linter.unusedSimpArgs false
namespace Go.Proofs.YtegaonoobjeneaaDoor
open Go.RowKit

def rcells (x : Cr.Rec) : List Value := [.int .i64 x.off, .string ⟨x.key.toArray⟩, .string ⟨x.val.toArray⟩, .bool x.gone]
set_option maxRecDepth 20000 in
set_option maxHeartbeats 3200000 in
theorem rec_any (p : Nat) (q : Bd.St) (w : World) (h : Rd w p q) (hl : q.1.length < 4294967281) (hw : ∀ W, Kp w p W → Lw W) :
    Calls Tryd.prog 42 #[.pointer (some ⟨p, 0, none⟩)] w fun e w' => e = .returned (.tuple #[recV (Cr.sRec q).1, .bool (Cr.sRec q).2.1]) ∧ Rds w p (Cr.sRec q).2.2 w' := by
  have HLW := Lib.hid hw
  have X0 : Hid (Rx w p w.heap.size (w.alloc (.cells #[.int .i64 0, .string ⟨#[]⟩, .string ⟨#[]⟩, .bool false] 41)) q [.int .i64 0, .string ⟨#[]⟩, .string ⟨#[]⟩, .bool false] 41) := Rx.new h _ _
  have l1 := sSign_len 108 q
  have l2 := sInt_len (Bd.sSign 108 q)
  have l3 := sText_len 16 (Bd.sInt (Bd.sSign 108 q)).2
  have l4 := sText_len 64 (Bd.sText 16 (Bd.sInt (Bd.sSign 108 q)).2).2
  have HS : Hid (Cr.sRec q = (let q1 := Bd.sSign 108 q
    let o := Bd.sInt q1
    let k := Bd.sText 16 o.2
    let v := Bd.sText 64 k.2
    let g := Bd.sInt v.2
    (⟨o.1, k.1, v.1, g.1 == 1⟩, g.1 == Cr.flag (g.1 == 1), Bd.sSign 101 g.2))) := rfl
  clear h hw
  generalize hq1 : Bd.sSign 108 q = q1 at *
  have HQ1 := Lib.hid hq1
  clear hq1
  generalize hi : Bd.sInt q1 = o1 at *
  obtain ⟨o, q2⟩ := o1
  generalize hk : Bd.sText 16 q2 = o2 at *
  obtain ⟨k, q3⟩ := o2
  generalize hv : Bd.sText 64 q3 = o3 at *
  obtain ⟨v, q4⟩ := o3
  generalize hg : Bd.sInt q4 = o4 at *
  obtain ⟨g, q5⟩ := o4
  dsimp only at *
  have HI := Lib.hid hi
  have HK := Lib.hid hk
  have HV := Lib.hid hv
  have HG := Lib.hid hg
  clear hi hk hv hg
  have HO := Lib.hid (open_any p q _ X0.out.1)
  rw [HQ1.out] at HO
  go_enter Tryd.func42, Tryd.ntmps42
  go_wp2_with fail
  refine HO.out.mono ?_
  rintro e w1 ⟨rfl, h1⟩
  have X1 := Lib.hid (X0.out.call h1)
  clear h1 X0 HO
  generalize hx : w.heap.size = x at *
  have C2 := Lib.hid (int_any p q1 w1 X1.out.1 (by omega) (HLW.out _ X1.out.2.2.2.2))
  rw [HI.out] at C2
  go_wp2_with fail
  refine C2.out.mono ?_
  rintro e w2 ⟨rfl, h2⟩
  have Y2 := Lib.hid (X1.out.call h2)
  clear h2 X1 C2
  obtain ⟨c0, c1, c2, c3⟩ := Y2.out.2.1.cell4
  have f0 := Y2.out.2.1.free 0
  have Z2 := Lib.hid (Y2.out.store 0 (.int .i64 o))
  go_wp2_with fail
  have X2 : Hid (Rx w p x (w2.setCell ⟨x, 0, none⟩ (.int .i64 o)) _ [.int .i64 o, .string ⟨#[]⟩, .string ⟨#[]⟩, .bool false] 41) := Z2.out
  clear Y2 Z2 c0 c1 c2 c3 f0
  generalize w2.setCell ⟨x, 0, none⟩ (.int .i64 o) = w2 at *
  have C3 := Lib.hid (text_any p 16 q2 w2 X2.out.1 (by omega) (HLW.out _ X2.out.2.2.2.2))
  rw [HK.out] at C3
  go_wp2_with fail
  refine C3.out.mono ?_
  rintro e w3 ⟨rfl, h3⟩
  have Y3 := Lib.hid (X2.out.call h3)
  clear h3 X2 C3
  obtain ⟨c0, c1, c2, c3⟩ := Y3.out.2.1.cell4
  have f0 := Y3.out.2.1.free 1
  have Z3 := Lib.hid (Y3.out.store 1 (.string ⟨k.toArray⟩))
  go_wp2_with fail
  have X3 : Hid (Rx w p x (w3.setCell ⟨x, 1, none⟩ (.string ⟨k.toArray⟩)) _ [.int .i64 o, .string ⟨k.toArray⟩, .string ⟨#[]⟩, .bool false] 41) := Z3.out
  clear Y3 Z3 c0 c1 c2 c3 f0
  generalize w3.setCell ⟨x, 1, none⟩ (.string ⟨k.toArray⟩) = w3 at *
  have C4 := Lib.hid (text_any p 64 q3 w3 X3.out.1 (by omega) (HLW.out _ X3.out.2.2.2.2))
  rw [HV.out] at C4
  go_wp2_with fail
  refine C4.out.mono ?_
  rintro e w4 ⟨rfl, h4⟩
  have Y4 := Lib.hid (X3.out.call h4)
  clear h4 X3 C4
  obtain ⟨c0, c1, c2, c3⟩ := Y4.out.2.1.cell4
  have f0 := Y4.out.2.1.free 2
  have Z4 := Lib.hid (Y4.out.store 2 (.string ⟨v.toArray⟩))
  go_wp2_with fail
  have X4 : Hid (Rx w p x (w4.setCell ⟨x, 2, none⟩ (.string ⟨v.toArray⟩)) _ [.int .i64 o, .string ⟨k.toArray⟩, .string ⟨v.toArray⟩, .bool false] 41) := Z4.out
  clear Y4 Z4 c0 c1 c2 c3 f0
  generalize w4.setCell ⟨x, 2, none⟩ (.string ⟨v.toArray⟩) = w4 at *
  have C5 := Lib.hid (int_any p q4 w4 X4.out.1 (by omega) (HLW.out _ X4.out.2.2.2.2))
  rw [HG.out] at C5
  refine C5.out.mono ?_
  rintro e w5 ⟨rfl, h5⟩
  have X5 := Lib.hid (X4.out.call h5)
  clear h5 X4 C5
  go_wp2_with fail
  refine (close_any p _ w5 X5.out.1).mono ?_
  rintro e w7 ⟨rfl, h7⟩
  have X7 := Lib.hid (X5.out.call h7)
  clear h7 X5
  obtain ⟨c0, c1, c2, c3⟩ := X7.out.2.1.cell4
  have f0 := X7.out.2.1.free 3
  have X8 : Hid (Rx w p x (w7.setCell ⟨x, 3, none⟩ (.bool (g == 1))) _ [.int .i64 o, .string ⟨k.toArray⟩, .string ⟨v.toArray⟩, .bool (g == 1)] 41) := X7.out.store 3 (.bool (g == 1))
  clear X7
  go_wp2_with fail
  clear c0 c1 c2 c3 f0
  generalize w7.setCell ⟨x, 3, none⟩ (.bool (g == 1)) = w8 at *
  generalize hgb : (g == 1) = gb at *
  have hgf : Cr.flag gb = if gb then 1 else 0 := rfl
  have X9 := Lib.hid X8.out.drew
  obtain ⟨c0, c1, c2, c3⟩ := X9.out.2.1.cell4
  obtain ⟨f0, f1, f2, f3, -, -⟩ := X9.out.2.1.free6
  obtain ⟨d0, d1, d2, d3⟩ := X8.out.2.1.cell4
  obtain ⟨g0, g1, g2, g3, -, -⟩ := X8.out.2.1.free6
  have XA : Hid (Rx w p x ((((w8.drew.setCell ⟨x, 0, none⟩ (.int .i64 o)).setCell ⟨x, 1, none⟩ (.string ⟨k.toArray⟩)).setCell ⟨x, 2, none⟩ (.string ⟨v.toArray⟩)).setCell ⟨x, 3, none⟩ (.bool gb)) _ [.int .i64 o, .string ⟨k.toArray⟩, .string ⟨v.toArray⟩, .bool gb] 41) :=
    (((X9.out.store 0 (.int .i64 o)).store 1 (.string ⟨k.toArray⟩)).store 2 (.string ⟨v.toArray⟩)).store 3 (.bool gb)
  have HSA := Lib.hid XA.out.2.1.cell4
  have HS9 := Lib.hid X9.out.2.1.cell4
  generalize hfl : Cr.flag gb = fl at *
  have HFL := Lib.hid (fun W => flag_any gb W)
  rw [hfl] at HFL
  clear hgf
  go_region_held3 (fun W => W.cell? ⟨x, 0, none⟩ = some (.int .i64 o) ∧ W.cell? ⟨x, 1, none⟩ = some (.string ⟨k.toArray⟩) ∧ W.cell? ⟨x, 2, none⟩ = some (.string ⟨v.toArray⟩) ∧ W.cell? ⟨x, 3, none⟩ = some (.bool gb)) (first | assumption | exact HS9.out | exact HSA.out) (first
    | (go_at_call 28; refine (HFL.out _).mono ?_; rintro e w94 ⟨rfl, rfl⟩)
    | fail)
  go_wp2
  refine bodyPost_ret (results_cl_tmp rfl _ _ _ _ _ _ rfl XA.out.2.1 Tryd.underlying41 rfl (by kernel_rfl)) rfl ?_
  refine ⟨?_, ?_⟩
  · rw [HS.out]
    simp only [HI.out, HK.out, HV.out, HG.out, hgb, hfl]
    rfl
  · rw [HS.out]
    simp only [HI.out, HK.out, HV.out, HG.out]
    exact XA.out.done

end Go.Proofs.YtegaonoobjeneaaDoor
