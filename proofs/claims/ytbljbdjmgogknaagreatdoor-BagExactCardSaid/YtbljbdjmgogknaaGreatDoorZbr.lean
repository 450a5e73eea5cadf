/-
  Ha: texts of one proof, one behind the other.
  Conditions: none of its own.
-/
import Derived.Test.YtbljbdjmgogknaaGreatDoorZbg
import Derived.Test.YtbljbdjmgogknaaGreatDoorZbp
import Derived.Test.YtbljbdjmgogknaaGreatDoorZbq
set_option linter.unusedVariables false
set_option linter.unusedSimpArgs false
set_option maxHeartbeats 6400000
set_option maxRecDepth 20000
namespace Go.Proofs.YtbljbdjmgogknaaGreatDoor
open Go.RowKit
structure UbW (w0 w : World) (ub : Nat) (uv : Value) (L : List MX) : Prop where
 c : Cl w ub [uv] 29
 o : Sl w w0.heap.size 38 uv L.length (cellsX L)
 g : w0.heap.size ≤ ub
 n : ∀ j,uv.ownBlock = some j → j ≠ ub
 b : Below w0.heap.size w0 w
theorem UbW.keep {S : Nat → Prop} {w0 w w' : World} {ub : Nat} {uv : Value} {L : List MX} (h : UbW w0 w ub uv L) (k : Keeps S w w') (hu : ¬ S ub) (hr : ∀ j,uv.ownBlock = some j → ¬ S j) (hw : ∀ j,j < w0.heap.size → ¬ S j) : UbW w0 w' ub uv L :=
 ⟨h.c.keep k hu,h.o.kept k hr,h.g,h.n,h.b.trans (k.toBelow h.b.size hw)⟩
theorem UbW.below {w0 w w' : World} {ub : Nat} {uv : Value} {L : List MX} (h : UbW w0 w ub uv L) (k : Below w.heap.size w w') : UbW w0 w' ub uv L :=
 h.keep (Keeps.below (fun _ => False) k) id (fun _ _ => id) (fun _ _ => id)
structure UbK (ub : Nat) (uv uv' : Value) (w w' : World) : Prop where
 k : Keeps (fun j => j = ub ∨ uv.ownBlock = some j) w w'
 n : ∀ j,uv'.ownBlock = some j → uv.ownBlock = some j ∨ w.heap.size ≤ j
theorem UbK.of {ub : Nat} {uv : Value} {w w' : World} (b : Below w.heap.size w w') : UbK ub uv uv w w' := ⟨Keeps.below _ b,fun j h => .inl h⟩
theorem UbK.after {ub : Nat} {uv uv' : Value} {w w1 w' : World} (b : Below w.heap.size w w1) (h : UbK ub uv uv' w1 w') : UbK ub uv uv' w w' :=
 ⟨(Keeps.below _ b).trans h.k,fun j hj => (h.n j hj).imp id (fun e => Nat.le_trans b.size e)⟩
def UPost (w0 : World) (ub : Nat) (uv : Value) (w : World) (r : Value) (L : List MX) (e : Ending) (w' : World) : Prop :=
 ∃ uv',e = .returned r ∧ UbW w0 w' ub uv' L ∧ UbK ub uv uv' w w'
theorem ub_app {w0 w1 : World} {ub : Nat} {a : Option Addr} {c : Nat} {L : List MX} (x : MX) (cs : List Value) (hcs : mxC x = cs) (hone : ∀ u ∈ cs,u.oneCell' = true) (h : UbW w0 w1 ub (.slice a L.length c) L) (hl : L.length < 256) :
  ∃ (v' : Value) (w3 : World),(Builtin.append_ #[27,27] 27 #[.slice a L.length c,.slice (some ⟨w1.heap.size,0,none⟩) 1 1]).run Tryz.prog (w1.alloc (.cells cs.toArray 44)) = .ok v' w3 ∧
   Cl w3 ub [.slice a L.length c] 29 ∧ (∃ a' c',v' = .slice a' (L.length + 1) c') ∧ UbW w0 (w3.setCell ⟨ub,0,none⟩ v') ub v' (L ++ [x]) ∧ UbK ub (.slice a L.length c) v' w1 (w3.setCell ⟨ub,0,none⟩ v') := by
 obtain ⟨i0,z0,hi,hz0,hz1,hz2,hz3⟩ := infoM
 have hlen : cs.length = 38 := by rw [← hcs]; rfl
 have hsz := h.b.size
 have hul := h.c.lt
 have KA : Keeps (fun _ => False) w1 (w1.alloc (.cells cs.toArray 44)) := Keeps.alloc _ _ _
 obtain ⟨v',w3,hr,hown,hgr,hnw⟩ := run_append_sl (P := Tryz.prog) (w1.alloc (.cells cs.toArray 44)) 27 27 44 i0 z0 38 432 Tryz.underlying27 hi hz0 hz1 hz2 hz3 (by decide) w0.heap.size (.slice a L.length c) L.length (cellsX L) (h.o.kept KA (fun _ _ => id))
  (.slice (some ⟨w1.heap.size,0,none⟩) 1 1) 1 cs ((Cl.new w1 cs 44).src 38 1 1 (by rw [hlen])) hone (by unfold maxLen; omega) (by omega) (by rw [World.size_alloc]; omega)
 have K3 : Keeps (fun j => (Value.slice a L.length c).ownBlock = some j) w1 w3 := (Keeps.alloc _ _ _).trans (Keeps.grown hgr (fun j hj => hj))
 have K5 : Keeps (fun j => j = ub) w3 (w3.setCell ⟨ub,0,none⟩ v') := Keeps.setCell _ _ _ _ rfl
 obtain ⟨a',c',hv',_,_⟩ := hown.form
 have C3 := h.c.keep K3 (fun e => h.n ub e rfl)
 have hnew : ∀ j,v'.ownBlock = some j → (Value.slice a L.length c).ownBlock = some j ∨ w1.heap.size ≤ j := fun j hj => by
  rcases hnw with e | e
  ·exact .inl (by rw [← e]; exact hj)
  ·exact .inr (by have := e j hj; rw [World.size_alloc] at this; omega)
 have hne : ∀ j,v'.ownBlock = some j → j ≠ ub := fun j hj => by
  rcases hnew j hj with e | e
  ·exact h.n j e
  ·omega
 refine ⟨v',w3,hr,C3,⟨a',c',hv'⟩,⟨?_,?_,h.g,hne,?_⟩,⟨(K3.mono fun j _ e => .inr e).trans (K5.mono fun j _ e => .inl e),hnew⟩⟩
 ·have := C3.set 0 v'
  exact this
 ·rw [cellsX_snoc,List.length_append,hcs]
  exact hown.kept K5 (fun j hj e => hne j hj e)
 ·exact (h.b.trans (K3.toBelow hsz (fun j hj e => by have := (h.o.lt j e).1; omega))).trans (K5.toBelow (by have := K3.size; omega) (fun j hj e => by have := h.g; omega))
theorem exec_ldS (a : Act) (w : World) (o : Oper) (k : Nat) (p : Addr) (v : Value) (ho : o.op = .load 27 (.tmp k)) (h0 : a.eval (.tmp k) = .pointer (some p)) (hc : w.cell? p = some v) : (execOp a.eval o).run Tryz.prog w = .ok (.value v) w := by
 generalize a.eval = ev at *
 unfold execOp
 rw [ho]
 go_simp
theorem exec_stS (a : Act) (w : World) (o : Oper) (k0 k1 : Nat) (p : Addr) (u v : Value) (ho : o.op = .store 27 (.tmp k0) (.tmp k1)) (h0 : a.eval (.tmp k0) = .pointer (some p)) (h1 : a.eval (.tmp k1) = v) (hv : ∃ a n c,v = .slice a n c) (hc : w.cell? p = some u) (hf : w.frozen? p = false) :
  (execOp a.eval o).run Tryz.prog w = .ok .skip (w.setCell p v) := by
 obtain ⟨_,_,_,rfl⟩ := hv
 generalize a.eval = ev at *
 unfold execOp
 rw [ho]
 go_simp
theorem ubPut_bad (x : MX) (cs : List Value) (hcs : mxC x = cs) (w0 w : World) (ub : Nat) (uv : Value) (L : List MX) (h : UbW w0 w ub uv L) (hm : MsgAt w x.m x.v) (ok : MxOk x) (hg : Wi.good x.m = false) :
  Calls Tryz.prog 11 #[.pointer (some ⟨ub,0,none⟩),.agg cs.toArray] w (UPost w0 ub uv w (.int .i64 1) L) := by
 obtain ⟨cs2,hc2,hmv,_,HL38,HIL,HIA,HCA,HCO⟩ := mx_cells x w hm
 obtain rfl : cs2 = cs := hc2.symm.trans hcs
 have HG := hq' (fun (W : World) (hW : Below w.heap.size w W) => refgood14_any x.m x.v W (hm.kept hW) ok.1 ok.2 cs2 hcs)
 obtain ⟨a,c,hve,_,_⟩ := h.o.form
 subst hve
 have H0 := hq' h
 clear hc2 hmv hm ok h
 try clear HIA HCA HL38 HCO
 rw [hg] at HG
 go_enter Tryz.func11,Tryz.ntmps11
 obtain ⟨w1,hw1,CA,B1⟩ := oneBox (w := w) cs2 44
 have HW1 := hq' hw1
 clear hw1
 go_upto_region 1 with (fail)
 first | rw [HW1.out] | skip
 clear HW1
 generalize w.heap.size = pa at CA ⊢
 have R1 := hq' CA.out.range
 go_wp2_with (refine wpList_load_mid (by rfl) _ _ (by rfl) pa 0 (by rfl) cs2 _ R1.out Tryz.underlying44 (by rfl) HIL.out ?_)
 refine (HG.out _ B1.out).mono ?_
 rintro e w2 ⟨rfl,hb⟩
 have B2 := hq' (bt B1.out hb)
 have C2 := hq' (CA.out.below hb)
 have H2 := hq' (H0.out.below B2.out)
 clear hb HG R1 CA B1
 go_wp2
 go_ret
 exact ⟨_,rfl,H2.out,UbK.of B2.out⟩
theorem ubPut_full (x : MX) (cs : List Value) (hcs : mxC x = cs) (w0 w : World) (ub : Nat) (uv : Value) (L : List MX) (h : UbW w0 w ub uv L) (hm : MsgAt w x.m x.v) (ok : MxOk x) (hg : Wi.good x.m = true) (hl : 256 ≤ L.length) :
  Calls Tryz.prog 11 #[.pointer (some ⟨ub,0,none⟩),.agg cs.toArray] w (UPost w0 ub uv w (.int .i64 11) L) := by
 obtain ⟨cs2,hc2,hmv,_,HL38,HIL,HIA,HCA,HCO⟩ := mx_cells x w hm
 obtain rfl : cs2 = cs := hc2.symm.trans hcs
 have HG := hq' (fun (W : World) (hW : Below w.heap.size w W) => refgood14_any x.m x.v W (hm.kept hW) ok.1 ok.2 cs2 hcs)
 obtain ⟨a,c,hve,_,_⟩ := h.o.form
 subst hve
 have H0 := hq' h
 clear hc2 hmv hm ok h
 try clear HIA HCA HL38 HCO
 rw [hg] at HG
 go_enter Tryz.func11,Tryz.ntmps11
 obtain ⟨w1,hw1,CA,B1⟩ := oneBox (w := w) cs2 44
 have HW1 := hq' hw1
 clear hw1
 go_upto_region 1 with (fail)
 first | rw [HW1.out] | skip
 clear HW1
 generalize w.heap.size = pa at CA ⊢
 have R1 := hq' CA.out.range
 go_wp2_with (refine wpList_load_mid (by rfl) _ _ (by rfl) pa 0 (by rfl) cs2 _ R1.out Tryz.underlying44 (by rfl) HIL.out ?_)
 refine (HG.out _ B1.out).mono ?_
 rintro e w2 ⟨rfl,hb⟩
 have B2 := hq' (bt B1.out hb)
 have C2 := hq' (CA.out.below hb)
 have H2 := hq' (H0.out.below B2.out)
 clear hb HG R1 CA B1
 have c0 : w2.cell? ⟨ub,0,none⟩ = some (.slice a L.length c) := H2.out.c.cell 0
 have hli : (256 : Int) ≤ (L.length : Int) := by omega
 go_wp2
 go_ret
 exact ⟨_,rfl,H2.out,UbK.of B2.out⟩
theorem ubPut_yes (x : MX) (cs : List Value) (hcs : mxC x = cs) (w0 w : World) (ub : Nat) (uv : Value) (L : List MX) (h : UbW w0 w ub uv L) (hm : MsgAt w x.m x.v) (ok : MxOk x) (hg : Wi.good x.m = true) (hlt : L.length < 256) :
  Calls Tryz.prog 11 #[.pointer (some ⟨ub,0,none⟩),.agg cs.toArray] w (UPost w0 ub uv w (.int .i64 0) (L ++ [x])) := by
 obtain ⟨cs2,hc2,hmv,_,HL38,HIL,HIA,HCA,HCO⟩ := mx_cells x w hm
 obtain rfl : cs2 = cs := hc2.symm.trans hcs
 have HG := hq' (fun (W : World) (hW : Below w.heap.size w W) => refgood14_any x.m x.v W (hm.kept hW) ok.1 ok.2 cs2 hcs)
 obtain ⟨a,c,hve,_,_⟩ := h.o.form
 subst hve
 have H0 := hq' h
 clear hc2 hmv hm ok h
 rw [hg] at HG
 go_enter Tryz.func11,Tryz.ntmps11
 obtain ⟨w1,hw1,CA,B1⟩ := oneBox (w := w) cs2 44
 have HW1 := hq' hw1
 clear hw1
 go_upto_region 1 with (fail)
 first | rw [HW1.out] | skip
 clear HW1
 generalize w.heap.size = pa at CA ⊢
 have R1 := hq' CA.out.range
 go_wp2_with (refine wpList_load_mid (by rfl) _ _ (by rfl) pa 0 (by rfl) cs2 _ R1.out Tryz.underlying44 (by rfl) HIL.out ?_)
 refine (HG.out _ B1.out).mono ?_
 rintro e w2 ⟨rfl,hb⟩
 have B2 := hq' (bt B1.out hb)
 have C2 := hq' (CA.out.below hb)
 have H2 := hq' (H0.out.below B2.out)
 clear hb HG R1 CA B1
 have c0 : w2.cell? ⟨ub,0,none⟩ = some (.slice a L.length c) := H2.out.c.cell 0
 have hli : ¬ (256 : Int) ≤ (L.length : Int) := by omega
 go_upto_region 5 with (fail)
 clear c0 hli
 obtain ⟨W1,hW1⟩ : ∃ W1,W1 = w2.drew := ⟨_,rfl⟩
 have BD : Hid (Below w2.heap.size w2 W1) := by rw [hW1]; exact (Below.refl _ _).drew
 have H1 := hq' (H2.out.below BD.out)
 obtain ⟨v',W3,happ,C3,hvf,hub,huk⟩ := ub_app x cs2 hcs HCO.out H1.out hlt
 obtain ⟨W2,hW2⟩ : ∃ W2,W2 = W1.alloc (.cells cs2.toArray 44) := ⟨_,rfl⟩
 obtain ⟨W5,hW5⟩ : ∃ W5,W5 = W3.setCell ⟨ub,0,none⟩ v' := ⟨_,rfl⟩
 rw [← hW5] at hub huk
 have HAPP := hq' happ
 have HVF := hq' (show ∃ a n c,v' = .slice a n c from by obtain ⟨a',c',e⟩ := hvf; exact ⟨_,_,_,e⟩)
 have M1 : Hid (W1.cell? ⟨ub,0,none⟩ = some (.slice a L.length c)) := H1.out.c.cell 0
 have M2 : Hid (W2.cell? ⟨ub,0,none⟩ = some (.slice a L.length c)) := by rw [hW2]; exact (H1.out.c.alloc _).cell 0
 have M3 : Hid (W3.cell? ⟨ub,0,none⟩ = some (.slice a L.length c)) := C3.cell 0
 have F3 : Hid (W3.frozen? ⟨ub,0,none⟩ = false) := C3.free 0
 have HUB := hq' hub
 have HUK := hq' huk
 have E2 := hq' hW2
 have E5 := hq' hW5
 have EC := hq' hW1
 have RX : Hid (W1.rangeAt pa 0 cs2) := (C2.out.below BD.out).range
 have HI38 := HIL
 clear happ C3 hvf hub huk hW1 hW2 hW5 H1
 have hne : Nonempty (AnyOf (lwD 6 7 10 W1 W2 W3 W5)) := ⟨⟨W1,Array.replicate 11 false,rfl⟩⟩
 refine wp_region_ranks (lwD 6 7 10 W1 W2 W3 W5) _ (by kernel_rfl) (by kernel_rfl) rfl (by rw [← EC.out]; rfl) ?_
 refine rQuiet_head 2 (by decide) (by kernel_rfl) (fun i L W h1 h2 hc => hc.set (by omega) (by omega) (by omega)) ?_
 simp only [tk',t0',dk',d0']
 repeat (go_big_quiet_step (fail))
 refine wpQuiet_nil ?_
 refine rQuiet_value (.pointer (some ⟨ub,0,none⟩)) (fun W => W) rfl (fun L w hD hi hc => ?_) ?_
 ·exact ⟨exec_nil _ _ _ (.tmp 15) _ rfl rfl,hc.set (by omega) (by omega) (by omega)⟩
 simp only [Act.put,ta',sz',ss']
 refine rQuiet_head 1 (by decide) (by kernel_rfl) (fun i L W h1 h2 hc => hc.set (by omega) (by omega) (by omega)) ?_
 simp only [tk',t0',dk',d0']
 repeat (go_big_quiet_step (fail))
 refine wpQuiet_nil ?_
 refine rQuiet_value (.slice a L.length c) (fun W => W) rfl (fun L w hD hi hc => ?_) ?_
 ·have h1 := ready_not hi
  have h13 := DCl.no hD (i := 4) (j := 7) (by kernel_rfl) h1
  have h15 := DCl.no hD (i := 7) (j := 10) (by kernel_rfl) h13
  refine ⟨exec_ldS _ _ _ 17 ⟨ub,0,none⟩ _ rfl rfl ?_,hc.set (by omega) (by omega) (by omega)⟩
  rcases hc.low h13 h15 with e | e <;> rw [e]
  ·exact M1.out
  ·exact M2.out
 simp only [Act.put,ta',sz',ss']
 refine rQuiet_value (.agg cs2.toArray) (fun W => W) rfl (fun L w hD hi hc => ?_) ?_
 ·have h1 := ready_not hi
  have h12 := DCl.no hD (i := 5) (j := 6) (by kernel_rfl) h1
  have h13 := DCl.no hD (i := 6) (j := 7) (by kernel_rfl) h12
  have h15 := DCl.no hD (i := 7) (j := 10) (by kernel_rfl) h13
  have hw := hc.one h12 h13 h15
  subst hw
  exact ⟨exec_load rfl rfl (run_loadAt_mid (P := Tryz.prog) _ pa 0 44 cs2 _ RX.out Tryz.underlying44 rfl HI38.out),hc.set (by omega) (by omega) (by omega)⟩
 simp only [Act.put,ta',sz',ss']
 refine rQuiet_value (.slice (some ⟨W1.heap.size,0,none⟩) 1 1) (fun _ => W2) rfl (fun L w hD hi hc => ?_) ?_
 ·have h12 := ready_not hi
  have h13 := DCl.no hD (i := 6) (j := 7) (by kernel_rfl) h12
  have h15 := DCl.no hD (i := 7) (j := 10) (by kernel_rfl) h13
  have hw := hc.one h12 h13 h15
  subst hw
  obtain ⟨i0,z0,hi0,hz0,hz1,hz2,hz3⟩ := infoM
  refine ⟨by rw [E2.out]; exact exec_bw _ _ _ 27 44 (.tmp 19) rfl cs2 rfl i0 z0 Tryz.underlying27 hi0 hz0 (by rw [hz1,HL38.out]) (by rw [HL38.out]; decide) (by rw [HL38.out]; decide) (fill_one cs2.length (by rw [HL38.out]; decide) _ cs2 (by simp) rfl),?_⟩
  exact lwD.at1 (by rw [hD.1]; decide) (by decide) (by decide) h13 h15
 simp only [Act.put,ta',sz',ss']
 refine rQuiet_value (v') (fun _ => W3) rfl (fun L w hD hi hc => ?_) ?_
 ·have h13 := ready_not hi
  have h12 : L.getD 6 false = true := ready_wait hi (i := 6) (by kernel_rfl)
  have h15 := DCl.no hD (i := 7) (j := 10) (by kernel_rfl) h13
  have hw := hc.two h12 h13 h15
  subst hw
  refine ⟨exec_app _ _ _ _ (.tmp 18) (.tmp 20) 27 _ rfl (by rw [E2.out]; exact HAPP.out),?_⟩
  exact lwD.at2 (by rw [hD.1]; decide) (by decide) h15
 simp only [Act.put,ta',sz',ss']
 refine rQuiet_value (.pointer (some ⟨ub,0,none⟩)) (fun W => W) rfl (fun L w hD hi hc => ?_) ?_
 ·exact ⟨exec_nil _ _ _ (.tmp 14) _ rfl rfl,hc.set (by omega) (by omega) (by omega)⟩
 simp only [Act.put,ta',sz',ss']
 refine rQuiet_head 1 (by decide) (by kernel_rfl) (fun i L W h1 h2 hc => hc.set (by omega) (by omega) (by omega)) ?_
 simp only [tk',t0',dk',d0']
 repeat (go_big_quiet_step (fail))
 refine wpQuiet_nil ?_
 refine rQuiet_put (fun _ => W5) rfl (fun L w hD hi hc => ?_) ?_
 ·have h15 := ready_not hi
  have h13 : L.getD 7 false = true := ready_wait hi (i := 7) (by kernel_rfl)
  have hw := hc.three h13 h15
  subst hw
  refine ⟨by rw [E5.out]; exact exec_stS _ _ _ 23 21 _ _ _ rfl rfl rfl HVF.out M3.out F3.out,?_⟩
  exact lwD.at3 (by rw [hD.1]; decide)
 intro w9 h9
 have hw9 : w9 = W5 := h9
 subst hw9
 clear h9 M1 M2 M3 F3 E2 E5 hne HAPP HVF
 have HK := hq' (UbK.after (bt B2.out BD.out) HUK.out)
 go_wp2
 go_ret
 exact ⟨_,rfl,HUB.out,HK.out⟩
theorem ubCopy_no (w0 w : World) (ub : Nat) (uv : Value) (L : List MX) (n : Int) (h : UbW w0 w ub uv L) (hl : L.length ≤ 256) (hn : ¬ (0 ≤ n ∧ n < L.length)) :
  Calls Tryz.prog 16 #[.pointer (some ⟨ub,0,none⟩),.int .i64 n] w (UPost w0 ub uv w (.bool false) L) := by
 obtain ⟨a,c,hve,_,_⟩ := h.o.form
 subst hve
 have H0 := hq' h
 clear h
 have c0 : w.cell? ⟨ub,0,none⟩ = some (.slice a L.length c) := H0.out.c.cell 0
 by_cases h0 : n < 0
 ·clear hn hl
  go_enter Tryz.func16,Tryz.ntmps16
  go_wp2
  go_ret
  exact ⟨_,rfl,H0.out,UbK.of (Below.refl _ _)⟩
 ·have h1 : (L.length : Int) ≤ n := by omega
  clear hn hl
  go_enter Tryz.func16,Tryz.ntmps16
  go_wp2
  go_ret
  exact ⟨_,rfl,H0.out,UbK.of (Below.refl _ _)⟩
theorem ubCopy_full (w0 w : World) (ub : Nat) (uv : Value) (L : List MX) (n : Int) (h : UbW w0 w ub uv L) (hl : L.length ≤ 256) (hf : L.length = 256) (hn : 0 ≤ n ∧ n < L.length) :
  Calls Tryz.prog 16 #[.pointer (some ⟨ub,0,none⟩),.int .i64 n] w (UPost w0 ub uv w (.bool false) L) := by
 obtain ⟨a,c,hve,_,_⟩ := h.o.form
 subst hve
 have H0 := hq' h
 clear h
 have c0 : w.cell? ⟨ub,0,none⟩ = some (.slice a L.length c) := H0.out.c.cell 0
 obtain ⟨hn0,hn1⟩ := hn
 have h0 : ¬ n < 0 := by omega
 have h1 : ¬ (L.length : Int) ≤ n := by omega
 have h2 : (256 : Int) ≤ (L.length : Int) := by omega
 clear hf hl hn0 hn1
 go_enter Tryz.func16,Tryz.ntmps16
 go_wp2
 go_ret
 exact ⟨_,rfl,H0.out,UbK.of (Below.refl _ _)⟩
theorem ubCopy_any (w0 w : World) (ub : Nat) (uv : Value) (L : List MX) (n : Int) (h : UbW w0 w ub uv L) (hl : L.length ≤ 256) (k : Nat) (x : MX) (hnk : n = (k : Int)) (hx0 : L[k]? = some x) (hm : MsgAt w x.m x.v) (hlt : L.length < 256) :
  Calls Tryz.prog 16 #[.pointer (some ⟨ub,0,none⟩),.int .i64 n] w (UPost w0 ub uv w (.bool true) (L ++ [x])) := by
 obtain ⟨a,c,hve,_,_⟩ := h.o.form
 subst hve
 have H0 := hq' h
 clear h
 have c0 : w.cell? ⟨ub,0,none⟩ = some (.slice a L.length c) := H0.out.c.cell 0
 subst hnk
 have hx : Hid (L[k]? = some x) := hx0
 have hkl : k < L.length := (List.getElem?_eq_some_iff.1 hx0).1
 obtain ⟨cs,hcs,hmv,_,HL38,HIL,HIA,HCA,HCO⟩ := mx_cells x w hm
 obtain ⟨g,off,c',e,hgl,hr⟩ := H0.out.o.atX (by omega)
 injection e with e1 e2 e3
 subst e1 e3
 have hrow : Hid (∀ W,Below w.heap.size w W → ∀ j u,(cellsX L)[j]? = some u → W.cell? ⟨g,off + j,none⟩ = some u) := fun W hW j u hu => (hW.cell (p := ⟨g,off + j,none⟩) hgl).trans (hr j u hu)
 have h0 : ¬ (k : Int) < 0 := by omega
 have h1 : ¬ (L.length : Int) ≤ (k : Int) := by omega
 have h1i : (k : Int) < (L.length : Int) := by omega
 have h2 : ¬ (256 : Int) ≤ (L.length : Int) := by omega
 clear hmv hm hx0 hr hgl e2 HIA HCA hl
 go_enter Tryz.func16,Tryz.ntmps16
 go_upto_region 3 with (fail)
 clear c0 h2
 obtain ⟨W1,hW1⟩ : ∃ W1,W1 = w.drew := ⟨_,rfl⟩
 have BD : Hid (Below w.heap.size w W1) := by rw [hW1]; exact (Below.refl _ _).drew
 have H1 := hq' (H0.out.below BD.out)
 obtain ⟨v',W3,happ,C3,hvf,hub,huk⟩ := ub_app x cs hcs HCO.out H1.out hlt
 obtain ⟨W2,hW2⟩ : ∃ W2,W2 = W1.alloc (.cells cs.toArray 44) := ⟨_,rfl⟩
 obtain ⟨W5,hW5⟩ : ∃ W5,W5 = W3.setCell ⟨ub,0,none⟩ v' := ⟨_,rfl⟩
 rw [← hW5] at hub huk
 have HAPP := hq' happ
 have HVF := hq' (show ∃ a n c,v' = .slice a n c from by obtain ⟨a',c',e⟩ := hvf; exact ⟨_,_,_,e⟩)
 have M1 : Hid (W1.cell? ⟨ub,0,none⟩ = some (.slice (some ⟨g,off,none⟩) L.length c)) := H1.out.c.cell 0
 have M2 : Hid (W2.cell? ⟨ub,0,none⟩ = some (.slice (some ⟨g,off,none⟩) L.length c)) := by rw [hW2]; exact (H1.out.c.alloc _).cell 0
 have M3 : Hid (W3.cell? ⟨ub,0,none⟩ = some (.slice (some ⟨g,off,none⟩) L.length c)) := C3.cell 0
 have F3 : Hid (W3.frozen? ⟨ub,0,none⟩ = false) := C3.free 0
 have HUB := hq' hub
 have HUK := hq' huk
 have E2 := hq' hW2
 have E5 := hq' hW5
 have EC := hq' hW1
 have RX : Hid (W1.rangeAt g (off + k * 38) cs) := fun j v hv => by
  rw [Nat.add_assoc]
  exact hrow.out W1 BD.out _ v (cellsX_at L k x hx.out j v (by rw [hcs]; exact hv))
 have HI38 := HIL
 clear happ C3 hvf hub huk hW1 hW2 hW5 H1
 have hne : Nonempty (AnyOf (lwD 12 13 16 W1 W2 W3 W5)) := ⟨⟨W1,Array.replicate 17 false,rfl⟩⟩
 refine wp_region_ranks (lwD 12 13 16 W1 W2 W3 W5) _ (by kernel_rfl) (by kernel_rfl) rfl (by rw [← EC.out]; rfl) ?_
 refine rQuiet_head 2 (by decide) (by kernel_rfl) (fun i L W h1 h2 hc => hc.set (by omega) (by omega) (by omega)) ?_
 simp only [tk',t0',dk',d0']
 repeat (go_big_quiet_step (fail))
 refine wpQuiet_nil ?_
 refine rQuiet_value (.pointer (some ⟨ub,0,none⟩)) (fun W => W) rfl (fun L w hD hi hc => ?_) ?_
 ·exact ⟨exec_nil _ _ _ (.tmp 25) _ rfl rfl,hc.set (by omega) (by omega) (by omega)⟩
 simp only [Act.put,ta',sz',ss']
 refine rQuiet_head 1 (by decide) (by kernel_rfl) (fun i L W h1 h2 hc => hc.set (by omega) (by omega) (by omega)) ?_
 simp only [tk',t0',dk',d0']
 repeat (go_big_quiet_step (fail))
 refine wpQuiet_nil ?_
 refine rQuiet_value (.slice (some ⟨g,off,none⟩) L.length c) (fun W => W) rfl (fun L w hD hi hc => ?_) ?_
 ·have h1 := ready_not hi
  have h13 := DCl.no hD (i := 4) (j := 13) (by kernel_rfl) h1
  have h15 := DCl.no hD (i := 13) (j := 16) (by kernel_rfl) h13
  refine ⟨exec_ldS _ _ _ 27 ⟨ub,0,none⟩ _ rfl rfl ?_,hc.set (by omega) (by omega) (by omega)⟩
  rcases hc.low h13 h15 with e | e <;> rw [e]
  ·exact M1.out
  ·exact M2.out
 simp only [Act.put,ta',sz',ss']
 refine rQuiet_head 1 (by decide) (by kernel_rfl) (fun i L W h1 h2 hc => hc.set (by omega) (by omega) (by omega)) ?_
 simp only [tk',t0',dk',d0']
 repeat (go_big_quiet_step (fail))
 refine wpQuiet_nil ?_
 refine rQuiet_value (.pointer (some ⟨ub,0,none⟩)) (fun W => W) rfl (fun L w hD hi hc => ?_) ?_
 ·exact ⟨exec_nil _ _ _ (.tmp 29) _ rfl rfl,hc.set (by omega) (by omega) (by omega)⟩
 simp only [Act.put,ta',sz',ss']
 refine rQuiet_head 1 (by decide) (by kernel_rfl) (fun i L W h1 h2 hc => hc.set (by omega) (by omega) (by omega)) ?_
 simp only [tk',t0',dk',d0']
 repeat (go_big_quiet_step (fail))
 refine wpQuiet_nil ?_
 refine rQuiet_value (.slice (some ⟨g,off,none⟩) L.length c) (fun W => W) rfl (fun L w hD hi hc => ?_) ?_
 ·have h1 := ready_not hi
  have h12 := DCl.no hD (i := 11) (j := 12) (by kernel_rfl) (DCl.no hD (i := 10) (j := 11) (by kernel_rfl) (DCl.no hD (i := 8) (j := 10) (by kernel_rfl) h1))
  have h13 := DCl.no hD (i := 12) (j := 13) (by kernel_rfl) h12
  have h15 := DCl.no hD (i := 13) (j := 16) (by kernel_rfl) h13
  have hw := hc.one h12 h13 h15
  subst hw
  exact ⟨exec_ldS _ _ _ 31 ⟨ub,0,none⟩ _ rfl rfl M1.out,hc.set (by omega) (by omega) (by omega)⟩
 simp only [Act.put,ta',sz',ss']
 refine rQuiet_head 2 (by decide) (by kernel_rfl) (fun i L W h1 h2 hc => hc.set (by omega) (by omega) (by omega)) ?_
 simp only [tk',t0',dk',d0']
 repeat (go_big_quiet_step (fail))
 refine wpQuiet_nil ?_
 refine rQuiet_value (.agg cs.toArray) (fun W => W) rfl (fun L w hD hi hc => ?_) ?_
 ·have h1 := ready_not hi
  have h12 := DCl.no hD (i := 11) (j := 12) (by kernel_rfl) h1
  have h13 := DCl.no hD (i := 12) (j := 13) (by kernel_rfl) h12
  have h15 := DCl.no hD (i := 13) (j := 16) (by kernel_rfl) h13
  have hw := hc.one h12 h13 h15
  subst hw
  exact ⟨exec_load rfl rfl (run_loadAt_mid (P := Tryz.prog) _ g (off + k * 38) 44 cs _ RX.out Tryz.underlying44 rfl HI38.out),hc.set (by omega) (by omega) (by omega)⟩
 simp only [Act.put,ta',sz',ss']
 refine rQuiet_value (.slice (some ⟨W1.heap.size,0,none⟩) 1 1) (fun _ => W2) rfl (fun L w hD hi hc => ?_) ?_
 ·have h12 := ready_not hi
  have h13 := DCl.no hD (i := 12) (j := 13) (by kernel_rfl) h12
  have h15 := DCl.no hD (i := 13) (j := 16) (by kernel_rfl) h13
  have hw := hc.one h12 h13 h15
  subst hw
  obtain ⟨i0,z0,hi0,hz0,hz1,hz2,hz3⟩ := infoM
  refine ⟨by rw [E2.out]; exact exec_bw _ _ _ 27 44 (.tmp 35) rfl cs rfl i0 z0 Tryz.underlying27 hi0 hz0 (by rw [hz1,HL38.out]) (by rw [HL38.out]; decide) (by rw [HL38.out]; decide) (fill_one cs.length (by rw [HL38.out]; decide) _ cs (by simp) rfl),?_⟩
  exact lwD.at1 (by rw [hD.1]; decide) (by decide) (by decide) h13 h15
 simp only [Act.put,ta',sz',ss']
 refine rQuiet_value (v') (fun _ => W3) rfl (fun L w hD hi hc => ?_) ?_
 ·have h13 := ready_not hi
  have h12 : L.getD 12 false = true := ready_wait hi (i := 12) (by kernel_rfl)
  have h15 := DCl.no hD (i := 13) (j := 16) (by kernel_rfl) h13
  have hw := hc.two h12 h13 h15
  subst hw
  refine ⟨exec_app _ _ _ _ (.tmp 28) (.tmp 36) 27 _ rfl (by rw [E2.out]; exact HAPP.out),?_⟩
  exact lwD.at2 (by rw [hD.1]; decide) (by decide) h15
 simp only [Act.put,ta',sz',ss']
 refine rQuiet_value (.pointer (some ⟨ub,0,none⟩)) (fun W => W) rfl (fun L w hD hi hc => ?_) ?_
 ·exact ⟨exec_nil _ _ _ (.tmp 24) _ rfl rfl,hc.set (by omega) (by omega) (by omega)⟩
 simp only [Act.put,ta',sz',ss']
 refine rQuiet_head 1 (by decide) (by kernel_rfl) (fun i L W h1 h2 hc => hc.set (by omega) (by omega) (by omega)) ?_
 simp only [tk',t0',dk',d0']
 repeat (go_big_quiet_step (fail))
 refine wpQuiet_nil ?_
 refine rQuiet_put (fun _ => W5) rfl (fun L w hD hi hc => ?_) ?_
 ·have h15 := ready_not hi
  have h13 : L.getD 13 false = true := ready_wait hi (i := 13) (by kernel_rfl)
  have hw := hc.three h13 h15
  subst hw
  refine ⟨by rw [E5.out]; exact exec_stS _ _ _ 39 37 _ _ _ rfl rfl rfl HVF.out M3.out F3.out,?_⟩
  exact lwD.at3 (by rw [hD.1]; decide)
 intro w9 h9
 have hw9 : w9 = W5 := h9
 subst hw9
 clear h9 M1 M2 M3 F3 E2 E5 hne HAPP HVF
 have HK := hq' (UbK.after BD.out HUK.out)
 go_wp2
 go_ret
 exact ⟨_,rfl,HUB.out,HK.out⟩
end Go.Proofs.YtbljbdjmgogknaaGreatDoor
