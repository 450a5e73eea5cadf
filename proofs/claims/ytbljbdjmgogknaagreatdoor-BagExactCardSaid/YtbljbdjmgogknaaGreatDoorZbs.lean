/-
  Hb: texts of one proof, one behind the other.
  Conditions: none of its own.
-/
import Derived.Test.YtbljbdjmgogknaaGreatDoorZbr
set_option linter.unusedVariables false
set_option linter.unusedSimpArgs false
set_option maxHeartbeats 6400000
set_option maxRecDepth 20000
namespace Go.Proofs.YtbljbdjmgogknaaGreatDoor
open Go.RowKit
theorem box_row (W : World) (zs cs : List Value) (t : TypeId) : ∃ W',(W.alloc (.cells zs.toArray t)).setRow W.heap.size cs.toArray = W' ∧ Hid (Cl W' W.heap.size cs t) ∧ Hid (Below W.heap.size W W') ∧ Hid ((W.alloc (.cells zs.toArray t)).heap[W.heap.size]? = some (.cells zs.toArray t (0,0))) := by
 have c := Cl.new W zs t
 have r := c.row cs.toArray
 rw [List.toList_toArray] at r
 exact ⟨_,rfl,r,((Below.refl _ W).alloc (Nat.le_refl _) _).trans ((Keeps.row (S := fun j => j = W.heap.size) (W.alloc (.cells zs.toArray t)) W.heap.size cs.toArray rfl).toBelow (by simp) (fun k hk e => by omega)),c⟩
theorem res_row {W w : World} {pr : Nat} {zc : List Value} {t : TypeId} (c : Cl W pr zc t) (ds : List Value) : ∃ wf,W.setRow pr ds.toArray = wf ∧ Hid (Cl wf pr ds t) ∧ Hid (Keeps (fun j => j = pr) W wf) := by
 have r := c.row ds.toArray
 rw [List.toList_toArray] at r
 exact ⟨_,rfl,r,Keeps.row _ _ _ rfl⟩
theorem ubTake_no (w0 w : World) (ub : Nat) (uv : Value) (L : List MX) (n : Int) (h : UbW w0 w ub uv L) (hl : L.length ≤ 256) (hn : ¬ (0 ≤ n ∧ n < L.length)) :
  Calls Tryz.prog 13 #[.pointer (some ⟨ub,0,none⟩),.int .i64 n] w (UPost w0 ub uv w (.tuple #[msgV Wi.zMsg zeroV,.bool false]) L) := by
 obtain ⟨a,c,hve,_,_⟩ := h.o.form
 subst hve
 obtain ⟨w1,hw1,C1,B1⟩ := oneBox (w := w) (zt0) 44
 have HW1 := hq' hw1
 have H1 := hq' (h.below B1.out)
 have c0 : w1.cell? ⟨ub,0,none⟩ = some (.slice a L.length c) := H1.out.c.cell 0
 have HIL : Hid ((Tryz.prog.info? 44).map (·.size) = some ((zt0) : List Value).length) := by rw [Hid]; kernel_rfl
 have HIA : Hid ((Tryz.prog.info? 44).map (·.size) = some ((zt0).toArray : Array Value).size) := by rw [Hid]; kernel_rfl
 have HONE : Hid (((zt0).toArray : Array Value).all (·.oneCell') = true) := by simp [Hid,Value.oneCell']
 have CQ : Hid (w1.heap[w.heap.size]? = some (.cells (zt0).toArray 44 (0,0))) := C1.out
 obtain ⟨wf,hwf,CF,KF⟩ := res_row (w := w) C1.out (zt0)
 have HWF := hq' hwf
 have BF : Hid (Below w.heap.size w wf) := B1.out.trans (KF.out.toBelow B1.out.size (fun j hj e => by omega))
 have HR := hq' (h.below BF.out)
 clear hw1 hwf h
 go_enter Tryz.func13,Tryz.ntmps13
 obtain ⟨BP,hBP⟩ : ∃ BP,BP = bodyPost Tryz.prog Tryz.f13 (UPost w0 ub (.slice a L.length c) w (.tuple #[msgV Wi.zMsg zeroV,.bool false]) L) := ⟨_,rfl⟩
 rw [← hBP]
 have HBP := hq' hBP
 clear hBP
 go_upto_region 1 with (fail)
 first | rw [HW1.out] | skip
 clear HW1 B1 C1 H1 KF
 by_cases h0 : n < 0
 ·clear hn hl
  go_wp2_with (first
   | (refine wpList_store_row (by rfl) _ _ _ (by rfl) w.heap.size (zt0).toArray (by rfl) (by rfl) 44 _ CQ.out HIA.out rfl HONE.out ?_)
   | fail)
  first | rw [HWF.out] | skip
  rw [HBP.out]
  refine bodyPost_ret (results_cl_tmp rfl _ _ _ _ _ _ rfl CF.out Tryz.underlying44 rfl HIL.out) rfl ?_
  exact ⟨_,rfl,HR.out,UbK.of BF.out⟩
 ·have h1 : (L.length : Int) ≤ n := by omega
  clear hn hl
  go_wp2_with (first
   | (refine wpList_store_row (by rfl) _ _ _ (by rfl) w.heap.size (zt0).toArray (by rfl) (by rfl) 44 _ CQ.out HIA.out rfl HONE.out ?_)
   | fail)
  first | rw [HWF.out] | skip
  rw [HBP.out]
  refine bodyPost_ret (results_cl_tmp rfl _ _ _ _ _ _ rfl CF.out Tryz.underlying44 rfl HIL.out) rfl ?_
  exact ⟨_,rfl,HR.out,UbK.of BF.out⟩
theorem ubTake_any (w0 w : World) (ub : Nat) (uv : Value) (L : List MX) (n : Int) (h : UbW w0 w ub uv L) (hl : L.length ≤ 256) (k : Nat) (x : MX) (hnk : n = (k : Int)) (hx0 : L[k]? = some x) (hm : ∀ y ∈ L,MsgAt w0 y.m y.v) :
  Calls Tryz.prog 13 #[.pointer (some ⟨ub,0,none⟩),.int .i64 n] w (UPost w0 ub uv w (.tuple #[msgV x.m x.v,.bool true]) (L.eraseIdx k)) := by
 subst hnk
 obtain ⟨a,cp,hve,hcapn,_⟩ := h.o.form
 subst hve
 have hkl : k < L.length := (List.getElem?_eq_some_iff.1 hx0).1
 obtain ⟨i0,z0,hi,hz0,hz1,hz2,hz3⟩ := infoM
 have hmx : MsgAt w x.m x.v := (hm x (List.mem_of_getElem? hx0)).kept h.b
 obtain ⟨cs,hcs,hmv,_,HL38,HIL,HIA,HCA,HCO⟩ := mx_cells x w hmx
 rw [hmv]
 obtain ⟨g,off,c',e,hgl,hr⟩ := h.o.atX (by omega)
 injection e with e1 e2 e3
 subst e1 e3
 obtain ⟨w1,hw1,C1,B1⟩ := oneBox (w := w) (zt0) 44
 have HW1 := hq' hw1
 have H1 := hq' (h.below B1.out)
 have HROW : Hid (∀ W,Below w.heap.size w W → ∀ j u,(cellsX L)[j]? = some u → W.cell? ⟨g,off + j,none⟩ = some u) := fun W hW j u hu => (hW.cell (p := ⟨g,off + j,none⟩) hgl).trans (hr j u hu)
 have RX : Hid (w1.rangeAt g (off + k * 38) cs) := fun j v hv => by
  rw [Nat.add_assoc]
  exact HROW.out w1 B1.out _ v (cellsX_at L k x hx0 j v (by rw [hcs]; exact hv))
 have HSZ : Hid ((((zt0)).toArray : Array Value).size = (cs.toArray : Array Value).size) := by rw [Hid,List.size_toArray,List.size_toArray,HL38.out]; rfl
 obtain ⟨w2,hw2,CM,B2,Q2⟩ := box_row w1 (zt0) cs 44
 have HW2 := hq' hw2
 have H2 := hq' (H1.out.below B2.out)
 have C2 := hq' (C1.out.below B2.out)
 have BB := hq' (bt B1.out B2.out)
 have hprl : w.heap.size < w1.heap.size := C1.out.lt
 have h0 : ¬ (k : Int) < 0 := by omega
 have h1 : ¬ (L.length : Int) ≤ (k : Int) := by omega
 have h1i : (k : Int) < (L.length : Int) := by omega
 have c0 : w1.cell? ⟨ub,0,none⟩ = some (.slice (some ⟨g,off,none⟩) L.length cp) := H1.out.c.cell 0
 have HM := hq' hm
 have hul := h.c.lt
 have HUN := hq' h.n
 have HG0 := hq' h.g
 clear hw1 hw2 h hmx hmv hx0 hgl hr e2 hm
 go_enter Tryz.func13,Tryz.ntmps13
 obtain ⟨BP,hBP⟩ : ∃ BP,BP = bodyPost Tryz.prog Tryz.f13 (UPost w0 ub (.slice (some ⟨g,off,none⟩) L.length cp) w (.tuple #[.agg cs.toArray,.bool true]) (L.eraseIdx k)) := ⟨_,rfl⟩
 rw [← hBP]
 have HBP := hq' hBP
 clear hBP
 go_upto_region 1 with (fail)
 first | rw [HW1.out] | skip
 clear HW1
 go_upto_region 4 with (first
  | (refine wpList_load_mid (by rfl) _ _ (by rfl) g (off + k * 38) (by rfl) cs _ RX.out Tryz.underlying44 (by rfl) HIL.out ?_)
  | (refine wpList_store_row (by rfl) _ _ _ (by rfl) w1.heap.size cs.toArray (by rfl) (by rfl) 44 _ Q2.out HIA.out HSZ.out HCA.out ?_)
  | fail)
 first | rw [HW2.out] | skip
 clear HW2 Q2 RX c0 H1 C1 B1 B2
 obtain ⟨pr,hpr⟩ : ∃ pr,pr = w.heap.size := ⟨_,rfl⟩
 rw [← hpr] at C2
 first | rw [← hpr] | skip
 have HPR := hq' hpr
 rw [← hpr] at hprl
 clear hpr
 generalize w1.heap.size = pm at *
 have c0 : w2.cell? ⟨ub,0,none⟩ = some (.slice (some ⟨g,off,none⟩) L.length cp) := H2.out.c.cell 0
 have c0a : (w2.alloc (.cells #[] 44)).cell? ⟨ub,0,none⟩ = some (.slice (some ⟨g,off,none⟩) L.length cp) := (H2.out.c.alloc _).cell 0
 have hgb := H2.out.b.size
 have hslP := fun W => slice_to (P := Tryz.prog) 27 44 i0 Tryz.underlying27 hi (some ⟨g,off,none⟩) L.length cp k (k : Int) .i64 rfl (by omega) (.inr ⟨g,off,rfl⟩) W
 have hslS := fun W => slice_fromN (P := Tryz.prog) 27 44 i0 Tryz.underlying27 hi 38 hz1 g off L.length cp (k + 1) (by omega) ((k : Int) + 1) (by omega) W
 obtain ⟨AS,hAS⟩ : ∃ A : Addr,(if cp = k + 1 then (⟨g,off,none⟩ : Addr) else ⟨g,off + (k + 1) * 38,none⟩) = A := ⟨_,rfl⟩
 have hmade : Hid (Sl (w2.alloc (.cells #[] 44)) w0.heap.size 38 (.slice (some ⟨w2.heap.size,0,none⟩) 0 0) 0 []) := Sl.ofOwn (e := 44) (World.ownsRow_made w2 #[] 0 hgb (by unfold maxLen; omega) rfl)
 have HS2 : Hid (∀ j u,(cellsX L)[j]? = some u → w2.cell? ⟨g,off + j,none⟩ = some u) := fun j u hu => HROW.out w2 BB.out j u hu
 have hsrcP : Hid (SrcIs (w2.alloc (.cells #[] 44)) 38 (.slice (some ⟨g,off,none⟩) k cp) k (cellsX (L.take k))) := srcXP (fun j u hu => (((Below.refl _ _).alloc (Nat.le_refl _) _).cell (p := ⟨g,off + j,none⟩) (World.block_lt_of_cell? w2 _ (HS2.out j u hu))).trans (HS2.out j u hu)) (by omega)
 have HER : Hid (cellsX (L.eraseIdx k) = cellsX (L.take k) ++ cellsX (L.drop (k + 1))) := cellsX_erase L k
 have HEL : Hid ((L.eraseIdx k).length = L.length - 1) := List.length_eraseIdx_of_lt hkl
 rw [hAS] at hslS
 have HAS := hq' hAS
 have hone1 := hq' (cellsX_one w0 (L.take k) (fun x hx => HM.out x (List.mem_of_mem_take hx)))
 have hone2 := hq' (cellsX_one w0 (L.drop (k + 1)) (fun x hx => HM.out x (List.mem_of_mem_drop hx)))
 clear hAS
 go_wp2_with (at_builtin; refine wpList_append_sl rfl (.tmp 27) (.tmp 33) 27 rfl 44 i0 z0 38 432 Tryz.underlying27 hi hz0 hz1 hz2 hz3 (by decide) w0.heap.size _ _ _ rfl hmade.out _ _ _ rfl hsrcP.out hone1.out ?_ ?_ ?_ ?_)
 ·unfold maxLen; omega
 ·omega
 ·first | omega | (rw [World.size_alloc]; omega) | (simp; omega)
 intro rv w10 hown10 hgr10 hnew10
 have b10 : Below w2.heap.size w2 w10 := ((Below.refl _ _).alloc (Nat.le_refl _) _).grown hgr10 (by simp) (fun k hk => by simp [Value.ownBlock] at hk; omega)
 have hfr : Hid (∀ j,rv.ownBlock = some j → w2.heap.size ≤ j) := fun j hj => by
  rcases hnew10 with e | e
  ·rw [e] at hj; simp [Value.ownBlock] at hj; omega
  ·have := e j hj; omega
 have B10 := hq' b10
 have SL10 : Hid (Sl w10 w0.heap.size 38 rv k (cellsX (L.take k))) := by
  show Sl _ _ _ _ _ _
  simpa using hown10
 have H10 := hq' (H2.out.below b10)
 have hsrcS : Hid (SrcIs w10 38 (.slice (some AS) (L.length - (k + 1)) (cp - (k + 1))) (L.length - (k + 1)) (cellsX (L.drop (k + 1)))) := by
  have := srcXA (w := w10) (g := g) (off := off) (k := k + 1) (cap := cp) (n := L.length) (L := L) (fun j u hu => (b10.cell (p := ⟨g,off + j,none⟩) (World.block_lt_of_cell? w2 _ (HS2.out j u hu))).trans (HS2.out j u hu)) rfl (by omega) hcapn
  rw [HAS.out] at this
  exact this
 have hgb10 := H10.out.b.size
 obtain ⟨ar,capr,hrv,_⟩ := SL10.out.form
 subst hrv
 have c0b : w10.cell? ⟨ub,0,none⟩ = some (.slice (some ⟨g,off,none⟩) L.length cp) := H10.out.c.cell 0
 clear hown10 hgr10 hnew10 b10 hmade hsrcP hslP c0 c0a
 go_wp2_with (at_builtin; refine wpList_append_sl rfl (.tmp 36) (.tmp 43) 27 rfl 44 i0 z0 38 432 Tryz.underlying27 hi hz0 hz1 hz2 hz3 (by decide) w0.heap.size _ _ _ rfl SL10.out _ _ _ rfl hsrcS.out hone2.out ?_ ?_ ?_ ?_)
 ·unfold maxLen; omega
 ·omega
 ·omega
 intro wv' w11 hown hgr hnew
 have b11 : Below w2.heap.size w2 w11 := B10.out.grown hgr B10.out.size (fun k hk => hfr.out k hk)
 have hfr2 : Hid (∀ j,wv'.ownBlock = some j → w2.heap.size ≤ j) := fun j hj => by
  rcases hnew with e | e
  ·exact hfr.out j (e ▸ hj)
  ·exact Nat.le_trans B10.out.size (e j hj)
 have hul2 : ub < w2.heap.size := H2.out.c.lt
 have K12 : Keeps (fun j => j = ub) w11 (w11.setCell ⟨ub,0,none⟩ wv') := Keeps.setCell _ _ _ _ rfl
 have SN : Hid (Sl w11 w0.heap.size 38 wv' (L.eraseIdx k).length (cellsX (L.eraseIdx k))) := by
  rw [HER.out,HEL.out,show L.length - 1 = k + (L.length - (k + 1)) by omega]
  exact hown
 obtain ⟨aw,cw,hwv,_⟩ := SN.out.form
 have H12 : Hid (UbW w0 (w11.setCell ⟨ub,0,none⟩ wv') ub wv' (L.eraseIdx k)) := ⟨by
   have := (H2.out.c.below b11).set 0 wv'
   exact this,SN.out.kept K12 (fun j hj e => by have := hfr2.out j hj; omega),H2.out.g,fun j hj e => by have := hfr2.out j hj; omega,
  (H2.out.b.trans (b11.mono (by have := hgb; omega))).trans (K12.toBelow (by have := b11.size; omega) (fun j hj e => by have := H2.out.g; omega))⟩
 have KK : Hid (UbK ub (.slice (some ⟨g,off,none⟩) L.length cp) wv' w (w11.setCell ⟨ub,0,none⟩ wv')) :=
  ⟨((Keeps.below _ (bt BB.out b11)).trans (K12.mono fun j _ e => .inl e)),fun j hj => .inr (Nat.le_trans BB.out.size (hfr2.out j hj))⟩
 have CM12 : Hid (Cl (w11.setCell ⟨ub,0,none⟩ wv') pm cs 44) := (CM.out.below b11).keep K12 (fun e => by have h1 := HPR.out; have h2 := hul; have e2 : pm = ub := e; omega)
 have CR12 : Hid (Cl (w11.setCell ⟨ub,0,none⟩ wv') pr (zt0) 44) := (C2.out.below b11).keep K12 (fun e => by have h1 := HPR.out; have h2 := hul; have e2 : pr = ub := e; omega)
 have hwv9' : wv' = .slice aw (k + (L.length - (k + 1))) cw := by rw [HEL.out] at hwv; rw [hwv]; congr 1; omega
 have cu : w11.cell? ⟨ub,0,none⟩ = some (.slice (some ⟨g,off,none⟩) L.length cp) := (H2.out.c.below b11).cell 0
 have fu := (H2.out.c.below b11).free 0
 clear hwv
 subst hwv9'
 clear hown hgr hnew SL10 hsrcS b11 B10 K12
 go_upto_region 6 with (fail)
 clear cu fu
 generalize w11.setCell ⟨ub,0,none⟩ (.slice aw (k + (L.length - (k + 1))) cw) = w12 at *
 have RM := hq' CM12.out.range
 have CQ : Hid (w12.heap[pr]? = some (.cells (zt0).toArray 44 (0,0))) := CR12.out
 obtain ⟨wf,hwf,CF,KF⟩ := res_row (w := w) CR12.out cs
 have HWF := hq' hwf
 have hsw := KK.out.k.size
 have HF : Hid (UbW w0 wf ub (.slice aw (k + (L.length - (k + 1))) cw) (L.eraseIdx k)) := H12.out.keep KF.out (fun e => by have h1 := HPR.out; have h2 := hul; have e2 : ub = pr := e; omega) (fun j hj e => by have := hfr2.out j hj; have := BB.out.size; have := HPR.out; have := CM.out.lt; omega) (fun j hj e => by have := HPR.out; have := H2.out.b.size; have := HG0.out; omega)
 have KF2 : Hid (UbK ub (.slice (some ⟨g,off,none⟩) L.length cp) (.slice aw (k + (L.length - (k + 1))) cw) w wf) := ⟨KK.out.k.fresh KF.out (fun j hj e => by have h1 := HPR.out; have e2 : j = pr := e; omega),KK.out.n⟩
 clear hwf
 go_wp2_with (first
  | (refine wpList_load_mid (by rfl) _ _ (by rfl) pm 0 (by rfl) cs _ RM.out Tryz.underlying44 (by rfl) HIL.out ?_)
  | (refine wpList_store_row (by rfl) _ _ _ (by rfl) pr cs.toArray (by rfl) (by rfl) 44 _ CQ.out HIA.out HSZ.out HCA.out ?_)
  | fail)
 first | rw [HWF.out] | skip
 rw [HBP.out]
 refine bodyPost_ret (results_cl_tmp rfl _ _ _ _ _ _ rfl CF.out Tryz.underlying44 rfl HIL.out) rfl ?_
 exact ⟨_,rfl,HF.out,KF2.out⟩
end Go.Proofs.YtbljbdjmgogknaaGreatDoor
