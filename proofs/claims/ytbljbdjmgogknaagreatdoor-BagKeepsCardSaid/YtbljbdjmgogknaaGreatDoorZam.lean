/-
  Gc / Wg0 / Gf / Gd: texts of one proof, one behind the other.
  Conditions: none of its own.
-/
import Derived.Test.YtbljbdjmgogknaaGreatDoorZae
import Derived.Test.YtbljbdjmgogknaaGreatDoorZaj
import Derived.Test.YtbljbdjmgogknaaGreatDoorZal
set_option linter.unusedVariables false
set_option linter.unusedSimpArgs false
namespace Go.Proofs.YtbljbdjmgogknaaGreatDoor
open Go.RowKit
def DecPost (D : List Value → World → Prop) (W : World) (e : Ending) (w' : World) : Prop :=
 ∃ cs, e = .returned (.tuple #[.agg cs.toArray, .int .i64 0]) ∧ cs.length = 38 ∧ cs.all (·.oneCell') = true ∧ Below W.heap.size W w' ∧ (∀ S b, Keeps S w' b → (∀ j, W.heap.size ≤ j → j < w'.heap.size → ¬ S j) → D cs b)
def TakePost (B pb : Nat) (lv : Value) (l : List Item) (D : List Value → World → Prop) (w : World) (e : Ending) (w' : World) : Prop :=
 ∃ cs lv', e = .returned (.tuple #[.agg cs.toArray, .bool true]) ∧ D cs w' ∧ BagW w' B pb lv' l ∧ BagK pb lv lv' w w'
set_option maxRecDepth 20000 in
set_option maxHeartbeats 3200000 in
theorem bagTake_any (B pb : Nat) (lv : Value) (l : List Item) (k : Nat) (x : Item) (hx : l[k]? = some x) (D : List Value → World → Prop) (w : World) (h : BagW w B pb lv l) (hB : B ≤ w.heap.size)
  (HD : ∀ W, Below w.heap.size w W → Calls Tryz.prog 26 #[.string ⟨x.1.toArray⟩] W (DecPost D W)) :
  Calls Tryz.prog 12 #[.pointer (some ⟨pb, 0, none⟩), .int .i64 k] w (TakePost B pb lv (l.eraseIdx k) D w) := by
 have H0 := Lib.hid h
 have HDD := Lib.hid HD
 have hk : k < l.length := (List.getElem?_eq_some_iff.1 hx).1
 have hm := h.m
 have HX := Lib.hid hx
 clear h HD hx
 have HI38 := Lib.hid (show (Tryz.prog.info? 44).map (·.size) = some 38 by kernel_rfl)
 go_enter Tryz.func12, Tryz.ntmps12
 obtain ⟨w1, hw1, CR, B1⟩ := oneBox (w := w) (.int .i64 0 :: .int .i64 0 :: .int .i64 0 :: .int .i64 0 :: .int .i64 0 :: .int .i64 0 :: .int .i64 0 :: .int .i64 0 :: .int .i64 0 :: .slice none 0 0 :: .int .i64 0 :: .slice none 0 0 :: .int .i64 0 :: .int .i64 0 :: .int .i64 0 :: .int .i64 0 :: .int .i64 0 :: .slice none 0 0 :: .slice none 0 0 :: .int .i64 0 :: .int .i64 0 :: .int .i64 0 :: .int .i64 0 :: .int .i64 0 :: .int .i64 0 :: .int .i64 0 :: .int .i64 0 :: .string ⟨#[]⟩ :: .string ⟨#[]⟩ :: .slice none 0 0 :: .int .i64 0 :: .int .i64 0 :: .int .i64 0 :: .int .i64 0 :: .int .i64 0 :: .int .i64 0 :: .slice none 0 0 :: .slice none 0 0 :: []) 44
 have HW1 := Lib.hid hw1
 clear hw1
 go_upto_region 1 with (fail)
 first | rw [HW1.out] | skip
 clear HW1
 have H1 := Lib.hid (H0.out.below B1.out)
 have HH := bagHas_any B pb lv l k w1 H1.out
 rw [show decide (0 ≤ (k : Int) ∧ (k : Int) < (l.length : Int)) = true from decide_eq_true (by omega)] at HH
 have HHA := Lib.hid HH
 clear HH
 obtain ⟨pr, hpr⟩ : ∃ pr, pr = w.heap.size := ⟨_, rfl⟩
 rw [← hpr] at CR
 first | rw [← hpr] | skip
 have HPR := Lib.hid hpr
 clear hpr
 have HD1 := Lib.hid (HDD.out _ B1.out)
 have HDEL := Lib.hid (fun (W : World) => bagDelete B l k hk hm lv W)
 have hpl := H0.out.c.lt
 have hol : Hid (∀ j, lv.ownBlock = some j → j < w.heap.size) := fun j hj => (H0.out.s.lt j hj).2
 have hnb : Hid (∀ j, lv.ownBlock = some j → j ≠ pb) := H0.out.n
 have hbb : B ≤ pb := H0.out.b
 have hbo : Hid (∀ j, lv.ownBlock = some j → B ≤ j) := fun j hj => (H0.out.s.lt j hj).1
 have hpc := HPR.out
 have hpne : pr ≠ pb := by omega
 clear hpc
 have s1 : Sl w1 B 2 lv l.length (itC l) := H1.out.s
 rcases s1.2 with ⟨_, h0⟩ | ⟨g, off, cap, hlv, hgB, hg, hnc, hmc, hr, ht⟩
 ·omega
 subst hlv
 have c1 : w1.cell? ⟨pb, 0, none⟩ = some (.slice (some ⟨g, off, none⟩) l.length cap) := H1.out.c.cell 0
 have cx : w1.cell? ⟨g, off + k * 2, none⟩ = some (.string ⟨x.1.toArray⟩) := hr _ _ (itC_at HX.out).1
 have hki : (k : Int) < (l.length : Int) := by omega
 clear s1 hr ht HDD
 go_upto_region 3 with (first
  | (refine HHA.out.mono ?_; rintro e w2 ⟨rfl, rfl⟩))
 clear HHA
 go_wp2_with fail
 refine HD1.out.mono ?_
 rintro e w3 ⟨cs, rfl, hlen, hone, hb3, hD3⟩
 have B3 := Lib.hid hb3
 have HD3 := Lib.hid hD3
 have H3 := Lib.hid (H1.out.below hb3)
 have C3 := Lib.hid (CR.out.below hb3)
 have HLEN := Lib.hid hlen
 have HON := Lib.hid hone
 clear hb3 hD3 c1 cx HD1 hlen hone
 have HOA : Hid ((cs.toArray : Array Value).all (·.oneCell') = true) := by rw [Hid, List.all_toArray]; exact HON.out
 have HIA : Hid ((Tryz.prog.info? 44).map (·.size) = some (cs.toArray : Array Value).size) := by rw [Hid, HI38.out, List.size_toArray, HLEN.out]
 have HIL : Hid ((Tryz.prog.info? 44).map (·.size) = some cs.length) := by rw [Hid, HI38.out, HLEN.out]
 have HSZ : Hid (((.int .i64 0 :: .int .i64 0 :: .int .i64 0 :: .int .i64 0 :: .int .i64 0 :: .int .i64 0 :: .int .i64 0 :: .int .i64 0 :: .int .i64 0 :: .slice none 0 0 :: .int .i64 0 :: .slice none 0 0 :: .int .i64 0 :: .int .i64 0 :: .int .i64 0 :: .int .i64 0 :: .int .i64 0 :: .slice none 0 0 :: .slice none 0 0 :: .int .i64 0 :: .int .i64 0 :: .int .i64 0 :: .int .i64 0 :: .int .i64 0 :: .int .i64 0 :: .int .i64 0 :: .int .i64 0 :: .string ⟨#[]⟩ :: .string ⟨#[]⟩ :: .slice none 0 0 :: .int .i64 0 :: .int .i64 0 :: .int .i64 0 :: .int .i64 0 :: .int .i64 0 :: .int .i64 0 :: .slice none 0 0 :: .slice none 0 0 :: []).toArray : Array Value).size = (cs.toArray : Array Value).size) := by rw [Hid]; show _ = cs.length; rw [HLEN.out]; rfl
 have CM : Hid ((w3.alloc (.cells (.int .i64 0 :: .int .i64 0 :: .int .i64 0 :: .int .i64 0 :: .int .i64 0 :: .int .i64 0 :: .int .i64 0 :: .int .i64 0 :: .int .i64 0 :: .slice none 0 0 :: .int .i64 0 :: .slice none 0 0 :: .int .i64 0 :: .int .i64 0 :: .int .i64 0 :: .int .i64 0 :: .int .i64 0 :: .slice none 0 0 :: .slice none 0 0 :: .int .i64 0 :: .int .i64 0 :: .int .i64 0 :: .int .i64 0 :: .int .i64 0 :: .int .i64 0 :: .int .i64 0 :: .int .i64 0 :: .string ⟨#[]⟩ :: .string ⟨#[]⟩ :: .slice none 0 0 :: .int .i64 0 :: .int .i64 0 :: .int .i64 0 :: .int .i64 0 :: .int .i64 0 :: .int .i64 0 :: .slice none 0 0 :: .slice none 0 0 :: []).toArray 44)).heap[w3.heap.size]? = some (.cells (.int .i64 0 :: .int .i64 0 :: .int .i64 0 :: .int .i64 0 :: .int .i64 0 :: .int .i64 0 :: .int .i64 0 :: .int .i64 0 :: .int .i64 0 :: .slice none 0 0 :: .int .i64 0 :: .slice none 0 0 :: .int .i64 0 :: .int .i64 0 :: .int .i64 0 :: .int .i64 0 :: .int .i64 0 :: .slice none 0 0 :: .slice none 0 0 :: .int .i64 0 :: .int .i64 0 :: .int .i64 0 :: .int .i64 0 :: .int .i64 0 :: .int .i64 0 :: .int .i64 0 :: .int .i64 0 :: .string ⟨#[]⟩ :: .string ⟨#[]⟩ :: .slice none 0 0 :: .int .i64 0 :: .int .i64 0 :: .int .i64 0 :: .int .i64 0 :: .int .i64 0 :: .int .i64 0 :: .slice none 0 0 :: .slice none 0 0 :: []).toArray 44 (0, 0))) := Cl.new w3 (.int .i64 0 :: .int .i64 0 :: .int .i64 0 :: .int .i64 0 :: .int .i64 0 :: .int .i64 0 :: .int .i64 0 :: .int .i64 0 :: .int .i64 0 :: .slice none 0 0 :: .int .i64 0 :: .slice none 0 0 :: .int .i64 0 :: .int .i64 0 :: .int .i64 0 :: .int .i64 0 :: .int .i64 0 :: .slice none 0 0 :: .slice none 0 0 :: .int .i64 0 :: .int .i64 0 :: .int .i64 0 :: .int .i64 0 :: .int .i64 0 :: .int .i64 0 :: .int .i64 0 :: .int .i64 0 :: .string ⟨#[]⟩ :: .string ⟨#[]⟩ :: .slice none 0 0 :: .int .i64 0 :: .int .i64 0 :: .int .i64 0 :: .int .i64 0 :: .int .i64 0 :: .int .i64 0 :: .slice none 0 0 :: .slice none 0 0 :: []) _
 have C5 : Hid (Cl ((w3.alloc (.cells (.int .i64 0 :: .int .i64 0 :: .int .i64 0 :: .int .i64 0 :: .int .i64 0 :: .int .i64 0 :: .int .i64 0 :: .int .i64 0 :: .int .i64 0 :: .slice none 0 0 :: .int .i64 0 :: .slice none 0 0 :: .int .i64 0 :: .int .i64 0 :: .int .i64 0 :: .int .i64 0 :: .int .i64 0 :: .slice none 0 0 :: .slice none 0 0 :: .int .i64 0 :: .int .i64 0 :: .int .i64 0 :: .int .i64 0 :: .int .i64 0 :: .int .i64 0 :: .int .i64 0 :: .int .i64 0 :: .string ⟨#[]⟩ :: .string ⟨#[]⟩ :: .slice none 0 0 :: .int .i64 0 :: .int .i64 0 :: .int .i64 0 :: .int .i64 0 :: .int .i64 0 :: .int .i64 0 :: .slice none 0 0 :: .slice none 0 0 :: []).toArray 44)).setRow w3.heap.size cs.toArray) w3.heap.size cs 44) := by
  have := Cl.row (Cl.new w3 (.int .i64 0 :: .int .i64 0 :: .int .i64 0 :: .int .i64 0 :: .int .i64 0 :: .int .i64 0 :: .int .i64 0 :: .int .i64 0 :: .int .i64 0 :: .slice none 0 0 :: .int .i64 0 :: .slice none 0 0 :: .int .i64 0 :: .int .i64 0 :: .int .i64 0 :: .int .i64 0 :: .int .i64 0 :: .slice none 0 0 :: .slice none 0 0 :: .int .i64 0 :: .int .i64 0 :: .int .i64 0 :: .int .i64 0 :: .int .i64 0 :: .int .i64 0 :: .int .i64 0 :: .int .i64 0 :: .string ⟨#[]⟩ :: .string ⟨#[]⟩ :: .slice none 0 0 :: .int .i64 0 :: .int .i64 0 :: .int .i64 0 :: .int .i64 0 :: .int .i64 0 :: .int .i64 0 :: .slice none 0 0 :: .slice none 0 0 :: []) 44) cs.toArray
  rwa [List.toList_toArray] at this
 have K5 : Hid (Keeps (fun j => j = w3.heap.size) w3 ((w3.alloc (.cells (.int .i64 0 :: .int .i64 0 :: .int .i64 0 :: .int .i64 0 :: .int .i64 0 :: .int .i64 0 :: .int .i64 0 :: .int .i64 0 :: .int .i64 0 :: .slice none 0 0 :: .int .i64 0 :: .slice none 0 0 :: .int .i64 0 :: .int .i64 0 :: .int .i64 0 :: .int .i64 0 :: .int .i64 0 :: .slice none 0 0 :: .slice none 0 0 :: .int .i64 0 :: .int .i64 0 :: .int .i64 0 :: .int .i64 0 :: .int .i64 0 :: .int .i64 0 :: .int .i64 0 :: .int .i64 0 :: .string ⟨#[]⟩ :: .string ⟨#[]⟩ :: .slice none 0 0 :: .int .i64 0 :: .int .i64 0 :: .int .i64 0 :: .int .i64 0 :: .int .i64 0 :: .int .i64 0 :: .slice none 0 0 :: .slice none 0 0 :: []).toArray 44)).setRow w3.heap.size cs.toArray)) := (Keeps.alloc _ _ _).trans (Keeps.row _ _ _ rfl)
 go_upto_region 4 with (refine wpList_store_row (by rfl) _ _ _ (by rfl) w3.heap.size cs.toArray (by rfl) (by rfl) 44 _ CM.out HIA.out HSZ.out HOA.out ?_)
 generalize (w3.alloc (.cells (.int .i64 0 :: .int .i64 0 :: .int .i64 0 :: .int .i64 0 :: .int .i64 0 :: .int .i64 0 :: .int .i64 0 :: .int .i64 0 :: .int .i64 0 :: .slice none 0 0 :: .int .i64 0 :: .slice none 0 0 :: .int .i64 0 :: .int .i64 0 :: .int .i64 0 :: .int .i64 0 :: .int .i64 0 :: .slice none 0 0 :: .slice none 0 0 :: .int .i64 0 :: .int .i64 0 :: .int .i64 0 :: .int .i64 0 :: .int .i64 0 :: .int .i64 0 :: .int .i64 0 :: .int .i64 0 :: .string ⟨#[]⟩ :: .string ⟨#[]⟩ :: .slice none 0 0 :: .int .i64 0 :: .int .i64 0 :: .int .i64 0 :: .int .i64 0 :: .int .i64 0 :: .int .i64 0 :: .slice none 0 0 :: .slice none 0 0 :: []).toArray 44)).setRow w3.heap.size cs.toArray = w5 at *
 clear CM
 obtain ⟨pm, hpm⟩ : ∃ pm, pm = w3.heap.size := ⟨_, rfl⟩
 rw [← hpm] at C5 K5 ⊢
 have hs1 := B1.out.size
 have hs3 := B3.out.size
 have hl1 := CR.out.lt
 have hl3 := H3.out.c.lt
 have H5 := Lib.hid (H3.out.keep K5.out (by omega) (fun j hj e => by have := (H3.out.s.lt j hj).2; omega))
 have CR5 := Lib.hid (C3.out.keep K5.out (by have := C3.out.lt; omega))
 have hpm1 : pm ≠ pr := by omega
 have hpm2 : pm ≠ pb := by omega
 have c5 : w5.cell? ⟨pb, 0, none⟩ = some (.slice (some ⟨g, off, none⟩) l.length cap) := H5.out.c.cell 0
 have hwk : IntKind.i64.wrap ((k : Int) + 1) = (k : Int) + 1 := by rw [IntKind.wrap_i64]; omega
 have HDE := Lib.hid (HDEL.out w5 H5.out.s)
 clear HDEL
 have HPM := Lib.hid hpm
 clear hpm
 go_wp2_with fail
 refine HDE.out.mono ?_
 rintro e w6 ⟨v', rfl, hown, hs6, hk6⟩
 have HOWN := Lib.hid hown
 have S6 := Lib.hid hs6
 have K6 := Lib.hid hk6
 clear hown hs6 hk6 c5 HDE
 have P6 := Lib.hid (Cl.keep H5.out.c K6.out (fun e => hnb.out _ e rfl))
 obtain ⟨a', cap', hv', _⟩ := S6.out.form
 subst hv'
 have c6 : w6.cell? ⟨pb, 0, none⟩ = some (.slice (some ⟨g, off, none⟩) l.length cap) := P6.out.cell 0
 have f6 : w6.frozen? ⟨pb, 0, none⟩ = false := P6.out.free 0
 have CR6 := Lib.hid (Cl.keep CR5.out K6.out (fun e => by have := hol.out _ e; have := HPR.out; omega))
 have CM6 := Lib.hid (Cl.keep C5.out K6.out (fun e => by have := hol.out _ e; have := HPM.out; omega))
 have K7 : Hid (Keeps (fun j => j = pb) w6 (w6.setCell ⟨pb, 0, none⟩ (.slice a' (l.eraseIdx k).length cap'))) := Keeps.setCell _ _ _ _ rfl
 have P7 : Hid (Cl (w6.setCell ⟨pb, 0, none⟩ (.slice a' (l.eraseIdx k).length cap')) pb [.slice a' (l.eraseIdx k).length cap'] 65) := Cl.set P6.out 0 _
 have CR7 := Lib.hid (Cl.keep CR6.out K7.out hpne)
 have CM7 := Lib.hid (Cl.keep CM6.out K7.out hpm2)
 go_upto_region 5 with (fail)
 generalize w6.setCell ⟨pb, 0, none⟩ (.slice a' (l.eraseIdx k).length cap') = w7 at *
 clear c6 f6
 have R7 := Lib.hid CM7.out.range
 have CQ : Hid (w7.heap[pr]? = some (.cells (.int .i64 0 :: .int .i64 0 :: .int .i64 0 :: .int .i64 0 :: .int .i64 0 :: .int .i64 0 :: .int .i64 0 :: .int .i64 0 :: .int .i64 0 :: .slice none 0 0 :: .int .i64 0 :: .slice none 0 0 :: .int .i64 0 :: .int .i64 0 :: .int .i64 0 :: .int .i64 0 :: .int .i64 0 :: .slice none 0 0 :: .slice none 0 0 :: .int .i64 0 :: .int .i64 0 :: .int .i64 0 :: .int .i64 0 :: .int .i64 0 :: .int .i64 0 :: .int .i64 0 :: .int .i64 0 :: .string ⟨#[]⟩ :: .string ⟨#[]⟩ :: .slice none 0 0 :: .int .i64 0 :: .int .i64 0 :: .int .i64 0 :: .int .i64 0 :: .int .i64 0 :: .int .i64 0 :: .slice none 0 0 :: .slice none 0 0 :: []).toArray 44 (0, 0))) := CR7.out
 have CF : Hid (Cl (w7.setRow pr cs.toArray) pr cs 44) := by
  have := Cl.row CR7.out cs.toArray
  rwa [List.toList_toArray] at this
 have KF : Hid (Keeps (fun j => j = pr) w7 (w7.setRow pr cs.toArray)) := Keeps.row _ _ _ rfl
 go_wp2_with (first
  | (refine wpList_load_mid (by rfl) _ _ (by rfl) pm 0 (by rfl) cs _ R7.out Tryz.underlying44 (by rfl) HIL.out ?_)
  | (refine wpList_store_row (by rfl) _ _ _ (by rfl) pr cs.toArray (by rfl) (by rfl) 44 _ CQ.out HIA.out HSZ.out HOA.out ?_))
 refine bodyPost_ret (results_cl_tmp rfl _ _ _ _ _ _ rfl CF.out Tryz.underlying44 rfl HIL.out) rfl ?_
 have hpr := HPR.out
 have hpm := HPM.out
 have hle : (l.eraseIdx k).length ≤ 256 := by rw [List.length_eraseIdx_of_lt hk]; omega
 have hn7 : ∀ j, (Value.slice a' (l.eraseIdx k).length cap').ownBlock = some j → j ≠ pb ∧ j < w.heap.size := fun j hj => by rw [HOWN.out] at hj; exact ⟨hnb.out j hj, hol.out j hj⟩
 have S8 : Sl (w7.setRow pr cs.toArray) B 2 (.slice a' (l.eraseIdx k).length cap') (l.eraseIdx k).length (itC (l.eraseIdx k)) := (S6.out.kept K7.out (fun j hj e => (hn7 j hj).1 e)).kept KF.out (fun j hj e => by have := (hn7 j hj).2; omega)
 have Kall : ∀ S : Nat → Prop, S pm → (∀ j, (Value.slice (some ⟨g, off, none⟩) l.length cap).ownBlock = some j → S j) → S pb → S pr → Keeps S w3 (w7.setRow pr cs.toArray) := fun S h1 h2 h3 h4 => by
  have a1 : Keeps S w3 w5 := ⟨K5.out.os, K5.out.tape, K5.out.output, K5.out.size, fun i hi hs => K5.out.block i hi (fun e => hs (e ▸ h1))⟩
  have a2 : Keeps S w5 w6 := ⟨K6.out.os, K6.out.tape, K6.out.output, K6.out.size, fun i hi hs => K6.out.block i hi (fun e => hs (h2 _ e))⟩
  have a3 : Keeps S w6 w7 := ⟨K7.out.os, K7.out.tape, K7.out.output, K7.out.size, fun i hi hs => K7.out.block i hi (fun e => hs (e ▸ h3))⟩
  have a4 : Keeps S w7 (w7.setRow pr cs.toArray) := ⟨KF.out.os, KF.out.tape, KF.out.output, KF.out.size, fun i hi hs => KF.out.block i hi (fun e => hs (e ▸ h4))⟩
  exact ((a1.trans a2).trans a3).trans a4
 have hw1 : w.heap.size < w2.heap.size := by omega
 refine ⟨cs, _, rfl, HD3.out (fun j => ¬ (w2.heap.size ≤ j ∧ j < w3.heap.size)) _ (Kall _ (by omega) (fun j hj e => by have := hol.out j hj; omega) (by omega) (by omega)) (fun j h1 h2 h3 => h3 ⟨h1, h2⟩), ⟨Cl.keep P7.out KF.out hpne.symm, S8, fun j hj => (hn7 j hj).1, hbb, hle⟩, ?_⟩
 have hk := Kall (fun j => j = pm ∨ j = pr ∨ j = pb ∨ (Value.slice (some ⟨g, off, none⟩) l.length cap).ownBlock = some j) (.inl rfl) (fun j hj => .inr (.inr (.inr hj))) (.inr (.inr (.inl rfl))) (.inr (.inl rfl))
 refine ⟨(Keeps.below (fun j => j = pb ∨ (Value.slice (some ⟨g, off, none⟩) l.length cap).ownBlock = some j) (bt B1.out B3.out)).fresh hk (fun j hj e => ?_), fun j hj => .inl (by rw [HOWN.out] at hj; exact hj)⟩
 rcases e with e | e | e | e
 ·omega
 ·omega
 ·exact .inl e
 ·exact .inr e
end Go.Proofs.YtbljbdjmgogknaaGreatDoor
namespace Go.Proofs.YtbljbdjmgogknaaGreatDoor
open Go.RowKit
set_option maxRecDepth 20000 in
set_option maxHeartbeats 12800000 in
theorem good_none (cs : List Value) (x : Int) (hx : cs[0]? = some (.int .i64 x)) (hk : Wi.inB x 1 9 = false) (w : World) :
  Calls Tryz.prog 44 #[.agg cs.toArray] w fun e w' => e = .returned (.bool false) ∧ Below w.heap.size w w' := by
 have HK := Lib.hid hk
 have HX := Lib.hid hx
 clear hk hx
 go_enter Tryz.func44, Tryz.ntmps44
 obtain ⟨w1, hw1, CA, B1⟩ := oneBox (w := w) cs 44
 have HW1 := Lib.hid hw1
 clear hw1
 go_upto_region 1 with (fail)
 first | rw [HW1.out] | skip
 clear HW1
 generalize w.heap.size = pa at CA ⊢
 go_cut [51] (fun t51 wz => t51 = .bool true ∧ wz = w1.drew)
 case first =>
  have m0 : ∀ y : AnyOf (fun (L : Array Bool) (W : World) => W = w1.drew), y.1.cell? ⟨pa, 0, none⟩ = some (.int .i64 x) := fun y => by
   obtain ⟨L, hL⟩ := y.2
   rw [show y.1 = w1.drew from hL]
   exact (CA.out.cell 0).trans HX.out
  have hne : Nonempty (AnyOf (fun (L : Array Bool) (W : World) => W = w1.drew)) := ⟨⟨_, Array.replicate 47 false, rfl⟩⟩
  go_wp2
  refine wp_region_ranks (fun (L : Array Bool) (W : World) => W = w1.drew) _ (by kernel_rfl) (by kernel_rfl) rfl rfl ?_
  refine rQuiet_head 2 (by decide) (by kernel_rfl) (fun i L W h1 h2 hc => hc) ?_
  simp only [List.take_succ_cons, List.take_zero, List.drop_succ_cons, List.drop_zero]
  repeat (go_big_quiet_step (fail))
  refine wpQuiet_nil ?_
  refine rQuiet_call (f := 68) (args := #[.int .i64 x, .int .i64 1, .int .i64 9]) (.bool false) rfl (fun w => by go_simp) (fun L w hD hi hc => (wwithin_any x 1 9 w).mono fun e w' ⟨he, hw⟩ => ⟨by rw [he, HK.out], by rw [hw]; exact hc⟩) ?_
  simp only [Act.put, List.setIfInBounds_toArray, List.set_cons_zero, List.set_cons_succ]
  refine rQuiet_head 4 (by decide) (by kernel_rfl) (fun i L W h1 h2 hc => hc) ?_
  simp only [List.take_succ_cons, List.take_zero, List.drop_succ_cons, List.drop_zero]
  repeat (go_big_quiet_step (fail))
  refine wpQuiet_nil ?_
  refine rQuiet_none (by go_simp) (fun L w hD hi hc => hc) ?_
  simp only [Act.put, List.setIfInBounds_toArray, List.set_cons_zero, List.set_cons_succ]
  refine rQuiet_head 5 (by decide) (by kernel_rfl) (fun i L W h1 h2 hc => hc) ?_
  simp only [List.take_succ_cons, List.take_zero, List.drop_succ_cons, List.drop_zero]
  repeat (go_big_quiet_step (fail))
  refine wpQuiet_nil ?_
  refine rQuiet_none (by go_simp) (fun L w hD hi hc => hc) ?_
  simp only [Act.put, List.setIfInBounds_toArray, List.set_cons_zero, List.set_cons_succ]
  refine rQuiet_head 5 (by decide) (by kernel_rfl) (fun i L W h1 h2 hc => hc) ?_
  simp only [List.take_succ_cons, List.take_zero, List.drop_succ_cons, List.drop_zero]
  repeat (go_big_quiet_step (fail))
  refine wpQuiet_nil ?_
  refine rQuiet_none (by go_simp) (fun L w hD hi hc => hc) ?_
  simp only [Act.put, List.setIfInBounds_toArray, List.set_cons_zero, List.set_cons_succ]
  refine rQuiet_head 7 (by decide) (by kernel_rfl) (fun i L W h1 h2 hc => hc) ?_
  simp only [List.take_succ_cons, List.take_zero, List.drop_succ_cons, List.drop_zero]
  repeat (go_big_quiet_step (fail))
  refine wpQuiet_nil ?_
  refine rQuiet_none (by go_simp) (fun L w hD hi hc => hc) ?_
  simp only [Act.put, List.setIfInBounds_toArray, List.set_cons_zero, List.set_cons_succ]
  refine rQuiet_none (by go_simp) (fun L w hD hi hc => hc) ?_
  simp only [Act.put, List.setIfInBounds_toArray, List.set_cons_zero, List.set_cons_succ]
  refine rQuiet_head 7 (by decide) (by kernel_rfl) (fun i L W h1 h2 hc => hc) ?_
  simp only [List.take_succ_cons, List.take_zero, List.drop_succ_cons, List.drop_zero]
  repeat (go_big_quiet_step (fail))
  refine wpQuiet_nil ?_
  refine rQuiet_none (by go_simp) (fun L w hD hi hc => hc) ?_
  simp only [Act.put, List.setIfInBounds_toArray, List.set_cons_zero, List.set_cons_succ]
  refine rQuiet_none (by go_simp) (fun L w hD hi hc => hc) ?_
  simp only [Act.put, List.setIfInBounds_toArray, List.set_cons_zero, List.set_cons_succ]
  refine rQuiet_head 3 (by decide) (by kernel_rfl) (fun i L W h1 h2 hc => hc) ?_
  simp only [List.take_succ_cons, List.take_zero, List.drop_succ_cons, List.drop_zero]
  repeat (go_big_quiet_step (fail))
  refine wpQuiet_nil ?_
  refine rQuiet_none (by go_simp) (fun L w hD hi hc => hc) ?_
  simp only [Act.put, List.setIfInBounds_toArray, List.set_cons_zero, List.set_cons_succ]
  refine rQuiet_none (by go_simp) (fun L w hD hi hc => hc) ?_
  simp only [Act.put, List.setIfInBounds_toArray, List.set_cons_zero, List.set_cons_succ]
  refine rQuiet_none (by go_simp) (fun L w hD hi hc => hc) ?_
  simp only [Act.put, List.setIfInBounds_toArray, List.set_cons_zero, List.set_cons_succ]
  refine rQuiet_none (by go_simp) (fun L w hD hi hc => hc) ?_
  simp only [Act.put, List.setIfInBounds_toArray, List.set_cons_zero, List.set_cons_succ]
  refine rQuiet_head 2 (by decide) (by kernel_rfl) (fun i L W h1 h2 hc => hc) ?_
  simp only [List.take_succ_cons, List.take_zero, List.drop_succ_cons, List.drop_zero]
  repeat (go_big_quiet_step (fail))
  refine wpQuiet_nil ?_
  intro w9 hw9
  have T4 := Lib.hid hw9
  go_wp2
  go_meet
  case rel => exact ⟨rfl, T4.out⟩
 case rest =>
  obtain ⟨rfl, hwz⟩ := hcut
  have BZ : Hid (Below w.heap.size w wc) := by rw [hwz]; exact B1.out.drew
  clear hwz CA
  go_wp2
  go_ret
  exact ⟨rfl, BZ.out⟩
set_option maxRecDepth 20000 in
set_option maxHeartbeats 3200000 in
theorem encode_no (cs : List Value) (hlen : cs.length = 38) (w : World) (hg : ∀ W, Below w.heap.size w W → Calls Tryz.prog 44 #[.agg cs.toArray] W fun e w' => e = .returned (.bool false) ∧ Below W.heap.size W w') :
  Calls Tryz.prog 23 #[.agg cs.toArray] w fun e w' => e = .returned (.tuple #[.string ⟨#[]⟩, .int .i64 1]) ∧ Below w.heap.size w w' := by
 have HG := Lib.hid hg
 have HIL : Hid ((Tryz.prog.info? 44).map (·.size) = some cs.length) := by rw [Hid, hlen]; kernel_rfl
 clear hg hlen
 go_enter Tryz.func23, Tryz.ntmps23
 obtain ⟨w1, hw1, CA, B1⟩ := oneBox (w := w) cs 44
 have HW1 := Lib.hid hw1
 clear hw1
 go_upto_region 1 with (fail)
 first | rw [HW1.out] | skip
 clear HW1
 have R1 := Lib.hid CA.out.range
 have HG1 := Lib.hid (HG.out _ B1.out)
 obtain ⟨pa, hpa⟩ : ∃ pa, pa = w.heap.size := ⟨_, rfl⟩
 rw [← hpa] at R1
 first | rw [← hpa] | skip
 have HPA := Lib.hid hpa
 clear hpa CA
 go_wp2_with (refine wpList_load_mid (by rfl) _ _ (by rfl) pa 0 (by rfl) cs _ R1.out Tryz.underlying44 (by rfl) HIL.out ?_)
 refine HG1.out.mono ?_
 rintro e w2 ⟨rfl, hb2⟩
 have B2 := Lib.hid (bt B1.out hb2)
 clear hb2
 go_wp2
 go_ret2
 exact ⟨rfl, B2.out⟩
end Go.Proofs.YtbljbdjmgogknaaGreatDoor
namespace Go.Proofs.YtbljbdjmgogknaaGreatDoor
open Go.RowKit
theorem beat_ok {t n : Int} (h0 : 0 ≤ t) (h5 : t ≤ 5) (n0 : 0 ≤ n) (n1 : n ≤ 1073741824) : MsgOk (beatM 1 t n) := by
 have z : Bd.inR 0 := ⟨by decide, by decide⟩
 constructor
 ·intro x hx
  simp only [beatM, Wi.zReq, Wi.zResp, List.mem_cons, List.not_mem_nil, or_false] at hx
  unfold Bd.inR
  omega
 ·exact ⟨by simp [beatM], by simp [beatM]⟩
 ·exact ⟨by simp [beatM], by simp [beatM]⟩
 ·exact ⟨z, z, z, z, z, by simp [beatM, Wi.zBatch], by simp [beatM, Wi.zBatch]⟩
 ·exact ⟨by simp [beatM], by simp [beatM]⟩
 ·exact ⟨by simp [beatM, Wi.zReq], by simp [beatM, Wi.zReq], by simp [beatM, Wi.zReq], by simp [beatM, Wi.zReq]⟩
 ·exact ⟨by simp [beatM, Wi.zResp], by simp [beatM, Wi.zResp]⟩
 ·exact ⟨by simp [beatM, Wi.zResp], by simp [beatM, Wi.zResp]⟩
set_option maxRecDepth 20000 in
set_option maxHeartbeats 3200000 in
theorem bagPut_no (cs : List Value) (hlen : cs.length = 38) (B pb : Nat) (lv : Value) (l : List Item) (w : World) (h : BagW w B pb lv l) (hB : B ≤ w.heap.size)
  (HE : ∀ W, Below w.heap.size w W → Calls Tryz.prog 23 #[.agg cs.toArray] W fun e w' => e = .returned (.tuple #[.string ⟨#[]⟩, .int .i64 1]) ∧ Below W.heap.size W w') :
  Calls Tryz.prog 10 #[.pointer (some ⟨pb, 0, none⟩), .agg cs.toArray] w fun e w' => e = .returned (.int .i64 1) ∧ BagW w' B pb lv l ∧ Below w.heap.size w w' := by
 have H0 := Lib.hid h
 have HEE := Lib.hid HE
 have HIL : Hid ((Tryz.prog.info? 44).map (·.size) = some cs.length) := by rw [Hid, hlen]; kernel_rfl
 clear h HE hlen
 go_enter Tryz.func10, Tryz.ntmps10
 obtain ⟨w1, hw1, CA, B1⟩ := oneBox (w := w) cs 44
 have HW1 := Lib.hid hw1
 clear hw1
 go_upto_region 3 with (fail)
 first | rw [HW1.out] | skip
 clear HW1
 have H1 := Lib.hid (H0.out.below B1.out)
 have HE1 := Lib.hid (HEE.out _ B1.out)
 have R1 := Lib.hid CA.out.range
 obtain ⟨pa, hpa⟩ : ∃ pa, pa = w.heap.size := ⟨_, rfl⟩
 rw [← hpa] at R1
 first | rw [← hpa] | skip
 have HPA := Lib.hid hpa
 clear hpa CA
 go_wp2_with (refine wpList_load_mid (by rfl) _ _ (by rfl) pa 0 (by rfl) cs _ R1.out Tryz.underlying44 (by rfl) HIL.out ?_)
 refine HE1.out.mono ?_
 rintro e w2 ⟨rfl, hb2⟩
 have H2 := Lib.hid (H1.out.below hb2)
 have B2 := Lib.hid (bt B1.out hb2)
 clear hb2
 go_wp2
 go_ret
 exact ⟨rfl, H2.out, B2.out⟩
theorem bagPut_zero (B pb : Nat) (lv : Value) (l : List Item) (w : World) (h : BagW w B pb lv l) (hB : B ≤ w.heap.size) :
  Calls Tryz.prog 10 #[.pointer (some ⟨pb, 0, none⟩), .agg (.int .i64 0 :: .int .i64 0 :: .int .i64 0 :: .int .i64 0 :: .int .i64 0 :: .int .i64 0 :: .int .i64 0 :: .int .i64 0 :: .int .i64 0 :: .slice none 0 0 :: .int .i64 0 :: .slice none 0 0 :: .int .i64 0 :: .int .i64 0 :: .int .i64 0 :: .int .i64 0 :: .int .i64 0 :: .slice none 0 0 :: .slice none 0 0 :: .int .i64 0 :: .int .i64 0 :: .int .i64 0 :: .int .i64 0 :: .int .i64 0 :: .int .i64 0 :: .int .i64 0 :: .int .i64 0 :: .string ⟨#[]⟩ :: .string ⟨#[]⟩ :: .slice none 0 0 :: .int .i64 0 :: .int .i64 0 :: .int .i64 0 :: .int .i64 0 :: .int .i64 0 :: .int .i64 0 :: .slice none 0 0 :: .slice none 0 0 :: []).toArray] w fun e w' => e = .returned (.int .i64 1) ∧ BagW w' B pb lv l ∧ Below w.heap.size w w' :=
 bagPut_no _ rfl B pb lv l w h hB (fun W hW => encode_no _ rfl W (fun W2 hW2 => good_none _ 0 rfl (by decide) W2))
set_option maxRecDepth 20000 in
set_option maxHeartbeats 3200000 in
theorem beat_any (n : Int) (w : World) : Calls Tryz.prog 21 #[.int .i64 n] w fun e w' => e = .returned (msgV (beatM 1 0 n) zeroV) ∧ Below w.heap.size w w' := by
 have HRV : Hid (msgV (beatM 1 0 n) zeroV = .agg (.int .i64 3 :: .int .i64 1 :: .int .i64 0 :: .int .i64 0 :: .int .i64 0 :: .int .i64 0 :: .int .i64 0 :: .int .i64 n :: .int .i64 0 :: .slice none 0 0 :: .int .i64 0 :: .slice none 0 0 :: .int .i64 0 :: .int .i64 0 :: .int .i64 0 :: .int .i64 0 :: .int .i64 0 :: .slice none 0 0 :: .slice none 0 0 :: .int .i64 0 :: .int .i64 0 :: .int .i64 0 :: .int .i64 0 :: .int .i64 0 :: .int .i64 0 :: .int .i64 0 :: .int .i64 0 :: .string ⟨#[]⟩ :: .string ⟨#[]⟩ :: .slice none 0 0 :: .int .i64 0 :: .int .i64 0 :: .int .i64 0 :: .int .i64 0 :: .int .i64 0 :: .int .i64 0 :: .slice none 0 0 :: .slice none 0 0 :: []).toArray) := rfl
 rw [HRV.out]
 clear HRV
 have HI38 := Lib.hid (show (Tryz.prog.info? 44).map (·.size) = some ((.int .i64 3 :: .int .i64 1 :: .int .i64 0 :: .int .i64 0 :: .int .i64 0 :: .int .i64 0 :: .int .i64 0 :: .int .i64 n :: .int .i64 0 :: .slice none 0 0 :: .int .i64 0 :: .slice none 0 0 :: .int .i64 0 :: .int .i64 0 :: .int .i64 0 :: .int .i64 0 :: .int .i64 0 :: .slice none 0 0 :: .slice none 0 0 :: .int .i64 0 :: .int .i64 0 :: .int .i64 0 :: .int .i64 0 :: .int .i64 0 :: .int .i64 0 :: .int .i64 0 :: .int .i64 0 :: .string ⟨#[]⟩ :: .string ⟨#[]⟩ :: .slice none 0 0 :: .int .i64 0 :: .int .i64 0 :: .int .i64 0 :: .int .i64 0 :: .int .i64 0 :: .int .i64 0 :: .slice none 0 0 :: .slice none 0 0 :: []) : List Value).length by kernel_rfl)
 have HI39 := Lib.hid (show (Tryz.prog.info? 44).map (·.size) = some ((.int .i64 3 :: .int .i64 1 :: .int .i64 0 :: .int .i64 0 :: .int .i64 0 :: .int .i64 0 :: .int .i64 0 :: .int .i64 n :: .int .i64 0 :: .slice none 0 0 :: .int .i64 0 :: .slice none 0 0 :: .int .i64 0 :: .int .i64 0 :: .int .i64 0 :: .int .i64 0 :: .int .i64 0 :: .slice none 0 0 :: .slice none 0 0 :: .int .i64 0 :: .int .i64 0 :: .int .i64 0 :: .int .i64 0 :: .int .i64 0 :: .int .i64 0 :: .int .i64 0 :: .int .i64 0 :: .string ⟨#[]⟩ :: .string ⟨#[]⟩ :: .slice none 0 0 :: .int .i64 0 :: .int .i64 0 :: .int .i64 0 :: .int .i64 0 :: .int .i64 0 :: .int .i64 0 :: .slice none 0 0 :: .slice none 0 0 :: []).toArray : Array Value).size by kernel_rfl)
 have HONE : Hid (((.int .i64 3 :: .int .i64 1 :: .int .i64 0 :: .int .i64 0 :: .int .i64 0 :: .int .i64 0 :: .int .i64 0 :: .int .i64 n :: .int .i64 0 :: .slice none 0 0 :: .int .i64 0 :: .slice none 0 0 :: .int .i64 0 :: .int .i64 0 :: .int .i64 0 :: .int .i64 0 :: .int .i64 0 :: .slice none 0 0 :: .slice none 0 0 :: .int .i64 0 :: .int .i64 0 :: .int .i64 0 :: .int .i64 0 :: .int .i64 0 :: .int .i64 0 :: .int .i64 0 :: .int .i64 0 :: .string ⟨#[]⟩ :: .string ⟨#[]⟩ :: .slice none 0 0 :: .int .i64 0 :: .int .i64 0 :: .int .i64 0 :: .int .i64 0 :: .int .i64 0 :: .int .i64 0 :: .slice none 0 0 :: .slice none 0 0 :: []).toArray : Array Value).all (·.oneCell') = true) := by simp [Hid, Value.oneCell']
 have HSZ : Hid (((.int .i64 0 :: .int .i64 0 :: .int .i64 0 :: .int .i64 0 :: .int .i64 0 :: .int .i64 0 :: .int .i64 0 :: .int .i64 0 :: .int .i64 0 :: .slice none 0 0 :: .int .i64 0 :: .slice none 0 0 :: .int .i64 0 :: .int .i64 0 :: .int .i64 0 :: .int .i64 0 :: .int .i64 0 :: .slice none 0 0 :: .slice none 0 0 :: .int .i64 0 :: .int .i64 0 :: .int .i64 0 :: .int .i64 0 :: .int .i64 0 :: .int .i64 0 :: .int .i64 0 :: .int .i64 0 :: .string ⟨#[]⟩ :: .string ⟨#[]⟩ :: .slice none 0 0 :: .int .i64 0 :: .int .i64 0 :: .int .i64 0 :: .int .i64 0 :: .int .i64 0 :: .int .i64 0 :: .slice none 0 0 :: .slice none 0 0 :: []).toArray : Array Value).size = ((.int .i64 3 :: .int .i64 1 :: .int .i64 0 :: .int .i64 0 :: .int .i64 0 :: .int .i64 0 :: .int .i64 0 :: .int .i64 n :: .int .i64 0 :: .slice none 0 0 :: .int .i64 0 :: .slice none 0 0 :: .int .i64 0 :: .int .i64 0 :: .int .i64 0 :: .int .i64 0 :: .int .i64 0 :: .slice none 0 0 :: .slice none 0 0 :: .int .i64 0 :: .int .i64 0 :: .int .i64 0 :: .int .i64 0 :: .int .i64 0 :: .int .i64 0 :: .int .i64 0 :: .int .i64 0 :: .string ⟨#[]⟩ :: .string ⟨#[]⟩ :: .slice none 0 0 :: .int .i64 0 :: .int .i64 0 :: .int .i64 0 :: .int .i64 0 :: .int .i64 0 :: .int .i64 0 :: .slice none 0 0 :: .slice none 0 0 :: []).toArray : Array Value).size) := rfl
 go_enter Tryz.func21, Tryz.ntmps21
 obtain ⟨w1, hw1, CR, B1⟩ := oneBox (w := w) (.int .i64 0 :: .int .i64 0 :: .int .i64 0 :: .int .i64 0 :: .int .i64 0 :: .int .i64 0 :: .int .i64 0 :: .int .i64 0 :: .int .i64 0 :: .slice none 0 0 :: .int .i64 0 :: .slice none 0 0 :: .int .i64 0 :: .int .i64 0 :: .int .i64 0 :: .int .i64 0 :: .int .i64 0 :: .slice none 0 0 :: .slice none 0 0 :: .int .i64 0 :: .int .i64 0 :: .int .i64 0 :: .int .i64 0 :: .int .i64 0 :: .int .i64 0 :: .int .i64 0 :: .int .i64 0 :: .string ⟨#[]⟩ :: .string ⟨#[]⟩ :: .slice none 0 0 :: .int .i64 0 :: .int .i64 0 :: .int .i64 0 :: .int .i64 0 :: .int .i64 0 :: .int .i64 0 :: .slice none 0 0 :: .slice none 0 0 :: []) 44
 have HW1 := Lib.hid hw1
 clear hw1
 go_upto_region 1 with (fail)
 first | rw [HW1.out] | skip
 clear HW1
 have CQ : Hid (w1.heap[w.heap.size]? = some (.cells (.int .i64 0 :: .int .i64 0 :: .int .i64 0 :: .int .i64 0 :: .int .i64 0 :: .int .i64 0 :: .int .i64 0 :: .int .i64 0 :: .int .i64 0 :: .slice none 0 0 :: .int .i64 0 :: .slice none 0 0 :: .int .i64 0 :: .int .i64 0 :: .int .i64 0 :: .int .i64 0 :: .int .i64 0 :: .slice none 0 0 :: .slice none 0 0 :: .int .i64 0 :: .int .i64 0 :: .int .i64 0 :: .int .i64 0 :: .int .i64 0 :: .int .i64 0 :: .int .i64 0 :: .int .i64 0 :: .string ⟨#[]⟩ :: .string ⟨#[]⟩ :: .slice none 0 0 :: .int .i64 0 :: .int .i64 0 :: .int .i64 0 :: .int .i64 0 :: .int .i64 0 :: .int .i64 0 :: .slice none 0 0 :: .slice none 0 0 :: []).toArray 44 (0, 0))) := CR.out
 have CF : Hid (Cl (w1.setRow w.heap.size (.int .i64 3 :: .int .i64 1 :: .int .i64 0 :: .int .i64 0 :: .int .i64 0 :: .int .i64 0 :: .int .i64 0 :: .int .i64 n :: .int .i64 0 :: .slice none 0 0 :: .int .i64 0 :: .slice none 0 0 :: .int .i64 0 :: .int .i64 0 :: .int .i64 0 :: .int .i64 0 :: .int .i64 0 :: .slice none 0 0 :: .slice none 0 0 :: .int .i64 0 :: .int .i64 0 :: .int .i64 0 :: .int .i64 0 :: .int .i64 0 :: .int .i64 0 :: .int .i64 0 :: .int .i64 0 :: .string ⟨#[]⟩ :: .string ⟨#[]⟩ :: .slice none 0 0 :: .int .i64 0 :: .int .i64 0 :: .int .i64 0 :: .int .i64 0 :: .int .i64 0 :: .int .i64 0 :: .slice none 0 0 :: .slice none 0 0 :: []).toArray) w.heap.size (.int .i64 3 :: .int .i64 1 :: .int .i64 0 :: .int .i64 0 :: .int .i64 0 :: .int .i64 0 :: .int .i64 0 :: .int .i64 n :: .int .i64 0 :: .slice none 0 0 :: .int .i64 0 :: .slice none 0 0 :: .int .i64 0 :: .int .i64 0 :: .int .i64 0 :: .int .i64 0 :: .int .i64 0 :: .slice none 0 0 :: .slice none 0 0 :: .int .i64 0 :: .int .i64 0 :: .int .i64 0 :: .int .i64 0 :: .int .i64 0 :: .int .i64 0 :: .int .i64 0 :: .int .i64 0 :: .string ⟨#[]⟩ :: .string ⟨#[]⟩ :: .slice none 0 0 :: .int .i64 0 :: .int .i64 0 :: .int .i64 0 :: .int .i64 0 :: .int .i64 0 :: .int .i64 0 :: .slice none 0 0 :: .slice none 0 0 :: []) 44) := CR.out.row _
 have KF : Hid (Keeps (fun j => j = w.heap.size) w1 (w1.setRow w.heap.size (.int .i64 3 :: .int .i64 1 :: .int .i64 0 :: .int .i64 0 :: .int .i64 0 :: .int .i64 0 :: .int .i64 0 :: .int .i64 n :: .int .i64 0 :: .slice none 0 0 :: .int .i64 0 :: .slice none 0 0 :: .int .i64 0 :: .int .i64 0 :: .int .i64 0 :: .int .i64 0 :: .int .i64 0 :: .slice none 0 0 :: .slice none 0 0 :: .int .i64 0 :: .int .i64 0 :: .int .i64 0 :: .int .i64 0 :: .int .i64 0 :: .int .i64 0 :: .int .i64 0 :: .int .i64 0 :: .string ⟨#[]⟩ :: .string ⟨#[]⟩ :: .slice none 0 0 :: .int .i64 0 :: .int .i64 0 :: .int .i64 0 :: .int .i64 0 :: .int .i64 0 :: .int .i64 0 :: .slice none 0 0 :: .slice none 0 0 :: []).toArray)) := Keeps.row _ _ _ rfl
 have BF : Hid (Below w.heap.size w (w1.setRow w.heap.size (.int .i64 3 :: .int .i64 1 :: .int .i64 0 :: .int .i64 0 :: .int .i64 0 :: .int .i64 0 :: .int .i64 0 :: .int .i64 n :: .int .i64 0 :: .slice none 0 0 :: .int .i64 0 :: .slice none 0 0 :: .int .i64 0 :: .int .i64 0 :: .int .i64 0 :: .int .i64 0 :: .int .i64 0 :: .slice none 0 0 :: .slice none 0 0 :: .int .i64 0 :: .int .i64 0 :: .int .i64 0 :: .int .i64 0 :: .int .i64 0 :: .int .i64 0 :: .int .i64 0 :: .int .i64 0 :: .string ⟨#[]⟩ :: .string ⟨#[]⟩ :: .slice none 0 0 :: .int .i64 0 :: .int .i64 0 :: .int .i64 0 :: .int .i64 0 :: .int .i64 0 :: .int .i64 0 :: .slice none 0 0 :: .slice none 0 0 :: []).toArray)) := B1.out.trans (KF.out.toBelow B1.out.size (fun j hj e => by omega))
 go_wp2_with (refine wpList_store_row (by rfl) _ _ _ (by rfl) w.heap.size (.int .i64 3 :: .int .i64 1 :: .int .i64 0 :: .int .i64 0 :: .int .i64 0 :: .int .i64 0 :: .int .i64 0 :: .int .i64 n :: .int .i64 0 :: .slice none 0 0 :: .int .i64 0 :: .slice none 0 0 :: .int .i64 0 :: .int .i64 0 :: .int .i64 0 :: .int .i64 0 :: .int .i64 0 :: .slice none 0 0 :: .slice none 0 0 :: .int .i64 0 :: .int .i64 0 :: .int .i64 0 :: .int .i64 0 :: .int .i64 0 :: .int .i64 0 :: .int .i64 0 :: .int .i64 0 :: .string ⟨#[]⟩ :: .string ⟨#[]⟩ :: .slice none 0 0 :: .int .i64 0 :: .int .i64 0 :: .int .i64 0 :: .int .i64 0 :: .int .i64 0 :: .int .i64 0 :: .slice none 0 0 :: .slice none 0 0 :: []).toArray (by rfl) (by rfl) 44 _ CQ.out HI39.out HSZ.out HONE.out ?_)
 refine bodyPost_ret (results_cl rfl _ _ _ _ _ _ rfl CF.out Tryz.underlying44 rfl HI38.out) rfl ?_
 exact ⟨rfl, BF.out⟩
end Go.Proofs.YtbljbdjmgogknaaGreatDoor
namespace Go.Proofs.YtbljbdjmgogknaaGreatDoor
open Go.RowKit
def CopyPost (B pb : Nat) (lv : Value) (l : List Item) (w : World) (e : Ending) (w' : World) : Prop :=
 e = .returned (.bool true) ∧ ∃ lv', BagW w' B pb lv' l ∧ BagK pb lv lv' w w'
set_option maxRecDepth 20000 in
set_option maxHeartbeats 3200000 in
theorem bagCopy_any (B pb : Nat) (lv : Value) (l : List Item) (k : Nat) (x : Item) (hx : l[k]? = some x) (hlt : l.length < 256) (w : World) (h : BagW w B pb lv l) (hB : B ≤ w.heap.size) :
  Calls Tryz.prog 15 #[.pointer (some ⟨pb, 0, none⟩), .int .i64 k] w (CopyPost B pb lv (l ++ [x]) w) := by
 have H2 := Lib.hid h
 have hk : k < l.length := (List.getElem?_eq_some_iff.1 hx).1
 have hki : (k : Int) < (l.length : Int) := by omega
 have HX := Lib.hid hx
 have HH := bagHas_any B pb lv l k w h
 rw [show decide (0 ≤ (k : Int) ∧ (k : Int) < (l.length : Int)) = true from decide_eq_true (by omega)] at HH
 have HHA := Lib.hid HH
 obtain ⟨i0, hi, hz0, hz1, hz2⟩ := info_parts infoItem
 clear h HH hx
 have s1 := H2.out.s
 rcases s1.2 with ⟨_, h0⟩ | ⟨g, off, cap, hlv, hgB, hg, hnc, hmc, hr, ht⟩
 ·omega
 subst hlv
 have c1 : w.cell? ⟨pb, 0, none⟩ = some (.slice (some ⟨g, off, none⟩) l.length cap) := H2.out.c.cell 0
 have cx : w.cell? ⟨g, off + k * 2, none⟩ = some (.string ⟨x.1.toArray⟩) := hr _ _ (itC_at HX.out).1
 have cy : w.cell? ⟨g, off + k * 2 + 1, none⟩ = some (.int .i64 x.2) := by rw [Nat.add_assoc]; exact hr _ _ (itC_at HX.out).2
 clear s1 hr ht
 have ITM : Hid (Cl (w.alloc (.cells #[.string ⟨x.1.toArray⟩, .int .i64 x.2] 74)) w.heap.size [.string ⟨x.1.toArray⟩, .int .i64 x.2] 74) := Cl.new w _ _
 have hsl : Hid (Sl (w.alloc (.cells #[.string ⟨x.1.toArray⟩, .int .i64 x.2] 74)).drew B 2 (.slice (some ⟨g, off, none⟩) l.length cap) l.length (itC l)) := H2.out.s.kept (S := fun _ => False) ((Keeps.alloc _ _ _).trans (Keeps.drew _ _)) (fun _ _ => id)
 have hsrc : Hid (SrcIs (w.alloc (.cells #[.string ⟨x.1.toArray⟩, .int .i64 x.2] 74)).drew 2 (.slice (some ⟨w.heap.size, 0, none⟩) 1 1) 1 [.string ⟨x.1.toArray⟩, .int .i64 x.2]) := ITM.out.src 2 1 1 rfl
 have hone : ∀ u ∈ [Value.string ⟨x.1.toArray⟩, .int .i64 x.2], u.oneCell' = true := by simp [Value.oneCell']
 have h63 : l.length + 1 ≤ maxLen := by unfold maxLen; omega
 have hby : (l.length + 1) * 24 ≤ 140737488355328 := by omega
 have hba : B ≤ ((w.alloc (.cells #[.string ⟨x.1.toArray⟩, .int .i64 x.2] 74)).drew).heap.size := by have h2 := World.size_alloc w (.cells #[.string ⟨x.1.toArray⟩, .int .i64 x.2] 74); show B ≤ (w.alloc (.cells #[.string ⟨x.1.toArray⟩, .int .i64 x.2] 74)).heap.size; omega
 have HPO := Lib.hid (fun (w4 : World) (v' : Value) h1 h2 h3 => bag_put_post (x := x) (w4 := w4) (v' := v') H2.out hlt h1 h2 h3)
 have gA : (w.alloc (.cells #[.string ⟨x.1.toArray⟩, .int .i64 x.2] 74)).cell? ⟨pb, 0, none⟩ = some (.slice (some ⟨g, off, none⟩) l.length cap) := (H2.out.c.alloc _).cell 0
 go_enter Tryz.func15, Tryz.ntmps15
 go_wp2_with fail
 refine HHA.out.mono ?_
 rintro e w2 ⟨rfl, rfl⟩
 clear HHA
 go_upto_region 3 with (fail)
 go_region_law (first
  | (refine step_append_sl _ (by rfl) _ _ _ (by rfl) B 74 i0 _ 2 24 Tryz.underlying63 hi hz0 hz1 hz2 rfl (by decide) (.slice (some ⟨g, off, none⟩) l.length cap) l.length (itC l) (by rfl) hsl.out (.slice (some ⟨w2.heap.size, 0, none⟩) 1 1) 1 [.string ⟨x.1.toArray⟩, .int .i64 x.2] (by rfl) hsrc.out hone h63 hby hba Nat.one_pos ?_; intro g4 off4 cap4 w4 hown4 hg4 hnew4; obtain ⟨hpost, hcell4, hfree4⟩ := HPO.out _ _ hown4 hg4 (hnew4.imp (fun e => e.symm) (fun e k hk => (Option.some.inj hk) ▸ e)); have HP := Lib.hid hpost; clear hpost hown4 hg4 hnew4))
 all_goals
  go_wp2
  go_ret
  exact ⟨rfl, _, HP.out.1, HP.out.2⟩
end Go.Proofs.YtbljbdjmgogknaaGreatDoor
