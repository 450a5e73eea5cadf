/-
  Bag: Take (printed by wip/gen/mkbag2.py).
  Conditions: what is decoded is known.
-/
import Derived.Test.YtbljbdjmgogknaaGreatDoorGb
set_option linter.unusedVariables false
set_option linter.unusedSimpArgs false
namespace Go.Proofs.YtbljbdjmgogknaaGreatDoor
open Go.RowKit

def DecPost (D : List Value → World → Prop) (W : World) (e : Ending) (w' : World) : Prop :=
  ∃ cs, e = .returned (.tuple #[.agg cs.toArray, .int .i64 0]) ∧ cs.length = 38 ∧ cs.all (·.oneCell') = true ∧ Below W.heap.size W w' ∧ (∀ S b, Keeps S w' b → (∀ j, W.heap.size ≤ j → j < w'.heap.size → ¬ S j) → D cs b)
def TakePost (B pb : Nat) (lv : Value) (l : List Item) (D : List Value → World → Prop) (w : World) (e : Ending) (w' : World) : Prop :=
  ∃ cs lv', e = .returned (.tuple #[.agg cs.toArray, .bool true]) ∧ D cs w' ∧ BagW w' B pb lv' l ∧ BagK pb lv lv' w w'
def NoPost (B pb : Nat) (lv : Value) (l : List Item) (w : World) (e : Ending) (w' : World) : Prop :=
  e = .returned (.tuple #[.agg (.int .i64 0 :: .int .i64 0 :: .int .i64 0 :: .int .i64 0 :: .int .i64 0 :: .int .i64 0 :: .int .i64 0 :: .int .i64 0 :: .int .i64 0 :: .slice none 0 0 :: .int .i64 0 :: .slice none 0 0 :: .int .i64 0 :: .int .i64 0 :: .int .i64 0 :: .int .i64 0 :: .int .i64 0 :: .slice none 0 0 :: .slice none 0 0 :: .int .i64 0 :: .int .i64 0 :: .int .i64 0 :: .int .i64 0 :: .int .i64 0 :: .int .i64 0 :: .int .i64 0 :: .int .i64 0 :: .string ⟨#[]⟩ :: .string ⟨#[]⟩ :: .slice none 0 0 :: .int .i64 0 :: .int .i64 0 :: .int .i64 0 :: .int .i64 0 :: .int .i64 0 :: .int .i64 0 :: .slice none 0 0 :: .slice none 0 0 :: []).toArray, .bool false]) ∧ BagW w' B pb lv l ∧ Below w.heap.size w w'
set_option maxRecDepth 20000 in
set_option maxHeartbeats 3200000 in
theorem bagTake_no (B pb : Nat) (lv : Value) (l : List Item) (n : Int) (hn : ¬ (0 ≤ n ∧ n < l.length)) (w : World) (h : BagW w B pb lv l) :
    Calls Tryz.prog 12 #[.pointer (some ⟨pb, 0, none⟩), .int .i64 n] w (NoPost B pb lv l w) := by
  have H0 := Lib.hid h
  clear h
  have HI38 := Lib.hid (show (Tryz.prog.info? 44).map (·.size) = some ((.int .i64 0 :: .int .i64 0 :: .int .i64 0 :: .int .i64 0 :: .int .i64 0 :: .int .i64 0 :: .int .i64 0 :: .int .i64 0 :: .int .i64 0 :: .slice none 0 0 :: .int .i64 0 :: .slice none 0 0 :: .int .i64 0 :: .int .i64 0 :: .int .i64 0 :: .int .i64 0 :: .int .i64 0 :: .slice none 0 0 :: .slice none 0 0 :: .int .i64 0 :: .int .i64 0 :: .int .i64 0 :: .int .i64 0 :: .int .i64 0 :: .int .i64 0 :: .int .i64 0 :: .int .i64 0 :: .string ⟨#[]⟩ :: .string ⟨#[]⟩ :: .slice none 0 0 :: .int .i64 0 :: .int .i64 0 :: .int .i64 0 :: .int .i64 0 :: .int .i64 0 :: .int .i64 0 :: .slice none 0 0 :: .slice none 0 0 :: []) : List Value).length by kernel_rfl)
  have HI39 := Lib.hid (show (Tryz.prog.info? 44).map (·.size) = some ((.int .i64 0 :: .int .i64 0 :: .int .i64 0 :: .int .i64 0 :: .int .i64 0 :: .int .i64 0 :: .int .i64 0 :: .int .i64 0 :: .int .i64 0 :: .slice none 0 0 :: .int .i64 0 :: .slice none 0 0 :: .int .i64 0 :: .int .i64 0 :: .int .i64 0 :: .int .i64 0 :: .int .i64 0 :: .slice none 0 0 :: .slice none 0 0 :: .int .i64 0 :: .int .i64 0 :: .int .i64 0 :: .int .i64 0 :: .int .i64 0 :: .int .i64 0 :: .int .i64 0 :: .int .i64 0 :: .string ⟨#[]⟩ :: .string ⟨#[]⟩ :: .slice none 0 0 :: .int .i64 0 :: .int .i64 0 :: .int .i64 0 :: .int .i64 0 :: .int .i64 0 :: .int .i64 0 :: .slice none 0 0 :: .slice none 0 0 :: []).toArray : Array Value).size by kernel_rfl)
  have HONE : Hid (((.int .i64 0 :: .int .i64 0 :: .int .i64 0 :: .int .i64 0 :: .int .i64 0 :: .int .i64 0 :: .int .i64 0 :: .int .i64 0 :: .int .i64 0 :: .slice none 0 0 :: .int .i64 0 :: .slice none 0 0 :: .int .i64 0 :: .int .i64 0 :: .int .i64 0 :: .int .i64 0 :: .int .i64 0 :: .slice none 0 0 :: .slice none 0 0 :: .int .i64 0 :: .int .i64 0 :: .int .i64 0 :: .int .i64 0 :: .int .i64 0 :: .int .i64 0 :: .int .i64 0 :: .int .i64 0 :: .string ⟨#[]⟩ :: .string ⟨#[]⟩ :: .slice none 0 0 :: .int .i64 0 :: .int .i64 0 :: .int .i64 0 :: .int .i64 0 :: .int .i64 0 :: .int .i64 0 :: .slice none 0 0 :: .slice none 0 0 :: []).toArray : Array Value).all (·.oneCell') = true) := by simp [Hid, Value.oneCell']
  go_enter Tryz.func12, Tryz.ntmps12
  obtain ⟨w1, hw1, CR, B1⟩ := oneBox (w := w) (.int .i64 0 :: .int .i64 0 :: .int .i64 0 :: .int .i64 0 :: .int .i64 0 :: .int .i64 0 :: .int .i64 0 :: .int .i64 0 :: .int .i64 0 :: .slice none 0 0 :: .int .i64 0 :: .slice none 0 0 :: .int .i64 0 :: .int .i64 0 :: .int .i64 0 :: .int .i64 0 :: .int .i64 0 :: .slice none 0 0 :: .slice none 0 0 :: .int .i64 0 :: .int .i64 0 :: .int .i64 0 :: .int .i64 0 :: .int .i64 0 :: .int .i64 0 :: .int .i64 0 :: .int .i64 0 :: .string ⟨#[]⟩ :: .string ⟨#[]⟩ :: .slice none 0 0 :: .int .i64 0 :: .int .i64 0 :: .int .i64 0 :: .int .i64 0 :: .int .i64 0 :: .int .i64 0 :: .slice none 0 0 :: .slice none 0 0 :: []) 44
  have HW1 := Lib.hid hw1
  clear hw1
  go_upto_region 1 with (fail)
  first | rw [HW1.out] | skip
  clear HW1
  have H1 := Lib.hid (H0.out.below B1.out)
  have HH := bagHas_any B pb lv l n w1 H1.out
  rw [show decide (0 ≤ n ∧ n < (l.length : Int)) = false from decide_eq_false hn] at HH
  have HHA := Lib.hid HH
  clear HH hn
  obtain ⟨pr, hpr⟩ : ∃ pr, pr = w.heap.size := ⟨_, rfl⟩
  rw [← hpr] at CR
  first | rw [← hpr] | skip
  have HPR := Lib.hid hpr
  clear hpr
  go_wp2_with fail
  refine HHA.out.mono ?_
  rintro e w2 ⟨rfl, rfl⟩
  have CQ : Hid (w2.heap[pr]? = some (.cells (.int .i64 0 :: .int .i64 0 :: .int .i64 0 :: .int .i64 0 :: .int .i64 0 :: .int .i64 0 :: .int .i64 0 :: .int .i64 0 :: .int .i64 0 :: .slice none 0 0 :: .int .i64 0 :: .slice none 0 0 :: .int .i64 0 :: .int .i64 0 :: .int .i64 0 :: .int .i64 0 :: .int .i64 0 :: .slice none 0 0 :: .slice none 0 0 :: .int .i64 0 :: .int .i64 0 :: .int .i64 0 :: .int .i64 0 :: .int .i64 0 :: .int .i64 0 :: .int .i64 0 :: .int .i64 0 :: .string ⟨#[]⟩ :: .string ⟨#[]⟩ :: .slice none 0 0 :: .int .i64 0 :: .int .i64 0 :: .int .i64 0 :: .int .i64 0 :: .int .i64 0 :: .int .i64 0 :: .slice none 0 0 :: .slice none 0 0 :: []).toArray 44 (0, 0))) := CR.out
  have CF : Hid (Cl (w2.setRow pr (.int .i64 0 :: .int .i64 0 :: .int .i64 0 :: .int .i64 0 :: .int .i64 0 :: .int .i64 0 :: .int .i64 0 :: .int .i64 0 :: .int .i64 0 :: .slice none 0 0 :: .int .i64 0 :: .slice none 0 0 :: .int .i64 0 :: .int .i64 0 :: .int .i64 0 :: .int .i64 0 :: .int .i64 0 :: .slice none 0 0 :: .slice none 0 0 :: .int .i64 0 :: .int .i64 0 :: .int .i64 0 :: .int .i64 0 :: .int .i64 0 :: .int .i64 0 :: .int .i64 0 :: .int .i64 0 :: .string ⟨#[]⟩ :: .string ⟨#[]⟩ :: .slice none 0 0 :: .int .i64 0 :: .int .i64 0 :: .int .i64 0 :: .int .i64 0 :: .int .i64 0 :: .int .i64 0 :: .slice none 0 0 :: .slice none 0 0 :: []).toArray) pr (.int .i64 0 :: .int .i64 0 :: .int .i64 0 :: .int .i64 0 :: .int .i64 0 :: .int .i64 0 :: .int .i64 0 :: .int .i64 0 :: .int .i64 0 :: .slice none 0 0 :: .int .i64 0 :: .slice none 0 0 :: .int .i64 0 :: .int .i64 0 :: .int .i64 0 :: .int .i64 0 :: .int .i64 0 :: .slice none 0 0 :: .slice none 0 0 :: .int .i64 0 :: .int .i64 0 :: .int .i64 0 :: .int .i64 0 :: .int .i64 0 :: .int .i64 0 :: .int .i64 0 :: .int .i64 0 :: .string ⟨#[]⟩ :: .string ⟨#[]⟩ :: .slice none 0 0 :: .int .i64 0 :: .int .i64 0 :: .int .i64 0 :: .int .i64 0 :: .int .i64 0 :: .int .i64 0 :: .slice none 0 0 :: .slice none 0 0 :: []) 44) := CR.out.row _
  have KF : Hid (Keeps (fun j => j = pr) w2 (w2.setRow pr (.int .i64 0 :: .int .i64 0 :: .int .i64 0 :: .int .i64 0 :: .int .i64 0 :: .int .i64 0 :: .int .i64 0 :: .int .i64 0 :: .int .i64 0 :: .slice none 0 0 :: .int .i64 0 :: .slice none 0 0 :: .int .i64 0 :: .int .i64 0 :: .int .i64 0 :: .int .i64 0 :: .int .i64 0 :: .slice none 0 0 :: .slice none 0 0 :: .int .i64 0 :: .int .i64 0 :: .int .i64 0 :: .int .i64 0 :: .int .i64 0 :: .int .i64 0 :: .int .i64 0 :: .int .i64 0 :: .string ⟨#[]⟩ :: .string ⟨#[]⟩ :: .slice none 0 0 :: .int .i64 0 :: .int .i64 0 :: .int .i64 0 :: .int .i64 0 :: .int .i64 0 :: .int .i64 0 :: .slice none 0 0 :: .slice none 0 0 :: []).toArray)) := Keeps.row _ _ _ rfl
  go_wp2_with (refine wpList_store_row (by rfl) _ _ _ (by rfl) pr (.int .i64 0 :: .int .i64 0 :: .int .i64 0 :: .int .i64 0 :: .int .i64 0 :: .int .i64 0 :: .int .i64 0 :: .int .i64 0 :: .int .i64 0 :: .slice none 0 0 :: .int .i64 0 :: .slice none 0 0 :: .int .i64 0 :: .int .i64 0 :: .int .i64 0 :: .int .i64 0 :: .int .i64 0 :: .slice none 0 0 :: .slice none 0 0 :: .int .i64 0 :: .int .i64 0 :: .int .i64 0 :: .int .i64 0 :: .int .i64 0 :: .int .i64 0 :: .int .i64 0 :: .int .i64 0 :: .string ⟨#[]⟩ :: .string ⟨#[]⟩ :: .slice none 0 0 :: .int .i64 0 :: .int .i64 0 :: .int .i64 0 :: .int .i64 0 :: .int .i64 0 :: .int .i64 0 :: .slice none 0 0 :: .slice none 0 0 :: []).toArray (by rfl) (by rfl) 44 _ CQ.out HI39.out rfl HONE.out ?_)
  refine bodyPost_ret (results_cl_tmp rfl _ _ _ _ _ _ rfl CF.out Tryz.underlying44 rfl HI38.out) rfl ?_
  have hlt := H0.out.c.lt
  have hp := HPR.out
  refine ⟨rfl, H1.out.keep KF.out (by omega) (fun j hj e => by have := (H0.out.s.lt j hj).2; omega), B1.out.trans (KF.out.toBelow B1.out.size (fun j hj e => by omega))⟩
set_option maxRecDepth 20000 in
set_option maxHeartbeats 3200000 in
theorem bagTake_any (B pb : Nat) (lv : Value) (l : List Item) (k : Nat) (x : Item) (hx : l[k]? = some x) (D : List Value → World → Prop) (w : World) (h : BagW w B pb lv l) (hB : B ≤ w.heap.size)
    (HD : ∀ W, Below w.heap.size w W → Calls Tryz.prog 26 #[.string ⟨x.1.toArray⟩] W (DecPost D W)) :
    Calls Tryz.prog 12 #[.pointer (some ⟨pb, 0, none⟩), .int .i64 k] w (TakePost B pb lv (l.eraseIdx k) D w) := by
  have H0 := Lib.hid h
  have HDD := Lib.hid HD
  have hk : k < l.length := (List.getElem?_eq_some_iff.1 hx).1
  have hm := h.m
  have HX := Lib.hid hx
  clear h HD hx
  have HI38 := Lib.hid (show (Tryz.prog.info? 44).map (·.size) = some 38 by kernel_rfl)
  go_enter Tryz.func12, Tryz.ntmps12
  obtain ⟨w1, hw1, CR, B1⟩ := oneBox (w := w) (.int .i64 0 :: .int .i64 0 :: .int .i64 0 :: .int .i64 0 :: .int .i64 0 :: .int .i64 0 :: .int .i64 0 :: .int .i64 0 :: .int .i64 0 :: .slice none 0 0 :: .int .i64 0 :: .slice none 0 0 :: .int .i64 0 :: .int .i64 0 :: .int .i64 0 :: .int .i64 0 :: .int .i64 0 :: .slice none 0 0 :: .slice none 0 0 :: .int .i64 0 :: .int .i64 0 :: .int .i64 0 :: .int .i64 0 :: .int .i64 0 :: .int .i64 0 :: .int .i64 0 :: .int .i64 0 :: .string ⟨#[]⟩ :: .string ⟨#[]⟩ :: .slice none 0 0 :: .int .i64 0 :: .int .i64 0 :: .int .i64 0 :: .int .i64 0 :: .int .i64 0 :: .int .i64 0 :: .slice none 0 0 :: .slice none 0 0 :: []) 44
  have HW1 := Lib.hid hw1
  clear hw1
  go_upto_region 1 with (fail)
  first | rw [HW1.out] | skip
  clear HW1
  have H1 := Lib.hid (H0.out.below B1.out)
  have HH := bagHas_any B pb lv l k w1 H1.out
  rw [show decide (0 ≤ (k : Int) ∧ (k : Int) < (l.length : Int)) = true from decide_eq_true (by omega)] at HH
  have HHA := Lib.hid HH
  clear HH
  obtain ⟨pr, hpr⟩ : ∃ pr, pr = w.heap.size := ⟨_, rfl⟩
  rw [← hpr] at CR
  first | rw [← hpr] | skip
  have HPR := Lib.hid hpr
  clear hpr
  have HD1 := Lib.hid (HDD.out _ B1.out)
  have HDEL := Lib.hid (fun (W : World) => bagDelete B l k hk hm lv W)
  have hpl := H0.out.c.lt
  have hol : Hid (∀ j, lv.ownBlock = some j → j < w.heap.size) := fun j hj => (H0.out.s.lt j hj).2
  have hnb : Hid (∀ j, lv.ownBlock = some j → j ≠ pb) := H0.out.n
  have hbb : B ≤ pb := H0.out.b
  have hbo : Hid (∀ j, lv.ownBlock = some j → B ≤ j) := fun j hj => (H0.out.s.lt j hj).1
  have hpc := HPR.out
  have hpne : pr ≠ pb := by omega
  clear hpc
  have s1 : Sl w1 B 2 lv l.length (itC l) := H1.out.s
  rcases s1.2 with ⟨_, h0⟩ | ⟨g, off, cap, hlv, hgB, hg, hnc, hmc, hr, ht⟩
  · omega
  subst hlv
  have c1 : w1.cell? ⟨pb, 0, none⟩ = some (.slice (some ⟨g, off, none⟩) l.length cap) := H1.out.c.cell 0
  have cx : w1.cell? ⟨g, off + k * 2, none⟩ = some (.string ⟨x.1.toArray⟩) := hr _ _ (itC_at HX.out).1
  have hki : (k : Int) < (l.length : Int) := by omega
  clear s1 hr ht HDD
  go_upto_region 3 with (first
    | (refine HHA.out.mono ?_; rintro e w2 ⟨rfl, rfl⟩))
  clear HHA
  go_wp2_with fail
  refine HD1.out.mono ?_
  rintro e w3 ⟨cs, rfl, hlen, hone, hb3, hD3⟩
  have B3 := Lib.hid hb3
  have HD3 := Lib.hid hD3
  have H3 := Lib.hid (H1.out.below hb3)
  have C3 := Lib.hid (CR.out.below hb3)
  have HLEN := Lib.hid hlen
  have HON := Lib.hid hone
  clear hb3 hD3 c1 cx HD1 hlen hone
  have HOA : Hid ((cs.toArray : Array Value).all (·.oneCell') = true) := by rw [Hid, List.all_toArray]; exact HON.out
  have HIA : Hid ((Tryz.prog.info? 44).map (·.size) = some (cs.toArray : Array Value).size) := by rw [Hid, HI38.out, List.size_toArray, HLEN.out]
  have HIL : Hid ((Tryz.prog.info? 44).map (·.size) = some cs.length) := by rw [Hid, HI38.out, HLEN.out]
  have HSZ : Hid (((.int .i64 0 :: .int .i64 0 :: .int .i64 0 :: .int .i64 0 :: .int .i64 0 :: .int .i64 0 :: .int .i64 0 :: .int .i64 0 :: .int .i64 0 :: .slice none 0 0 :: .int .i64 0 :: .slice none 0 0 :: .int .i64 0 :: .int .i64 0 :: .int .i64 0 :: .int .i64 0 :: .int .i64 0 :: .slice none 0 0 :: .slice none 0 0 :: .int .i64 0 :: .int .i64 0 :: .int .i64 0 :: .int .i64 0 :: .int .i64 0 :: .int .i64 0 :: .int .i64 0 :: .int .i64 0 :: .string ⟨#[]⟩ :: .string ⟨#[]⟩ :: .slice none 0 0 :: .int .i64 0 :: .int .i64 0 :: .int .i64 0 :: .int .i64 0 :: .int .i64 0 :: .int .i64 0 :: .slice none 0 0 :: .slice none 0 0 :: []).toArray : Array Value).size = (cs.toArray : Array Value).size) := by rw [Hid]; show _ = cs.length; rw [HLEN.out]; rfl
  have CM : Hid ((w3.alloc (.cells (.int .i64 0 :: .int .i64 0 :: .int .i64 0 :: .int .i64 0 :: .int .i64 0 :: .int .i64 0 :: .int .i64 0 :: .int .i64 0 :: .int .i64 0 :: .slice none 0 0 :: .int .i64 0 :: .slice none 0 0 :: .int .i64 0 :: .int .i64 0 :: .int .i64 0 :: .int .i64 0 :: .int .i64 0 :: .slice none 0 0 :: .slice none 0 0 :: .int .i64 0 :: .int .i64 0 :: .int .i64 0 :: .int .i64 0 :: .int .i64 0 :: .int .i64 0 :: .int .i64 0 :: .int .i64 0 :: .string ⟨#[]⟩ :: .string ⟨#[]⟩ :: .slice none 0 0 :: .int .i64 0 :: .int .i64 0 :: .int .i64 0 :: .int .i64 0 :: .int .i64 0 :: .int .i64 0 :: .slice none 0 0 :: .slice none 0 0 :: []).toArray 44)).heap[w3.heap.size]? = some (.cells (.int .i64 0 :: .int .i64 0 :: .int .i64 0 :: .int .i64 0 :: .int .i64 0 :: .int .i64 0 :: .int .i64 0 :: .int .i64 0 :: .int .i64 0 :: .slice none 0 0 :: .int .i64 0 :: .slice none 0 0 :: .int .i64 0 :: .int .i64 0 :: .int .i64 0 :: .int .i64 0 :: .int .i64 0 :: .slice none 0 0 :: .slice none 0 0 :: .int .i64 0 :: .int .i64 0 :: .int .i64 0 :: .int .i64 0 :: .int .i64 0 :: .int .i64 0 :: .int .i64 0 :: .int .i64 0 :: .string ⟨#[]⟩ :: .string ⟨#[]⟩ :: .slice none 0 0 :: .int .i64 0 :: .int .i64 0 :: .int .i64 0 :: .int .i64 0 :: .int .i64 0 :: .int .i64 0 :: .slice none 0 0 :: .slice none 0 0 :: []).toArray 44 (0, 0))) := Cl.new w3 (.int .i64 0 :: .int .i64 0 :: .int .i64 0 :: .int .i64 0 :: .int .i64 0 :: .int .i64 0 :: .int .i64 0 :: .int .i64 0 :: .int .i64 0 :: .slice none 0 0 :: .int .i64 0 :: .slice none 0 0 :: .int .i64 0 :: .int .i64 0 :: .int .i64 0 :: .int .i64 0 :: .int .i64 0 :: .slice none 0 0 :: .slice none 0 0 :: .int .i64 0 :: .int .i64 0 :: .int .i64 0 :: .int .i64 0 :: .int .i64 0 :: .int .i64 0 :: .int .i64 0 :: .int .i64 0 :: .string ⟨#[]⟩ :: .string ⟨#[]⟩ :: .slice none 0 0 :: .int .i64 0 :: .int .i64 0 :: .int .i64 0 :: .int .i64 0 :: .int .i64 0 :: .int .i64 0 :: .slice none 0 0 :: .slice none 0 0 :: []) _
  have C5 : Hid (Cl ((w3.alloc (.cells (.int .i64 0 :: .int .i64 0 :: .int .i64 0 :: .int .i64 0 :: .int .i64 0 :: .int .i64 0 :: .int .i64 0 :: .int .i64 0 :: .int .i64 0 :: .slice none 0 0 :: .int .i64 0 :: .slice none 0 0 :: .int .i64 0 :: .int .i64 0 :: .int .i64 0 :: .int .i64 0 :: .int .i64 0 :: .slice none 0 0 :: .slice none 0 0 :: .int .i64 0 :: .int .i64 0 :: .int .i64 0 :: .int .i64 0 :: .int .i64 0 :: .int .i64 0 :: .int .i64 0 :: .int .i64 0 :: .string ⟨#[]⟩ :: .string ⟨#[]⟩ :: .slice none 0 0 :: .int .i64 0 :: .int .i64 0 :: .int .i64 0 :: .int .i64 0 :: .int .i64 0 :: .int .i64 0 :: .slice none 0 0 :: .slice none 0 0 :: []).toArray 44)).setRow w3.heap.size cs.toArray) w3.heap.size cs 44) := by
    have := Cl.row (Cl.new w3 (.int .i64 0 :: .int .i64 0 :: .int .i64 0 :: .int .i64 0 :: .int .i64 0 :: .int .i64 0 :: .int .i64 0 :: .int .i64 0 :: .int .i64 0 :: .slice none 0 0 :: .int .i64 0 :: .slice none 0 0 :: .int .i64 0 :: .int .i64 0 :: .int .i64 0 :: .int .i64 0 :: .int .i64 0 :: .slice none 0 0 :: .slice none 0 0 :: .int .i64 0 :: .int .i64 0 :: .int .i64 0 :: .int .i64 0 :: .int .i64 0 :: .int .i64 0 :: .int .i64 0 :: .int .i64 0 :: .string ⟨#[]⟩ :: .string ⟨#[]⟩ :: .slice none 0 0 :: .int .i64 0 :: .int .i64 0 :: .int .i64 0 :: .int .i64 0 :: .int .i64 0 :: .int .i64 0 :: .slice none 0 0 :: .slice none 0 0 :: []) 44) cs.toArray
    rwa [List.toList_toArray] at this
  have K5 : Hid (Keeps (fun j => j = w3.heap.size) w3 ((w3.alloc (.cells (.int .i64 0 :: .int .i64 0 :: .int .i64 0 :: .int .i64 0 :: .int .i64 0 :: .int .i64 0 :: .int .i64 0 :: .int .i64 0 :: .int .i64 0 :: .slice none 0 0 :: .int .i64 0 :: .slice none 0 0 :: .int .i64 0 :: .int .i64 0 :: .int .i64 0 :: .int .i64 0 :: .int .i64 0 :: .slice none 0 0 :: .slice none 0 0 :: .int .i64 0 :: .int .i64 0 :: .int .i64 0 :: .int .i64 0 :: .int .i64 0 :: .int .i64 0 :: .int .i64 0 :: .int .i64 0 :: .string ⟨#[]⟩ :: .string ⟨#[]⟩ :: .slice none 0 0 :: .int .i64 0 :: .int .i64 0 :: .int .i64 0 :: .int .i64 0 :: .int .i64 0 :: .int .i64 0 :: .slice none 0 0 :: .slice none 0 0 :: []).toArray 44)).setRow w3.heap.size cs.toArray)) := (Keeps.alloc _ _ _).trans (Keeps.row _ _ _ rfl)
  go_upto_region 4 with (refine wpList_store_row (by rfl) _ _ _ (by rfl) w3.heap.size cs.toArray (by rfl) (by rfl) 44 _ CM.out HIA.out HSZ.out HOA.out ?_)
  generalize (w3.alloc (.cells (.int .i64 0 :: .int .i64 0 :: .int .i64 0 :: .int .i64 0 :: .int .i64 0 :: .int .i64 0 :: .int .i64 0 :: .int .i64 0 :: .int .i64 0 :: .slice none 0 0 :: .int .i64 0 :: .slice none 0 0 :: .int .i64 0 :: .int .i64 0 :: .int .i64 0 :: .int .i64 0 :: .int .i64 0 :: .slice none 0 0 :: .slice none 0 0 :: .int .i64 0 :: .int .i64 0 :: .int .i64 0 :: .int .i64 0 :: .int .i64 0 :: .int .i64 0 :: .int .i64 0 :: .int .i64 0 :: .string ⟨#[]⟩ :: .string ⟨#[]⟩ :: .slice none 0 0 :: .int .i64 0 :: .int .i64 0 :: .int .i64 0 :: .int .i64 0 :: .int .i64 0 :: .int .i64 0 :: .slice none 0 0 :: .slice none 0 0 :: []).toArray 44)).setRow w3.heap.size cs.toArray = w5 at *
  clear CM
  obtain ⟨pm, hpm⟩ : ∃ pm, pm = w3.heap.size := ⟨_, rfl⟩
  rw [← hpm] at C5 K5 ⊢
  have hs1 := B1.out.size
  have hs3 := B3.out.size
  have hl1 := CR.out.lt
  have hl3 := H3.out.c.lt
  have H5 := Lib.hid (H3.out.keep K5.out (by omega) (fun j hj e => by have := (H3.out.s.lt j hj).2; omega))
  have CR5 := Lib.hid (C3.out.keep K5.out (by have := C3.out.lt; omega))
  have hpm1 : pm ≠ pr := by omega
  have hpm2 : pm ≠ pb := by omega
  have c5 : w5.cell? ⟨pb, 0, none⟩ = some (.slice (some ⟨g, off, none⟩) l.length cap) := H5.out.c.cell 0
  have hwk : IntKind.i64.wrap ((k : Int) + 1) = (k : Int) + 1 := by rw [IntKind.wrap_i64]; omega
  have HDE := Lib.hid (HDEL.out w5 H5.out.s)
  clear HDEL
  have HPM := Lib.hid hpm
  clear hpm
  go_wp2_with fail
  refine HDE.out.mono ?_
  rintro e w6 ⟨v', rfl, hown, hs6, hk6⟩
  have HOWN := Lib.hid hown
  have S6 := Lib.hid hs6
  have K6 := Lib.hid hk6
  clear hown hs6 hk6 c5 HDE
  have P6 := Lib.hid (Cl.keep H5.out.c K6.out (fun e => hnb.out _ e rfl))
  obtain ⟨a', cap', hv', _⟩ := S6.out.form
  subst hv'
  have c6 : w6.cell? ⟨pb, 0, none⟩ = some (.slice (some ⟨g, off, none⟩) l.length cap) := P6.out.cell 0
  have f6 : w6.frozen? ⟨pb, 0, none⟩ = false := P6.out.free 0
  have CR6 := Lib.hid (Cl.keep CR5.out K6.out (fun e => by have := hol.out _ e; have := HPR.out; omega))
  have CM6 := Lib.hid (Cl.keep C5.out K6.out (fun e => by have := hol.out _ e; have := HPM.out; omega))
  have K7 : Hid (Keeps (fun j => j = pb) w6 (w6.setCell ⟨pb, 0, none⟩ (.slice a' (l.eraseIdx k).length cap'))) := Keeps.setCell _ _ _ _ rfl
  have P7 : Hid (Cl (w6.setCell ⟨pb, 0, none⟩ (.slice a' (l.eraseIdx k).length cap')) pb [.slice a' (l.eraseIdx k).length cap'] 65) := Cl.set P6.out 0 _
  have CR7 := Lib.hid (Cl.keep CR6.out K7.out hpne)
  have CM7 := Lib.hid (Cl.keep CM6.out K7.out hpm2)
  go_upto_region 5 with (fail)
  generalize w6.setCell ⟨pb, 0, none⟩ (.slice a' (l.eraseIdx k).length cap') = w7 at *
  clear c6 f6
  have R7 := Lib.hid CM7.out.range
  have CQ : Hid (w7.heap[pr]? = some (.cells (.int .i64 0 :: .int .i64 0 :: .int .i64 0 :: .int .i64 0 :: .int .i64 0 :: .int .i64 0 :: .int .i64 0 :: .int .i64 0 :: .int .i64 0 :: .slice none 0 0 :: .int .i64 0 :: .slice none 0 0 :: .int .i64 0 :: .int .i64 0 :: .int .i64 0 :: .int .i64 0 :: .int .i64 0 :: .slice none 0 0 :: .slice none 0 0 :: .int .i64 0 :: .int .i64 0 :: .int .i64 0 :: .int .i64 0 :: .int .i64 0 :: .int .i64 0 :: .int .i64 0 :: .int .i64 0 :: .string ⟨#[]⟩ :: .string ⟨#[]⟩ :: .slice none 0 0 :: .int .i64 0 :: .int .i64 0 :: .int .i64 0 :: .int .i64 0 :: .int .i64 0 :: .int .i64 0 :: .slice none 0 0 :: .slice none 0 0 :: []).toArray 44 (0, 0))) := CR7.out
  have CF : Hid (Cl (w7.setRow pr cs.toArray) pr cs 44) := by
    have := Cl.row CR7.out cs.toArray
    rwa [List.toList_toArray] at this
  have KF : Hid (Keeps (fun j => j = pr) w7 (w7.setRow pr cs.toArray)) := Keeps.row _ _ _ rfl
  go_wp2_with (first
    | (refine wpList_load_mid (by rfl) _ _ (by rfl) pm 0 (by rfl) cs _ R7.out Tryz.underlying44 (by rfl) HIL.out ?_)
    | (refine wpList_store_row (by rfl) _ _ _ (by rfl) pr cs.toArray (by rfl) (by rfl) 44 _ CQ.out HIA.out HSZ.out HOA.out ?_))
  refine bodyPost_ret (results_cl_tmp rfl _ _ _ _ _ _ rfl CF.out Tryz.underlying44 rfl HIL.out) rfl ?_
  have hpr := HPR.out
  have hpm := HPM.out
  have hle : (l.eraseIdx k).length ≤ 256 := by rw [List.length_eraseIdx_of_lt hk]; omega
  have hn7 : ∀ j, (Value.slice a' (l.eraseIdx k).length cap').ownBlock = some j → j ≠ pb ∧ j < w.heap.size := fun j hj => by rw [HOWN.out] at hj; exact ⟨hnb.out j hj, hol.out j hj⟩
  have S8 : Sl (w7.setRow pr cs.toArray) B 2 (.slice a' (l.eraseIdx k).length cap') (l.eraseIdx k).length (itC (l.eraseIdx k)) := (S6.out.kept K7.out (fun j hj e => (hn7 j hj).1 e)).kept KF.out (fun j hj e => by have := (hn7 j hj).2; omega)
  have Kall : ∀ S : Nat → Prop, S pm → (∀ j, (Value.slice (some ⟨g, off, none⟩) l.length cap).ownBlock = some j → S j) → S pb → S pr → Keeps S w3 (w7.setRow pr cs.toArray) := fun S h1 h2 h3 h4 => by
    have a1 : Keeps S w3 w5 := ⟨K5.out.os, K5.out.tape, K5.out.output, K5.out.size, fun i hi hs => K5.out.block i hi (fun e => hs (e ▸ h1))⟩
    have a2 : Keeps S w5 w6 := ⟨K6.out.os, K6.out.tape, K6.out.output, K6.out.size, fun i hi hs => K6.out.block i hi (fun e => hs (h2 _ e))⟩
    have a3 : Keeps S w6 w7 := ⟨K7.out.os, K7.out.tape, K7.out.output, K7.out.size, fun i hi hs => K7.out.block i hi (fun e => hs (e ▸ h3))⟩
    have a4 : Keeps S w7 (w7.setRow pr cs.toArray) := ⟨KF.out.os, KF.out.tape, KF.out.output, KF.out.size, fun i hi hs => KF.out.block i hi (fun e => hs (e ▸ h4))⟩
    exact ((a1.trans a2).trans a3).trans a4
  have hw1 : w.heap.size < w2.heap.size := by omega
  refine ⟨cs, _, rfl, HD3.out (fun j => ¬ (w2.heap.size ≤ j ∧ j < w3.heap.size)) _ (Kall _ (by omega) (fun j hj e => by have := hol.out j hj; omega) (by omega) (by omega)) (fun j h1 h2 h3 => h3 ⟨h1, h2⟩), ⟨Cl.keep P7.out KF.out hpne.symm, S8, fun j hj => (hn7 j hj).1, hbb, hle⟩, ?_⟩
  have hk := Kall (fun j => j = pm ∨ j = pr ∨ j = pb ∨ (Value.slice (some ⟨g, off, none⟩) l.length cap).ownBlock = some j) (.inl rfl) (fun j hj => .inr (.inr (.inr hj))) (.inr (.inr (.inl rfl))) (.inr (.inl rfl))
  refine ⟨(Keeps.below (fun j => j = pb ∨ (Value.slice (some ⟨g, off, none⟩) l.length cap).ownBlock = some j) (bt B1.out B3.out)).fresh hk (fun j hj e => ?_), fun j hj => .inl (by rw [HOWN.out] at hj; exact hj)⟩
  rcases e with e | e | e | e
  · omega
  · omega
  · exact .inl e
  · exact .inr e
end Go.Proofs.YtbljbdjmgogknaaGreatDoor
