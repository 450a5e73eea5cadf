/-
  Wm5: texts of one proof, one behind the other.
  Conditions: none of its own.
-/
import Derived.Test.YtjfpbeccpcbpcaaGreatDoorZav
import Derived.RangeFuncNested
import Derived.RangeFuncBound
import Derived.RangeFuncCalls
import Derived.RangeFuncLeaves
import Derived.Shelf.Abstract
import Derived.Shelf.RegionOpen
import Derived.OwnWalkIn
import Derived.TacticsInMore
import Derived.LoopNIn
import Derived.LoopIn
import Derived.BigRegionIn
set_option linter.unusedVariables false
set_option linter.unusedSimpArgs false
set_option maxHeartbeats 4000000
namespace Go.Proofs.YtjfpbeccpcbpcaaGreatDoor
open Go.RowKit Go.Shelf
attribute [local go_sem] Oper.semAt_some
theorem chunk_any (a : Option Addr) (n c : Nat) (w : World) : Calls Tryz.prog 140 #[.slice a n c, .int .i64 2] w fun e w' =>
  e = .returned (.func (.func 150) #[] #[.pointer (some ⟨w.heap.size, 0, none⟩), .pointer (some ⟨w.heap.size + 1, 0, none⟩)]) ∧ w' = (w.alloc (.cells #[.slice a n c] 22)).alloc (.cells #[.int .i64 2] 3) := by
 have hs := World.size_alloc w (.cells #[.slice a n c] 22)
 go_enter Tryz.func140, Tryz.ntmps140
 go_wp2
 go_ret
 exact ⟨rfl, rfl⟩
def KpC (bs bn : Nat) (A B : World) : Prop := B.heap[bs]? = A.heap[bs]? ∧ B.heap[bn]? = A.heap[bn]?
theorem KpC.trans {bs bn : Nat} {A B C : World} (h : KpC bs bn A B) (k : KpC bs bn B C) : KpC bs bn A C := ⟨k.1.trans h.1, k.2.trans h.2⟩
theorem KpC.book {bs bn : Nat} {w : World} (h1 : bs < w.heap.size) (h2 : bn < w.heap.size) (W : World) (l : Nat) (o o' : Obj) (hl : w.heap.size ≤ l) (h : W.heap[l]? = some o) (_ : o.isCells = false) (_ : o.isWalk = false) : KpC bs bn W (W.putObj l o') := by
 have hg := grownBy_putObj' W l o'
 have hlt := (Array.getElem?_eq_some_iff.1 h).1
 exact ⟨hg.block bs (by omega) (by intro e; injection e with e; omega), hg.block bn (by omega) (by intro e; injection e with e; omega)⟩
def chunkV (g : Nat) {m : Nat} (k : Fin m) : Array Value := #[.slice (some ⟨g, 2 * k.1, none⟩) 2 2]
theorem grown_of_below2 {w w' : World} (h : Below w.heap.size w w') : w.grownBy w' none := ⟨h.os, h.tape, h.output, h.size, fun k hk _ => h.block k hk⟩
set_option maxRecDepth 100000 in
theorem chunk_stops (n : Nat) (hn : 1 ≤ n) (bs bn g m cap : Nat) (a : Option Addr) (w : World) (hbs : bs < w.heap.size) (hbn : bn < w.heap.size) (hs : w.cell? ⟨bs, 0, none⟩ = some (.slice a (2 * m) cap)) (hb : w.cell? ⟨bn, 0, none⟩ = some (.int .i64 2))
  (hc : 2 * m ≤ cap) (hm : m < 4294967296) (ha : a = some ⟨g, 0, none⟩ ∨ m = 0) :
  SeqStopsK Fence.wide n Tryz.prog 150 #[.pointer (some ⟨bs, 0, none⟩), .pointer (some ⟨bn, 0, none⟩)] (chunkV g) (KpC bs bn) (fun xs : List (Fin m) => xs.map (·.1) = List.range m) (fun _ => True) m w := fun l J Jx W hW hJ hJx hY h0 => by
 have hs0 := (hW.cell (p := ⟨bs, 0, none⟩) hbs).trans hs
 have hb0 := (hW.cell (p := ⟨bn, 0, none⟩) hbn).trans hb
 have hbs' : bs < W.heap.size := Nat.lt_of_lt_of_le hbs hW.size
 have hbn' : bn < W.heap.size := Nat.lt_of_lt_of_le hbn hW.size
 have HY := hq' hY
 have HJ := hq' hJ
 have HA := hq' ha
 have H0 := hq' h0
 have S0 := hq' hs0
 have B0 := hq' hb0
 clear hY hJ ha hs hb hW hbs hbn h0 hs0 hb0
 refine callsIn_of_wp Tryz.func150 rfl trivial ?_ rfl
 simp only [Tryz.ntmps150, List.size_toArray, List.length_cons, List.length_nil, Nat.reduceAdd, Nat.reduceSub, Array.replicate_succ, Array.replicate_zero, List.push_toArray, List.append_toArray, List.nil_append, List.cons_append]
 gi_wp2
 gi_loopw [4] (fun i wr => ∃ k : Nat, i = .int .i64 ((2 * k : Nat) : Int) ∧ k ≤ m ∧ (∃ pre : List (Fin m), pre.map (·.1) = List.range k ∧ J pre wr) ∧ wr.cell? ⟨bs, 0, none⟩ = some (.slice a (2 * m) cap) ∧ wr.cell? ⟨bn, 0, none⟩ = some (.int .i64 2) ∧ bs < wr.heap.size ∧ bn < wr.heap.size) (fun i _ => 2 * m - (intOf i).toNat)
 case atStart => exact ⟨0, rfl, by omega, ⟨[], rfl, H0.out⟩, S0.out, B0.out, hbs', hbn'⟩
 case round =>
  obtain ⟨k, rfl, hk, ⟨pre, hpre, hjp⟩, hsw, hbw, hls, hlb⟩ := hrel
  have HJP := hq' hjp
  clear hjp H0 S0 B0 hbs' hbn'
  by_cases hlt : k < m
  ·obtain ⟨rfl⟩ : a = some ⟨g, 0, none⟩ := HA.out.resolve_right (by omega)
   have hlti : ((2 * k : Nat) : Int) < ((2 * m : Nat) : Int) := by omega
   have hmin : (min 2 ((2 * m - 2 * k : Nat) : Int)) = 2 := by omega
   have h22 : (2 * (k : Int) + 2).toNat - 2 * k = 2 := by omega
   have hjd : J pre wr.drew := HJ.out _ _ _ none HJP.out (grown_of_below2 (Below.refl _ _).drew) (fun r e => by cases e)
   obtain ⟨fn, tmps, assign, body, hy, hR⟩ := HY.out pre ⟨k, hlt⟩ wr.drew hjd (by have := congrArg List.length hpre; simp at this; omega)
   have hnext : Hid ((pre ++ [(⟨k, hlt⟩ : Fin m)]).map (·.1) = List.range (k + 1)) := by rw [Hid, List.map_append, hpre, List.range_succ]; rfl
   have hsd : wr.drew.cell? ⟨bs, 0, none⟩ = some (.slice (some ⟨g, 0, none⟩) (2 * m) cap) := hsw
   have hbd : wr.drew.cell? ⟨bn, 0, none⟩ = some (.int .i64 2) := hbw
   have HR := hq' hR
   unfold chunkV at hy
   clear hR
   gi_wp2
   gi_region
   gi_wp2
   refine HR.out.mono ?_
   rintro e W3 (⟨rfl, hJ3, hk3⟩ | ⟨rfl, hJx3⟩)
   ·have HJ3 := hq' hJ3
    have s3 : W3.cell? ⟨bs, 0, none⟩ = some (.slice (some ⟨g, 0, none⟩) (2 * m) cap) := (World.cell?_of_block hk3.1).trans hsd
    have b3 : W3.cell? ⟨bn, 0, none⟩ = some (.int .i64 2) := (World.cell?_of_block hk3.2).trans hbd
    have ls3 : bs < W3.heap.size := (Array.getElem?_eq_some_iff.1 (hk3.1.trans (Array.getElem?_eq_getElem hls))).1
    have lb3 : bn < W3.heap.size := (Array.getElem?_eq_some_iff.1 (hk3.2.trans (Array.getElem?_eq_getElem hlb))).1
    clear hJ3 hk3 hjd hsd hbd hsw hbw HJP
    gi_wp2
    go_roundw
    case rel => exact ⟨k + 1, by congr 1 <;> omega, by omega, ⟨_, hnext.out, HJ3.out⟩, s3, b3, ls3, lb3⟩
    case measure => simp [intOf]; omega
   ·have HJ3 := hq' hJx3
    clear hJx3
    gi_wp2
    refine bodyPost_ret (results_none rfl _ _ _) rfl ?_
    exact ⟨⟨_, rfl⟩, .inr ⟨_, trivial, HJ3.out⟩⟩
  ·obtain rfl : k = m := by omega
   gi_wp2
   go_end0
   exact ⟨⟨_, rfl⟩, .inl ⟨pre, hpre, HJP.out⟩⟩
end Go.Proofs.YtjfpbeccpcbpcaaGreatDoor
