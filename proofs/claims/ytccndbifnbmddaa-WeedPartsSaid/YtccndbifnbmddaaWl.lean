/-
  slices.SortFunc at records by their keys; slices.SortedFunc of a map's values; walked, the sort by the shelf's contract.
  Conditions: the model's bounds.
-/
import Derived.Test.YtccndbifnbmddaaWk
import Derived.Shelf.SlSortCmp.WholeK
import Derived.Shelf.SlSortCmp.NoneTotal
import Derived.Ground.SlsfProg
set_option linter.unusedVariables false
set_option linter.unusedSimpArgs false
namespace Go.Proofs
open Go.Shelf Go.RowKit Go.Lib Go.Sort
def Try.sortRec_ren : Go.Shelf.Ren := ⟨fun | 6 => 44 | 15 => 53 | 14 => 52 | 28 => 64 | 29 => 65 | 20 => 56 | 21 => 57 | 22 => 58 | 23 => 59 | 24 => 60 | 25 => 61 | 26 => 62 | 27 => 63 | 46 => 67 | 47 => 68 | 48 => 69 | 49 => 70 | 50 => 71 | 57 => 72 | n => n, fun | 22 => 30 | 24 => 44 | 25 => 67 | 3 => 3 | 39 => 39 | 0 => 0 | 53 => 107 | 55 => 109 | 4 => 4 | 46 => 101 | 45 => 100 | 50 => 82 | 5 => 5 | 9 => 9 | 66 => 111 | 70 => 115 | 76 => 117 | 77 => 118 | n => n, fun | n => n⟩
theorem Try.sortRec : Go.Proofs.SlLaysF0.n6 Try.prog Try.sortRec_ren := {
  mixed := by kernel_rfl
  f6 := ⟨Try.f44.name, by decide, Try.func44.trans (congrArg some (by kernel_rfl))⟩
  f14 := ⟨Try.f52.name, by decide, Try.func52.trans (congrArg some (by kernel_rfl))⟩
  f15 := Try.func53.trans (congrArg some (by kernel_rfl))
  f20 := ⟨Try.f56.name, by decide, Try.func56.trans (congrArg some (by kernel_rfl))⟩
  f21 := ⟨Try.f57.name, by decide, Try.func57.trans (congrArg some (by kernel_rfl))⟩
  f22 := ⟨Try.f58.name, by decide, Try.func58.trans (congrArg some (by kernel_rfl))⟩
  f23 := ⟨Try.f59.name, by decide, Try.func59.trans (congrArg some (by kernel_rfl))⟩
  f24 := ⟨Try.f60.name, by decide, Try.func60.trans (congrArg some (by kernel_rfl))⟩
  f25 := ⟨Try.f61.name, by decide, Try.func61.trans (congrArg some (by kernel_rfl))⟩
  f26 := ⟨Try.f62.name, by decide, Try.func62.trans (congrArg some (by kernel_rfl))⟩
  f27 := ⟨Try.f63.name, by decide, Try.func63.trans (congrArg some (by kernel_rfl))⟩
  f28 := Try.func64.trans (congrArg some (by kernel_rfl))
  f29 := Try.func65.trans (congrArg some (by kernel_rfl))
  f46 := ⟨Try.f67.name, by decide, Try.func67.trans (congrArg some (by kernel_rfl))⟩
  f47 := Try.func68.trans (congrArg some (by kernel_rfl))
  f48 := Try.func69.trans (congrArg some (by kernel_rfl))
  f49 := ⟨Try.f70.name, by decide, Try.func70.trans (congrArg some (by kernel_rfl))⟩
  f50 := ⟨Try.f71.name, by decide, Try.func71.trans (congrArg some (by kernel_rfl))⟩
  f57 := ⟨Try.f72.name, by decide, Try.func72.trans (congrArg some (by kernel_rfl))⟩
  t0 := Try.underlying0
  a0 := Try.isAgg0
  z0 := Try.sizeOf0
  v0 := Try.zeroValue0
  t3 := Try.underlying3
  a3 := Try.isAgg3
  z3 := Try.sizeOf3
  v3 := Try.zeroValue3
  t4 := Try.underlying4
  a4 := Try.isAgg4
  z4 := Try.sizeOf4
  v4 := Try.zeroValue4
  t5 := Try.underlying5
  a5 := Try.isAgg5
  z5 := Try.sizeOf5
  v5 := Try.zeroValue5
  t9 := Try.underlying9
  a9 := Try.isAgg9
  z9 := Try.sizeOf9
  v9 := Try.zeroValue9
  t22 := Try.underlying30
  a22 := Try.isAgg30
  z22 := Try.sizeOf30
  v22 := Try.zeroValue30
  t25 := Try.underlying67
  a25 := Try.isAgg67
  z25 := Try.sizeOf67
  v25 := Try.zeroValue67
  t39 := Try.underlying39
  a39 := Try.isAgg39
  z39 := Try.sizeOf39
  v39 := Try.zeroValue39
  t45 := Try.underlying100
  a45 := Try.isAgg100
  z45 := Try.sizeOf100
  v45 := Try.zeroValue100
  t46 := Try.underlying101
  a46 := Try.isAgg101
  z46 := Try.sizeOf101
  v46 := Try.zeroValue101
  t50 := Try.underlying82
  a50 := Try.isAgg82
  z50 := Try.sizeOf82
  v50 := Try.zeroValue82
  t53 := Try.underlying107
  a53 := Try.isAgg107
  z53 := Try.sizeOf107
  v53 := Try.zeroValue107
  t55 := Try.underlying109
  a55 := Try.isAgg109
  z55 := Try.sizeOf109
  v55 := Try.zeroValue109
  t66 := Try.underlying111
  a66 := Try.isAgg111
  z66 := Try.sizeOf111
  v66 := Try.zeroValue111
  t70 := Try.underlying115
  a70 := Try.isAgg115
  z70 := Try.sizeOf115
  v70 := Try.zeroValue115
  t76 := Try.underlying117
  a76 := Try.isAgg117
  z76 := Try.sizeOf117
  v76 := Try.zeroValue117
  t77 := Try.underlying118
  a77 := Try.isAgg118
  z77 := Try.sizeOf118
  v77 := Try.zeroValue118 }
end Go.Proofs
namespace Go.Proofs.Ytccndbifnbmddaa
open Go.RowKit Go.Maps Go.Sort Go.Shelf

instance : Inhabited Cr.Rec := ⟨⟨0, [], [], false⟩⟩
theorem cmpK_lt (x y : List UInt8) : decide (cmpK x y < 0) = decide (x < y) := by
  unfold cmpK
  by_cases h : x < y
  · simp [h]
  · by_cases h2 : y < x <;> simp [h, h2]
def cfR (x y : Cr.Rec) : Int := cmpK x.key y.key
theorem ltR (x y : Cr.Rec) : ltOf cfR x y = decide (x.key < y.key) := cmpK_lt _ _
theorem swoR : SWO (ltOf cfR) where
  irrefl x := by rw [ltR]; simp [List.lt_irrefl]
  trans x y z h1 h2 := by rw [ltR] at *; simp only [decide_eq_true_eq] at *; exact List.lt_trans h1 h2
  ntrans x y z h1 h2 := by
    rw [ltR] at *
    simp only [decide_eq_false_iff_not, List.not_lt] at *
    exact List.le_trans h2 h1
set_option maxHeartbeats 1000000 in
theorem cmpF_any (x y : Cr.Rec) (W : World) : Calls Try.prog 34 #[.agg (recC x).toArray, .agg (recC y).toArray] W fun e w' => e = .returned (.int .i64 (cfR x y)) ∧ ∃ q os', w' = grow (W.drewN q) os' := by
  have hcon := Lib.hid (fun W' => compare_any x.key y.key W')
  unfold cfR
  generalize cmpK x.key y.key = r at hcon ⊢
  unfold recC
  go_enter Try.func34, Try.ntmps34
  go_wp2_with (go_at_call 35; refine (hcon.out _).mono ?_; rintro e w' ⟨rfl, rfl⟩)
  go_ret
  exact ⟨rfl, 0, _, by rw [alloc_eq_grow, alloc_eq_grow, grow_grow]; rfl⟩
theorem cmpL (blk off size : Nat) (w : World) : CmpLays Try.prog 34 #[] recC 4 cfR blk off size w := fun _ _ _ _ x y => cmpF_any x y _
theorem aggRec (w : World) : (isAgg 44).run Try.prog w = .ok true w := by kernel_rfl
theorem sizeRec (w : World) : (Go.sizeOf 44).run Try.prog w = .ok 4 w := by kernel_rfl
theorem flat_rec (d : Array Cr.Rec) (t : Nat) (h : t < d.size * 4) : (recCells d.toList)[t]? = some (flatK recC 4 d)[t]! := by
  rw [get_flatK _ _ _ _ h]
  have hx : d.toList[t / 4]? = some d[t / 4]! := by
    have h4 : t / 4 < d.size := by omega
    rw [getElem!_pos d _ h4]
    simp [h4]
  obtain ⟨q0, q1, q2, q3⟩ := recCells_get _ _ _ hx
  generalize d[t / 4]! = x at *
  rcases (show t % 4 = 0 ∨ t % 4 = 1 ∨ t % 4 = 2 ∨ t % 4 = 3 by omega) with e | e | e | e
  · rw [show t / 4 * 4 = t by omega] at q0; rw [q0, e]; rfl
  · rw [show t / 4 * 4 + 1 = t by omega] at q1; rw [q1, e]; rfl
  · rw [show t / 4 * 4 + 2 = t by omega] at q2; rw [q2, e]; rfl
  · rw [show t / 4 * 4 + 3 = t by omega] at q3; rw [q3, e]; rfl
theorem holds_rec {w : World} {B g off cap : Nat} {l : List Cr.Rec} (h : Sl w B 4 (.slice (some ⟨g, off, none⟩) l.length cap) l.length (recCells l)) : HoldsK recC 4 w g off l.toArray := by
  obtain ⟨hlen, h2⟩ := h
  rcases h2 with ⟨h2, _⟩ | ⟨g', off', cap', he, hB, hg, hc, hm, hr, ht⟩
  · cases h2
  · cases he
    intro j hj
    rw [size_flatK] at hj
    have hf := flat_rec l.toArray j hj
    have hj2 : j < l.length * 4 := by simpa using hj
    exact ⟨hr j _ (by simpa using hf), (ht j (by omega)).2⟩
theorem recs_holds {w : World} {g off cap n : Nat} {d : Array Cr.Rec} (h : HoldsK recC 4 w g off d) (hg : g < w.heap.size) (hn : d.size = n) : Recs w (.slice (some ⟨g, off, none⟩) n cap) d.toList := by
  subst hn
  refine ⟨_, cap, by simp, fun i x hx => ⟨g, off, rfl, hg, ?_⟩⟩
  have hi := (List.getElem?_eq_some_iff.1 hx).1
  simp only [Array.length_toList] at hi
  obtain ⟨q0, q1, q2, q3⟩ := recCells_get _ _ _ hx
  have key : ∀ t u, t < d.size * 4 → (recCells d.toList)[t]? = some u → w.cell? ⟨g, off + t, none⟩ = some u := by
    intro t u ht hu
    rw [flat_rec d t ht] at hu
    injection hu with hu
    rw [← hu]
    exact (h t (by rw [size_flatK]; exact ht)).1
  exact ⟨key _ _ (by omega) q0, by rw [Nat.add_assoc]; exact key _ _ (by omega) q1, by rw [Nat.add_assoc]; exact key _ _ (by omega) q2, by rw [Nat.add_assoc]; exact key _ _ (by omega) q3⟩
theorem below_sort (w : World) (B blk off n : Nat) (d : Array Cr.Rec) (os : Array Obj) (hB : B ≤ blk) (hBw : B ≤ w.heap.size) (hb : blk < w.heap.size) : RowKit.Below B w (sortWorldK recC 4 w blk off n d os) := by
  refine ⟨rfl, rfl, rfl, ?_, fun k hk => ?_⟩
  · simp [sortWorldK, grow, putRowK, putRow, mapBlock, ahead]
  · unfold sortWorldK
    rw [heap_grow_old]
    · simp only [putRowK, putRow, mapBlock, ahead, Array.getElem?_modify]
      rw [if_neg (by omega)]
      rfl
    · simp [putRowK, putRow, mapBlock, ahead]
      omega
/-- Rising by their keys. -/
def SortedR (l : List Cr.Rec) : Prop := l.Pairwise (fun a b => ¬ b.key < a.key)
def SortPost (w : World) (B : Nat) (v : Value) (l : List Cr.Rec) (e : Ending) (w' : World) : Prop := e = .returned (.tuple #[]) ∧ ∃ l', l'.Perm l ∧ SortedR l' ∧ Recs w' v l' ∧ RowKit.Below B w w'
theorem sort_rec (l : List Cr.Rec) (hl : l.length ≤ 1000000) (B : Nat) (v : Value) (w : World) (h : Sl w B 4 v l.length (recCells l)) (hB : B ≤ w.heap.size) :
    Calls Try.prog 44 #[v, .func (.func 34) #[] #[]] w (SortPost w B v l) := by
  rcases h.2 with ⟨rfl, h0⟩ | ⟨g, off, cap, rfl, hBg, hg, hc, hm, hr, ht⟩
  · have hz : l = [] := List.eq_nil_of_length_eq_zero h0
    subst hz
    refine Calls.mono (AnyF.slices_SortFunc_none Try.sortRec none 0 _ w) ?_
    rintro e w' ⟨rfl, rfl⟩
    exact ⟨rfl, [], List.Perm.refl _, List.Pairwise.nil, ⟨none, 0, rfl, fun i x hx => by simp at hx⟩, Below.refl _ _⟩
  · have eg : ∀ args w, (callFunc 34 args).run Try.prog w = .ok (.enter 34 args) w := enters_of Try.func34 (by kernel_rfl) rfl
    have hH := holds_rec h
    have hcon := AnyQ.slices_SortFunc Try.sortRec 4 aggRec sizeRec recC (fun _ => rfl) (fun x v hv => by simp only [recC, List.mem_cons, List.not_mem_nil, or_false] at hv; rcases hv with rfl | rfl | rfl | rfl <;> rfl) cfR swoR 34 #[] g off cap l.toArray w eg (cmpL g off l.toArray.size w) hH hg (by simp; omega)
    rw [show l.toArray.size = l.length by simp] at hcon
    refine Calls.mono hcon ?_
    rintro e w' ⟨rfl, d', n, os, hp, hs, rfl⟩
    have hds : d'.size = l.length := by have := hp.1; simpa using this
    refine ⟨rfl, d'.toList, ?_, ?_, ?_, below_sort w B g off n d' os hBg hB hg⟩
    · have := hp.2.2
      rw [show (d'.extract 0 l.length) = d' from by rw [← hds]; simp, show (l.toArray.extract 0 l.length) = l.toArray from by simp] at this
      simpa using this
    · unfold SortedR
      rw [List.pairwise_iff_getElem]
      intro i j hi hj hij
      simp only [Array.length_toList] at hi hj
      have := hs i j (Nat.zero_le _) hij (by omega)
      rw [ltR, decide_eq_false_iff_not, getElem!_pos d' i hi, getElem!_pos d' j hj] at this
      simpa using this
    · have hk := holdsK_sortWorldK recC 4 w g off n l.toArray d' os hg hH (by simp [hds])
      exact recs_holds hk (lt_sortWorldK recC 4 w g off n d' os hg) hds

def SortedPost (w : World) (l : List Cr.Rec) (e : Ending) (w' : World) : Prop := ∃ v f, e = .returned v ∧ f.Perm l ∧ SortedR f ∧ Recs w' v f ∧ RowKit.Below w.heap.size w w'
set_option maxHeartbeats 1000000 in
theorem sorted_rec (Bm m : Nat) (l0 : RM) (hl : l0.length ≤ 1000000) (w : World) (hm : Cl w Bm [.map (some m)] 58) (hM : Mp w m (rmap l0)) :
    Calls Try.prog 32 #[.func (.func 45) #[] #[.pointer (some ⟨Bm, 0, none⟩)], .func (.func 34) #[] #[]] w (SortedPost w (l0.map (·.2))) := by
  have HC := Lib.hid ((callsIn_wide (n := 5)).1 (collect_rec 5 (by omega) 45 #[.pointer (some ⟨Bm, 0, none⟩)] (enters_of Try.func45 (by kernel_rfl) rfl) _ l0.length hl w (values_stops 3 (by omega) Bm m l0 w hm hM).gives))
  clear hm hM
  go_enter Try.func32, Try.ntmps32
  go_wp2_with fail
  refine HC.out.mono ?_
  rintro e w1 ⟨v, ss, rfl, hS, hrow, hb⟩
  have hsl : Sl w1 w.heap.size 4 v ss.length (recCells ss) := Sl.ofOwn hrow
  have HS := Lib.hid (sort_rec ss (by have := hS.length_eq; simp only [List.length_map] at this; omega) w.heap.size v w1 hsl hb.size)
  have HP := Lib.hid hS
  have HB := Lib.hid hb
  clear hS hrow hb hsl HC
  go_wp2_with fail
  refine HS.out.mono ?_
  rintro e w2 ⟨rfl, f, hp, hs, hr, hb2⟩
  have P2 := Lib.hid (hp.trans HP.out)
  have S2 := Lib.hid hs
  have R2 := Lib.hid hr
  have B2 := Lib.hid (HB.out.trans hb2)
  clear hp hs hr hb2
  go_wp2
  go_ret
  exact ⟨v, f, rfl, P2.out, S2.out, R2.out, B2.out⟩
set_option maxHeartbeats 1000000 in
theorem values_rec (m : Nat) (w : World) :
    Calls Try.prog 33 #[.map (some m)] w fun e w' => e = .returned (.func (.func 45) #[] #[.pointer (some ⟨w.heap.size, 0, none⟩)]) ∧ w' = w.alloc (.cells #[.map (some m)] 58) := by
  go_enter Try.func33, Try.ntmps33
  go_wp2
  go_ret
  exact ⟨rfl, rfl⟩

end Go.Proofs.Ytccndbifnbmddaa
