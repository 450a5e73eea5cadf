/-
  maps.Values of a map of records: what its iterator gives; walked.
  Conditions: none.
-/
import Derived.Test.YtccndbifnbmddaaWi
import Derived.RangeFuncGives
import Derived.RangeFuncStops
import Derived.RangeFuncOwn
import Derived.Shelf.Abstract
import Derived.Sort.MapsRangeIn
import Derived.LoopIn
set_option linter.unusedVariables false
set_option linter.unusedSimpArgs false
namespace Go.Proofs.Ytccndbifnbmddaa
open Go.RowKit Go.Maps Go.Sort Go.Shelf

theorem Rg.walks {w w' : World} {m r : Nat} {l left : MapL} (h : Rg w m r l left) (k : KeepsWalks w w') : Rg w' m r l left := by
  obtain ⟨es, clock, since, seen, c0, a1, a2, a3, a4, a5, a6, a7⟩ := h
  exact ⟨es, clock, since, seen, c0, k.same m _ a1 rfl, a2, a3, a4, a5, k.same r _ a6 rfl, a7⟩
theorem Rg.iterWalk {w : World} {m r : Nat} {l left : MapL} (h : Rg w m r l left) : ∃ o : Obj, w.heap[r]? = some o ∧ o.isWalk = true := by
  obtain ⟨es, clock, since, seen, c0, a1, a2, a3, a4, a5, a6, a7⟩ := h
  exact ⟨_, a6, rfl⟩
theorem Keeps.grownOne {w w' : World} {r : Nat} (h : Keeps (fun j => j = r) w w') : w.grownBy w' (some r) := ⟨h.os, h.tape, h.output, h.size, fun k hk hn => h.block k hk (fun e => hn (by rw [e]))⟩
theorem Below.grownNone {w w' : World} (h : Below w.heap.size w w') : w.grownBy w' none := ⟨h.os, h.tape, h.output, h.size, fun k hk _ => h.block k hk⟩
theorem vals_perm {l0 lm lm' : RM} {ss : List Cr.Rec} {k : List UInt8} {x : Cr.Rec} (h : (ss ++ lm.map (·.2)).Perm (l0.map (·.2))) (hp : lm.Perm ((k, x) :: lm')) : ((ss ++ [x]) ++ lm'.map (·.2)).Perm (l0.map (·.2)) := by
  refine List.Perm.trans ?_ h
  rw [List.append_assoc]
  exact List.Perm.append_left ss (by have := (hp.map (·.2)).symm; simpa using this)

set_option maxRecDepth 100000 in
set_option maxHeartbeats 2000000 in
theorem values_stops (n : Nat) (hn : 1 ≤ n) (Bm m : Nat) (l0 : RM) (w : World) (hm : Cl w Bm [.map (some m)] 58) (hM : Mp w m (rmap l0)) :
    SeqStops Fence.wide n Try.prog 45 #[.pointer (some ⟨Bm, 0, none⟩)] recV (fun xs => xs.Perm (l0.map (·.2))) (fun _ => True) l0.length w := fun l J Jx W hW hJ hJx hY h0 => by
  have hbm : W.cell? ⟨Bm, 0, none⟩ = some (.map (some m)) := (hm.below hW).cell 0
  have hMW := hM.below hW
  have hwW := hW.size
  obtain ⟨w1, hrun, hrg, hb1, hs1⟩ := hMW.range (P := Try.prog) (T := 58) Try.underlying58
  have R1 := Lib.hid hrg
  have J1 : Hid (J [] w1) := hJ _ _ _ none h0 (Below.grownNone hb1) (fun r e => by cases e)
  have HY := Lib.hid hY
  have HJ := Lib.hid hJ
  clear hY hrg hb1 hs1 hm hM hMW h0 hW
  refine callsIn_of_wp Try.func45 rfl trivial ?_ rfl
  simp only [Try.ntmps45, List.size_toArray, List.length_cons, List.length_nil, Nat.reduceAdd, Nat.reduceSub, Array.replicate_succ, Array.replicate_zero, List.push_toArray, List.append_toArray, List.nil_append, List.cons_append]
  gi_wp2
  gi_loopw [7] (fun _ wr => ∃ (lm : RM) (ss : List Cr.Rec), Rg wr m W.heap.size (rmap l0) (rmap lm) ∧ (ss ++ lm.map (·.2)).Perm (l0.map (·.2)) ∧ J ss wr) (fun _ wr => wr.rangeLeft m W.heap.size)
  case atStart => exact ⟨l0, [], R1.out, by simp, J1.out⟩
  case round =>
    obtain ⟨lm, ss, hR, hP, hJs⟩ := hrel
    have RGR := Lib.hid hR
    have PR := Lib.hid hP
    have JR := Lib.hid hJs
    clear hP hJs R1 J1 hrun
    rcases hR.next (P := Try.prog) 0 with ⟨h0, hnx⟩ | ⟨k, v, left', w2, hperm, hnx, hR2, hk2, hs2, hmem, hent⟩
    · have hl0 : lm = [] := by simpa [rmap] using h0
      subst hl0
      clear hR h0
      gi_wp2
      go_end0
      exact ⟨⟨_, rfl⟩, .inl ⟨ss, by have := PR.out; simpa using this, JR.out⟩⟩
    · obtain ⟨lm2, he2, hp2⟩ := rmap_perm (hperm.symm)
      cases lm2 with
      | nil => cases he2
      | cons q lm' =>
      simp only [rmap, List.map_cons, List.cons.injEq, Prod.mk.injEq] at he2
      obtain ⟨⟨rfl, rfl⟩, rfl⟩ := he2
      obtain ⟨k, x⟩ := q
      have hp3 : Hid (lm.Perm ((k, x) :: lm')) := hp2.symm
      have P3 := Lib.hid (vals_perm PR.out hp3.out)
      have HLT : Hid (lm.length = lm'.length + 1) := by have := hp3.out.length_eq; rw [Hid]; simpa using this
      have hssl : ss.length < l0.length := by
        have := PR.out.length_eq
        have h2 := HLT.out
        simp only [List.length_append, List.length_map] at this
        omega
      have hR2' : Rg w2 m W.heap.size (rmap l0) (rmap lm') := hR2
      obtain ⟨xo, xk, xv, xg⟩ := x
      have BA : Below w2.heap.size w2 (w2.alloc (.cells #[.int .i64 xo, .string ⟨xk.toArray⟩, .string ⟨xv.toArray⟩, .bool xg] 44)) := (Below.refl _ _).alloc (Nat.le_refl _) _
      have R3 : Hid (Rg (w2.alloc (.cells #[.int .i64 xo, .string ⟨xk.toArray⟩, .string ⟨xv.toArray⟩, .bool xg] 44)) m W.heap.size (rmap l0) (rmap lm')) := hR2'.kept (Keeps.below (fun _ => False) BA) id id
      have J2 : J ss w2 := HJ.out ss wr w2 (some W.heap.size) JR.out hk2.grownOne (fun r e => by cases e; exact ⟨Nat.le_refl _, RGR.out.iterWalk⟩)
      have J3 : J ss (w2.alloc (.cells #[.int .i64 xo, .string ⟨xk.toArray⟩, .string ⟨xv.toArray⟩, .bool xg] 44)) := HJ.out ss w2 _ none J2 (Below.grownNone BA) (fun r e => by cases e)
      have C3 : Hid (Cl (w2.alloc (.cells #[.int .i64 xo, .string ⟨xk.toArray⟩, .string ⟨xv.toArray⟩, .bool xg] 44)) w2.heap.size [.int .i64 xo, .string ⟨xk.toArray⟩, .string ⟨xv.toArray⟩, .bool xg] 44) := Cl.new w2 _ _
      obtain ⟨fn, tmps, assign, body, hy, hR⟩ := HY.out ss ⟨xo, xk, xv, xg⟩ _ J3 hssl
      unfold recV at hnx hent hy
      dsimp only at hnx hent hy
      clear hR2 hR2' hperm hk2 hs2 hmem hp2 BA J2 J3
      gi_wp2
      refine hR.mono ?_
      rintro e W3 (⟨rfl, hJ3, hk3⟩ | ⟨rfl, hJx3⟩)
      · have R4 := Lib.hid (R3.out.walks hk3)
        have J4 := Lib.hid hJ3
        have HL : Hid (W3.rangeLeft m W.heap.size < wr.rangeLeft m W.heap.size) := by
          rw [Hid, R4.out.left_eq, RGR.out.left_eq]
          simp only [rmap, List.length_map]
          have := HLT.out
          omega
        clear hJ3 hk3 hy
        gi_wp2
        go_roundw
        case rel => exact ⟨lm', _, R4.out, P3.out, J4.out⟩
        case measure => exact HL.out
      · gi_wp2
        refine bodyPost_ret (results_none rfl _ _ _) rfl ?_
        exact ⟨⟨_, rfl⟩, .inr ⟨_, trivial, hJx3⟩⟩

end Go.Proofs.Ytccndbifnbmddaa
