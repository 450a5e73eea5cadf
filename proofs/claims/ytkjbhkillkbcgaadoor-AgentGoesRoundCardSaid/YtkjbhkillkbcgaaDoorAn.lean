/-
  Agent: the calls of the laws.
  Conditions: none.
-/
import Derived.Test.YtkjbhkillkbcgaaDoorAi
set_option linter.unusedVariables false
set_option linter.unusedSimpArgs false
namespace Go.Proofs.YtkjbhkillkbcgaaDoor
open Go.RowKit

theorem recs_none (w : World) : Recs w (.slice none 0 0) [] := ⟨none, 0, rfl, fun i x hx => by simp at hx⟩
def fetchX : CallS := ⟨2, 1, 0, 1, [], .slice none 0 0⟩
def beatX (k : List UInt8) : CallS := ⟨5, 0, 0, 0, k, .slice none 0 0⟩
def commitX (k : List UInt8) (off : Int) : CallS := ⟨6, 1, off, 0, k, .slice none 0 0⟩
theorem call_fetch (g : Nat) (s : AgS) (gl : LM) (w : World) (h : AgI w g s gl) (hb0 : s.busy = false) (ho : s.out = .slice none 0 0) (hn : s.n ≤ 999999) :
    Calls Tryd.prog 7 #[.pointer (some ⟨g, 0, none⟩), callV fetchX] w (CallPost w g s gl fetchX (fun rq => rq = ⟨s.client, s.n + 1, 2, 1, 0, 0, 1, 0, [], [], .slice none 0 0⟩)) := by
  refine call_any g s gl fetchX _ [] w h hb0 ho (recs_none w) (by simp) hn ?_ ?_
  · exact fun W hW => right_fetch fetchX none 0 0 rfl rfl (by simp [fetchX]) ⟨by decide, by decide⟩ ⟨by decide, by decide⟩ ⟨by decide, by decide⟩ W
  · intro W a' l' c' hr hk ha hm _
    refine (request_fetch g _ { fetchX with recs := .slice a' l' c' } a' l' c' rfl W ha rfl h.cl).mono ?_
    rintro e w' ⟨rfl, hb⟩
    exact ⟨_, rfl, rfl, by simp, RecA.none _ _ _, hb⟩
theorem call_beat (g : Nat) (s : AgS) (gl : LM) (k : List UInt8) (hk : Sh.good [k] = true) (hkl : k.length ≤ maxLen) (w : World) (h : AgI w g s gl) (hb0 : s.busy = false) (ho : s.out = .slice none 0 0) (hn : s.n ≤ 999999) :
    Calls Tryd.prog 7 #[.pointer (some ⟨g, 0, none⟩), callV (beatX k)] w (CallPost w g s gl (beatX k) (fun rq => rq = ⟨s.client, s.n + 1, 5, 0, 0, 0, 0, (lookI gl k).getD 0, k, memOf s.client, .slice none 0 0⟩)) := by
  refine call_any g s gl (beatX k) _ [] w h hb0 ho (recs_none w) (by simp) hn ?_ ?_
  · exact fun W hW => right_beat (beatX k) none 0 0 rfl rfl hkl hk W
  · intro W a' l' c' hr hk ha hm _
    refine (request_beat g _ { beatX k with recs := .slice a' l' c' } a' l' c' rfl W ha gl hm rfl h.cl).mono ?_
    rintro e w' ⟨rfl, hb⟩
    exact ⟨_, rfl, rfl, by simp, RecA.none _ _ _, hb⟩
theorem call_commit (g : Nat) (s : AgS) (gl : LM) (k : List UInt8) (off : Int) (hk : Sh.good [k] = true) (hkl : k.length ≤ maxLen) (hof : 0 ≤ off ∧ off ≤ 1099511627776) (w : World) (h : AgI w g s gl) (hb0 : s.busy = false) (ho : s.out = .slice none 0 0) (hn : s.n ≤ 999999) :
    Calls Tryd.prog 7 #[.pointer (some ⟨g, 0, none⟩), callV (commitX k off)] w (CallPost w g s gl (commitX k off) (fun rq => rq = ⟨s.client, s.n + 1, 6, 1, s.s0, off, 0, (lookI gl k).getD 0, k, memOf s.client, .slice none 0 0⟩)) := by
  refine call_any g s gl (commitX k off) _ [] w h hb0 ho (recs_none w) (by simp) hn ?_ ?_
  · exact fun W hW => right_commit (commitX k off) none 0 0 rfl rfl hkl hk ⟨by simp [commitX], by simp [commitX]⟩ hof W
  · intro W a' l' c' hr hk ha hm _
    refine (request_commit g _ { commitX k off with recs := .slice a' l' c' } a' l' c' rfl W ha gl hm rfl h.cl).mono ?_
    rintro e w' ⟨rfl, hb⟩
    exact ⟨_, rfl, rfl, by simp, RecA.none _ _ _, hb⟩

end Go.Proofs.YtkjbhkillkbcgaaDoor
