/-
  Agent: the request that a call becomes.
  Conditions: none.
-/
import Derived.Test.YtkjbhkillkbcgaaDoorAb
import Derived.Test.YtkjbhkillkbcgaaDoorWa
set_option linter.unusedVariables false
set_option linter.unusedSimpArgs false
namespace Go.Proofs.YtkjbhkillkbcgaaDoor
open Go.RowKit

theorem zeroInt (w : World) : (zeroValue 3).run Tryd.prog w = .ok (.int .i64 0) w := by kernel_rfl
/-- The letter of a client's number. -/
def dig (c : Int) : UInt8 := UInt8.ofNat (48 + c.toNat)
def memOf (c : Int) : List UInt8 := [109, dig c]
theorem four {c : Int} (h : 1 ≤ c ∧ c ≤ 4) : c = 1 ∨ c = 2 ∨ c = 3 ∨ c = 4 := by omega
theorem small_dig (c : Int) (h : 1 ≤ c ∧ c ≤ 4) (w : World) : Calls Tryd.prog 39 #[.int .i64 c] w fun e w' => e = .returned (.string ⟨#[dig c]⟩) ∧ w = w' := by
  rcases four h with rfl | rfl | rfl | rfl <;>
  · go_enter Tryd.func39, Tryd.ntmps39
    go_wp2
    go_ret
    exact ⟨by first | rfl | (refine congrArg (fun b => Ending.returned (.string b)) ?_; rfl), rfl⟩
theorem format_dig (c : Int) (h : 1 ≤ c ∧ c ≤ 4) (w : World) : Calls Tryd.prog 31 #[.int .i64 c, .int .i64 10] w fun e w' => e = .returned (.string ⟨#[dig c]⟩) ∧ w = w' := by
  obtain ⟨h1, h2⟩ := id h
  go_enter Tryd.func31, Tryd.ntmps31
  go_wp2_with fail
  refine (small_dig c h w).mono ?_
  rintro e w1 ⟨rfl, rfl⟩
  go_wp2
  go_ret
  exact ⟨rfl, rfl⟩
theorem itoaI_dig (c : Int) (h : 1 ≤ c ∧ c ≤ 4) (w : World) : Calls Tryd.prog 29 #[.int .i64 c] w fun e w' => e = .returned (.string ⟨#[dig c]⟩) ∧ w = w' := by
  obtain ⟨h1, h2⟩ := id h
  go_enter Tryd.func29, Tryd.ntmps29
  go_wp2_with fail
  refine (format_dig c h w).mono ?_
  rintro e w1 ⟨rfl, rfl⟩
  go_wp2
  go_ret
  exact ⟨rfl, rfl⟩
theorem itoa_dig (c : Int) (h : 1 ≤ c ∧ c ≤ 4) (w : World) : Calls Tryd.prog 24 #[.int .i64 c] w fun e w' => e = .returned (.string ⟨#[dig c]⟩) ∧ w = w' := by
  obtain ⟨h1, h2⟩ := id h
  go_enter Tryd.func24, Tryd.ntmps24
  go_wp2_with fail
  refine (itoaI_dig c h w).mono ?_
  rintro e w1 ⟨rfl, rfl⟩
  go_wp2
  go_ret
  exact ⟨rfl, rfl⟩
theorem mem_dig (c : Int) : (⟨#[109]⟩ : ByteArray) ++ ⟨#[dig c]⟩ = ⟨(memOf c).toArray⟩ := by
  apply ByteArray.ext
  simp [memOf]

/-- What the walk of request has when it comes to the kind's own part. -/
structure RqW (w0 w : World) (p : Nat) (g : Nat) (s : AgS) (x : CallS) (q : ReqS) : Prop where
  c : Cl w p (callC x) 31
  z : Cl w (p + 1) (reqC ⟨0, 0, 0, 0, 0, 0, 0, 0, [], [], .slice none 0 0⟩) 43
  q : Cl w (p + 2) (reqC q) 43
  a : Ag w g s
  bel : Below w0.heap.size w0 w
abbrev zeroReq : ReqS := ⟨0, 0, 0, 0, 0, 0, 0, 0, [], [], .slice none 0 0⟩
theorem rq_start {g : Nat} {s : AgS} {w : World} (h : Ag w g s) (kind part off max : Int) (group : List UInt8) (a : Option Addr) (l cap : Nat) :
    ∃ w1, (w.alloc (.cells #[.int .i64 kind, .int .i64 part, .int .i64 off, .int .i64 max, .string ⟨group.toArray⟩, .slice a l cap] 31)).alloc (.cells #[.int .i64 0, .int .i64 0, .int .i64 0, .int .i64 0, .int .i64 0, .int .i64 0, .int .i64 0, .int .i64 0, .string ⟨#[]⟩, .string ⟨#[]⟩, .slice none 0 0] 43) = w1 ∧
      Hid (Cl w1 w.heap.size [.int .i64 kind, .int .i64 part, .int .i64 off, .int .i64 max, .string ⟨group.toArray⟩, .slice a l cap] 31) ∧ Hid (Cl w1 (w.heap.size + 1) (reqC zeroReq) 43) ∧ Hid (Ag w1 g s) ∧ Hid (Below w.heap.size w w1) ∧ w1.heap.size = w.heap.size + 2 := by
  refine ⟨_, rfl, (Cl.new w _ _).alloc _, ?_, (Cl.alloc (Cl.alloc h _) _), ((Below.refl _ _).alloc (Nat.le_refl _) _).alloc (by simp) _, by simp⟩
  have h1 := Cl.new (w.alloc (.cells #[.int .i64 kind, .int .i64 part, .int .i64 off, .int .i64 max, .string ⟨group.toArray⟩, .slice a l cap] 31)) (reqC zeroReq) 43
  rw [World.size_alloc] at h1
  exact h1
theorem rq_mid {g p : Nat} {s : AgS} {w w1 : World} {cs : List Value} (C1 : Hid (Cl w1 p cs 31)) (Z1 : Hid (Cl w1 (p + 1) (reqC zeroReq) 43)) (A1 : Hid (Ag w1 g s)) (B1 : Hid (Below w.heap.size w w1)) (hsz : w1.heap.size = p + 2) (kind : Int) :
    ∃ w2, (w1.alloc (.cells #[.int .i64 s.client, .int .i64 s.n, .int .i64 kind, .int .i64 0, .int .i64 0, .int .i64 0, .int .i64 0, .int .i64 0, .string ⟨#[]⟩, .string ⟨#[]⟩, .slice none 0 0] 43)).drew = w2 ∧
      Hid (Cl w2 p cs 31) ∧ Hid (Cl w2 (p + 1) (reqC zeroReq) 43) ∧ Hid (Cl w2 (p + 2) [.int .i64 s.client, .int .i64 s.n, .int .i64 kind, .int .i64 0, .int .i64 0, .int .i64 0, .int .i64 0, .int .i64 0, .string ⟨#[]⟩, .string ⟨#[]⟩, .slice none 0 0] 43) ∧ Hid (Ag w2 g s) ∧ Hid (Below w1.heap.size w1 w2) := by
  refine ⟨_, rfl, (C1.out.alloc _).drewN 1, (Z1.out.alloc _).drewN 1, Cl.drewN ?_ 1, (Cl.alloc A1.out _).drewN 1, below_drewN ((Below.refl _ _).alloc (Nat.le_refl _) _) 1⟩
  have h1 := Cl.new w1 [.int .i64 s.client, .int .i64 s.n, .int .i64 kind, .int .i64 0, .int .i64 0, .int .i64 0, .int .i64 0, .int .i64 0, .string ⟨#[]⟩, .string ⟨#[]⟩, .slice none 0 0] 43
  rw [hsz] at h1
  exact h1

end Go.Proofs.YtkjbhkillkbcgaaDoor
