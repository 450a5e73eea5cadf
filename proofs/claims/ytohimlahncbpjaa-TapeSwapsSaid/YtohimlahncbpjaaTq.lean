/-
  The tape's awake: the document's examples hold. And what an operation leaves of a tape of the call's own.
  Conditions: none.
-/
import Derived.Test.YtohimlahncbpjaaTo
import Derived.Test.YtohimlahncbpjaaTn
set_option linter.unusedVariables false
set_option linter.unusedSimpArgs false
namespace Go.Proofs.Ytohimlahncbpjaa
open Go.RowKit

/-- A tape of the call's own (the call began at w0). -/
structure Tw (w0 w : World) (O : Nat → Prop) (p m : Nat) (t : Tp) : Prop where
  T : TapeW w O p m t
  K : TapeOk t
  lo : ∀ k, O k → w0.heap.size ≤ k
  B : Below w0.heap.size w0 w
theorem Tw.new {w0 w w' : World} {room : Int} (h0 : 0 ≤ room) (h1 : room ≤ 4194304) (hB : Below w0.heap.size w0 w) (h : TapeW w' (fun k => w.heap.size ≤ k ∧ k < w.heap.size + 2) (w.heap.size + 1) w.heap.size (newT room)) (hb : Below w.heap.size w w') :
    Tw w0 w' (fun k => w.heap.size ≤ k ∧ k < w.heap.size + 2) (w.heap.size + 1) w.heap.size (newT room) :=
  ⟨h, ⟨h0, h1, by simp [newT, total]; exact h0, fun f hf => (by cases hf), (show (0 : Int) ≤ 0 by decide), (show (0 : Int) ≤ 1000000000 by decide), (show (0 : Int) ≤ 0 by decide), (show (0 : Int) ≤ 9223372036854775807 by decide), (show (0 : Int) ≤ 0 by decide), (show (0 : Int) ≤ 1000000000 by decide), fun f hf => (by cases hf), (show 0 ≤ 256 by decide)⟩, fun k hk => by have := hB.size; omega, bt hB hb⟩
theorem Tw.step {w0 w w' : World} {O O' : Nat → Prop} {p m : Nat} {t t' : Tp} (h : Tw w0 w O p m t) (hT : TapeW w' O' p m t') (hS : Sp O w O' w') (hK : TapeOk t') : Tw w0 w' O' p m t' := by
  obtain ⟨h1, h2⟩ := hS.toBelow h.B.size h.lo
  exact ⟨hT, hK, h2, h.B.trans h1⟩
theorem Tw.below {w0 w w' : World} {O : Nat → Prop} {p m : Nat} {t : Tp} (h : Tw w0 w O p m t) (hb : Below w.heap.size w w') : Tw w0 w' O p m t := ⟨h.T.below hb, h.K, h.lo, bt h.B hb⟩
/-- A tape of one file. -/
def oneT (n d : List UInt8) (s b : Nat) (room : Int) (dn : Bool) (a m l : Int) : Tp := ⟨[⟨n, d, s, b⟩], room, dn, a, m, l⟩
theorem oneT_ok {n d : List UInt8} {s b : Nat} {room : Int} {dn : Bool} {a m l : Int} (hn : n.length ≤ 32) (hd : (d.length : Int) ≤ room) (hs : s ≤ d.length) (hr : room ≤ 4194304) (ha : 0 ≤ a ∧ a ≤ 1000000000) (hm : 0 ≤ m ∧ m ≤ 9223372036854775807) (hl : 0 ≤ l ∧ l ≤ 1000000000) : TapeOk (oneT n d s b room dn a m l) :=
  ⟨by show (0 : Int) ≤ room; omega, hr, by simp [oneT, total]; exact hd, fun f hf => by simp [oneT] at hf; subst hf; exact hs, ha.1, ha.2, hm.1, hm.2, hl.1, hl.2, fun f hf => by simp [oneT] at hf; subst hf; exact hn, by simp [oneT]⟩
theorem perm_one {ns : List (List UInt8)} {n : List UInt8} (h : ns.Perm [n]) : ns = [n] := List.perm_singleton.1 h
set_option maxRecDepth 20000 in
set_option maxHeartbeats 3200000 in
theorem awake_any (w : World) : Calls Try.prog 8 #[] w fun e w' => e = .returned (.bool true) ∧ Below w.heap.size w w' := by
  go_enter Try.func8, Try.ntmps8
  go_wp2_with fail
  refine (newTape_any 100 (by omega) (by omega) _).mono ?_
  rintro e w1 ⟨rfl, h1, hb1⟩
  have T1 := Lib.hid (Tw.new (w0 := w) (by omega) (by omega) (Below.refl _ _) h1 hb1)
  clear h1 hb1
  generalize (fun k => w.heap.size ≤ k ∧ k < w.heap.size + 2) = O1 at T1
  generalize hp : w.heap.size + 1 = p at T1 ⊢
  generalize hm : w.heap.size = m at T1
  have HM := Lib.hid hm
  clear hm hp
  go_wp2_with fail
  refine (append_new O1 p m (newT 100) [102] [97, 98, 99] _ T1.out.T T1.out.K rfl (by decide) (by decide) rfl (by decide) (by decide) (by decide)).mono ?_
  rintro e w2 ⟨b, rfl, O2, h2, s2⟩
  have T2 : Hid (Tw w w2 O2 p m (oneT [102] [97, 98, 99] 0 b 100 false 1 0 0)) := T1.out.step h2 s2 (oneT_ok (by decide) (by decide) (by decide) (by decide) (by decide) (by decide) (by decide))
  clear h2 s2 T1
  rw [show actV (newT 100) = 0 from rfl]
  go_wp2_with fail
  refine (sync_any O2 p m _ [102] ⟨[102], [97, 98, 99], 0, b⟩ _ T2.out.T T2.out.K rfl (show (1 : Int) < 1000000000 by decide) (show (0 : Int) < 1000000000 by decide) rfl).mono ?_
  rintro e w3 ⟨rfl, h3, k3⟩
  have T3 : Hid (Tw w w3 O2 p m (oneT [102] [97, 98, 99] 3 b 100 false 2 0 0)) := T2.out.step h3 (Sp.of k3) (oneT_ok (by decide) (by decide) (by decide) (by decide) (by decide) (by decide) (by decide))
  clear h3 k3 T2
  rw [show actV (oneT [102] [97, 98, 99] 0 b 100 false 1 0 0) = 0 from rfl]
  go_wp2_with fail
  refine (append_old O2 p m _ [102] [100, 101] ⟨[102], [97, 98, 99], 3, b⟩ _ T3.out.T T3.out.K rfl (show (2 : Int) < 1000000000 by decide) (show (0 : Int) < 1000000000 by decide) rfl (by decide) (show (2 : Int) ≤ 100 - 3 by decide)).mono ?_
  rintro e w4 ⟨rfl, O4, h4, s4⟩
  have T4 : Hid (Tw w w4 O4 p m (oneT [102] [97, 98, 99, 100, 101] 3 b 100 false 3 0 0)) := T3.out.step h4 s4 (oneT_ok (by decide) (by decide) (by decide) (by decide) (by decide) (by decide) (by decide))
  clear h4 s4 T3
  rw [show actV (oneT [102] [97, 98, 99] 3 b 100 false 2 0 0) = 0 from rfl]
  go_wp2_with fail
  refine (off_any O4 p m _ _ T4.out.T T4.out.K).mono ?_
  rintro e w5 ⟨rfl, h5, k5⟩
  have T5 : Hid (Tw w w5 O4 p m (oneT [102] [97, 98, 99, 100, 101] 3 b 100 true 3 0 1)) := T4.out.step h5 (Sp.of k5) (oneT_ok (by decide) (by decide) (by decide) (by decide) (by decide) (by decide) (by decide))
  clear h5 k5 T4
  go_wp2_with fail
  refine (read_any O4 p m _ [102] _ T5.out.T).mono ?_
  rintro e w6 ⟨rfl, rfl⟩
  rw [show readV (oneT [102] [97, 98, 99, 100, 101] 3 b 100 true 3 0 1) [102] = .tuple #[.string ⟨#[]⟩, .int .i64 10] from rfl]
  have T6 : Hid (Tw w (w5.alloc (.cells #[.int .i64 1] 3)) O4 p m (oneT [102] [97, 98, 99, 100, 101] 3 b 100 true 3 0 1)) := T5.out.below ((Below.refl _ _).alloc (Nat.le_refl _) _)
  have I6 : Hid (Ints (w5.alloc (.cells #[.int .i64 1] 3)) (.slice (some ⟨w5.heap.size, 0, none⟩) 1 1) [1]) := ⟨_, 1, rfl, fun i hi => ⟨w5.heap.size, 0, rfl, by simp, by
    have : i = 0 := by simp at hi; omega
    subst this
    exact (Cl.new w5 [.int .i64 1] 3).cell 0⟩⟩
  have N6 : Hid (∀ g, (Value.slice (some ⟨w5.heap.size, 0, none⟩) 1 1).ownBlock = some g → ¬ O4 g) := fun g hg ho => by
    simp [Value.ownBlock] at hg
    have := T5.out.T.lt g ho
    omega
  go_wp2_with fail
  refine (on_any names_any O4 p m _ [1] _ _ T6.out.T T6.out.K rfl I6.out (fun _ => N6.out) (by decide)).mono ?_
  rintro e w7 ⟨rfl, ns, hns, h7, k7⟩
  obtain rfl := perm_one hns
  have T7 : Hid (Tw w w7 O4 p m (oneT [102] [97, 98, 99, 100] 4 b 100 false 3 0 1)) := T6.out.step h7 (Sp.of k7) (oneT_ok (by decide) (by decide) (by decide) (by decide) (by decide) (by decide) (by decide))
  clear h7 k7 T6 T5 I6 N6 hns
  go_wp2_with fail
  refine (read_any O4 p m _ [102] _ T7.out.T).mono ?_
  rintro e w8 ⟨rfl, rfl⟩
  rw [show readV (oneT [102] [97, 98, 99, 100] 4 b 100 false 3 0 1) [102] = .tuple #[.string ⟨#[97, 98, 99, 100]⟩, .int .i64 0] from rfl]
  go_wp2_with fail
  refine (acts_any O4 p m _ _ T7.out.T).mono ?_
  rintro e w8 ⟨rfl, rfl⟩
  rw [show (oneT [102] [97, 98, 99, 100] 4 b 100 false 3 0 1).acts = 3 from rfl]
  go_wp2_with fail
  refine (life_any O4 p m _ _ T7.out.T).mono ?_
  rintro e w8 ⟨rfl, rfl⟩
  rw [show (oneT [102] [97, 98, 99, 100] 4 b 100 false 3 0 1).life = 1 from rfl]
  go_wp2_with fail
  refine (left_any O4 p m _ _ T7.out.T T7.out.K).mono ?_
  rintro e w9 ⟨rfl, hb9⟩
  rw [show (oneT [102] [97, 98, 99, 100] 4 b 100 false 3 0 1).room - ((total (oneT [102] [97, 98, 99, 100] 4 b 100 false 3 0 1).files : Nat) : Int) = 96 from rfl]
  have T9 := Lib.hid (T7.out.below hb9)
  clear hb9 T7
  go_wp2_with fail
  refine (names_any O4 p m _ _ T9.out.T T9.out.K).mono ?_
  rintro e w10 ⟨v, ns, rfl, hns, hrow, hb10⟩
  obtain rfl := perm_one hns
  obtain ⟨cap, hv⟩ : ∃ a cap, v = .slice a 1 cap := by
    obtain ⟨a, cap, hv, _⟩ := (Sl.ofOwn hrow).form
    exact ⟨a, cap, hv⟩
  obtain ⟨cap2, rfl⟩ := hv
  have T10 := Lib.hid (T9.out.below hb10)
  clear hrow hb10 hns T9
  go_wp2
  go_ret
  exact ⟨rfl, T10.out.B⟩

end Go.Proofs.Ytohimlahncbpjaa
