/-
  Ga: texts of one proof, one behind the other.
  Conditions: none of its own.
-/
import Derived.Test.YtbljbdjmgogknaaGreatDoorZaf
import Derived.Test.YtbljbdjmgogknaaGreatDoorZag
import Derived.Deep.RegionLaw
/-
  Bag: a bag in memory; New, Len, has, Put (printed by wip/gen/mkbag.py).
  Conditions: what a message is encoded to is known.
-/
set_option linter.unusedVariables false
set_option linter.unusedSimpArgs false
namespace Go.Proofs.YtbljbdjmgogknaaGreatDoor
open Go.RowKit

/-- What is under way: bytes, to whom. -/
abbrev Item := List UInt8 × Int
def itC (l : List Item) : List Value := l.flatMap fun x => [.string ⟨x.1.toArray⟩, .int .i64 x.2]
theorem itC_len (l : List Item) : (itC l).length = l.length * 2 := by
  induction l with
  | nil => rfl
  | cons x l ih => simp only [itC, List.flatMap_cons, List.length_append, List.length_cons, List.length_nil] at ih ⊢; omega
theorem itC_append (a b : List Item) : itC (a ++ b) = itC a ++ itC b := by simp [itC]
theorem itC_one (l : List Item) : ∀ u ∈ itC l, u.oneCell' = true := by
  intro u hu
  obtain ⟨x, _, hx⟩ := List.mem_flatMap.1 hu
  simp only [List.mem_cons, List.not_mem_nil, or_false] at hx
  rcases hx with rfl | rfl <;> rfl
theorem itC_at {l : List Item} {k : Nat} {x : Item} (h : l[k]? = some x) : (itC l)[k * 2]? = some (.string ⟨x.1.toArray⟩) ∧ (itC l)[k * 2 + 1]? = some (.int .i64 x.2) := by
  induction l generalizing k with
  | nil => simp at h
  | cons y l ih =>
    cases k with
    | zero =>
      simp only [List.getElem?_cons_zero, Option.some.injEq] at h
      subst h
      exact ⟨rfl, rfl⟩
    | succ k =>
      have := ih (k := k) (by simpa using h)
      rw [show (k + 1) * 2 = k * 2 + 2 by omega]
      exact this
/-- A bag lies in a block of its own; its list elsewhere. -/
structure BagW (w : World) (B pb : Nat) (lv : Value) (l : List Item) : Prop where
  c : Cl w pb [lv] 65
  s : Sl w B 2 lv l.length (itC l)
  n : ∀ j, lv.ownBlock = some j → j ≠ pb
  b : B ≤ pb
  m : l.length ≤ 256
theorem BagW.below {w w' : World} {B pb : Nat} {lv : Value} {l : List Item} (h : BagW w B pb lv l) (hb : Below w.heap.size w w') : BagW w' B pb lv l :=
  ⟨Cl.below h.c hb, h.s.kept (Keeps.below (fun _ => False) hb) (fun _ _ => id), h.n, h.b, h.m⟩
theorem BagW.keep {S : Nat → Prop} {w w' : World} {B pb : Nat} {lv : Value} {l : List Item} (h : BagW w B pb lv l) (k : Keeps S w w') (hp : ¬ S pb) (hl : ∀ j, lv.ownBlock = some j → ¬ S j) : BagW w' B pb lv l :=
  ⟨Cl.keep h.c k hp, h.s.kept k hl, h.n, h.b, h.m⟩
/-- What a call on a bag may turn. -/
structure BagK (pb : Nat) (lv lv' : Value) (w w' : World) : Prop where
  k : Keeps (fun j => j = pb ∨ lv.ownBlock = some j) w w'
  n : ∀ j, lv'.ownBlock = some j → lv.ownBlock = some j ∨ w.heap.size ≤ j
theorem BagK.below {B pb : Nat} {lv lv' : Value} {l : List Item} {w w' : World} (k : BagK pb lv lv' w w') (h : BagW w B pb lv l) (hB : B ≤ w.heap.size) : Below B w w' :=
  k.k.toBelow hB (fun j hj e => by
    rcases e with e | e
    · have := h.b; omega
    · have := (h.s.lt j e).1; omega)
theorem BagK.of {pb : Nat} {lv : Value} {w w' : World} (b : Below w.heap.size w w') : BagK pb lv lv w w' := ⟨Keeps.below _ b, fun j h => .inl h⟩
theorem BagK.trans {pb : Nat} {lv lv1 lv2 : Value} {w w1 w2 : World} (a : BagK pb lv lv1 w w1) (b : BagK pb lv1 lv2 w1 w2) : BagK pb lv lv2 w w2 :=
  ⟨a.k.fresh b.k (fun k hk e => by
    rcases e with e | e
    · exact .inl e
    · rcases a.n k e with e2 | e2
      · exact .inr e2
      · omega), fun j hj => by
    rcases b.n j hj with e | e
    · exact a.n j e
    · exact .inr (Nat.le_trans a.k.size e)⟩
theorem bagNew_any (w : World) : Calls Tryz.prog 8 #[] w fun e w' => e = .returned (.pointer (some ⟨w.heap.size, 0, none⟩)) ∧ BagW w' w.heap.size w.heap.size (.slice none 0 0) [] ∧ Below w.heap.size w w' := by
  have C : Hid (Cl (w.alloc (.cells #[.slice none 0 0] 65)) w.heap.size [.slice none 0 0] 65) := Cl.new w _ _
  have B : Hid (Below w.heap.size w (w.alloc (.cells #[.slice none 0 0] 65))) := (Below.refl _ _).alloc (Nat.le_refl _) _
  go_enter Tryz.func8, Tryz.ntmps8
  go_wp2
  go_ret
  exact ⟨rfl, ⟨C.out, Sl.nil _ _ _, fun j hj => by simp [Value.ownBlock] at hj, Nat.le_refl _, by simp⟩, B.out⟩
theorem bagLen_any (B pb : Nat) (lv : Value) (l : List Item) (w : World) (h : BagW w B pb lv l) :
    Calls Tryz.prog 19 #[.pointer (some ⟨pb, 0, none⟩)] w fun e w' => e = .returned (.int .i64 l.length) ∧ w' = w := by
  have c0 := h.c.cell 0
  obtain ⟨a, cap, rfl, _⟩ := h.s.form
  simp only [List.getElem?_cons_zero] at c0
  have hm := h.m
  clear h
  go_enter Tryz.func19, Tryz.ntmps19
  go_wp2
  go_ret
  exact ⟨rfl, rfl⟩
theorem bagHas_any (B pb : Nat) (lv : Value) (l : List Item) (n : Int) (w : World) (h : BagW w B pb lv l) :
    Calls Tryz.prog 25 #[.pointer (some ⟨pb, 0, none⟩), .int .i64 n] w fun e w' => e = .returned (.bool (decide (0 ≤ n ∧ n < l.length))) ∧ w' = w := by
  have HL := Lib.hid (bagLen_any B pb lv l w h)
  clear h
  by_cases h0 : 0 ≤ n
  · by_cases h1 : n < l.length
    · go_enter Tryz.func25, Tryz.ntmps25
      go_wp2_with fail
      refine HL.out.mono ?_
      rintro e w1 ⟨rfl, rfl⟩
      go_wp2
      go_ret
      exact ⟨by simp [h0, h1] <;> omega, rfl⟩
    · go_enter Tryz.func25, Tryz.ntmps25
      go_wp2_with fail
      refine HL.out.mono ?_
      rintro e w1 ⟨rfl, rfl⟩
      go_wp2
      go_ret
      exact ⟨by simp [h0, h1] <;> omega, rfl⟩
  · go_enter Tryz.func25, Tryz.ntmps25
    go_wp2
    go_ret
    exact ⟨by simp [h0] <;> omega, rfl⟩
theorem bag_put_post {B pb : Nat} {lv : Value} {l : List Item} {x : Item} {w2 w4 : World} {v' : Value} (H : BagW w2 B pb lv l) (hlt : l.length < 256)
    (h1 : Sl w4 B 2 v' (l.length + 1) (itC l ++ [.string ⟨x.1.toArray⟩, .int .i64 x.2])) (h2 : (w2.alloc (.cells #[.string ⟨x.1.toArray⟩, .int .i64 x.2] 74)).drew.grownBy w4 lv.ownBlock)
    (h3 : v'.ownBlock = lv.ownBlock ∨ ∀ k, v'.ownBlock = some k → (w2.alloc (.cells #[.string ⟨x.1.toArray⟩, .int .i64 x.2] 74)).drew.heap.size ≤ k) :
    (BagW (w4.setCell ⟨pb, 0, none⟩ v') B pb v' (l ++ [x]) ∧ BagK pb lv v' w2 (w4.setCell ⟨pb, 0, none⟩ v')) ∧ w4.cell? ⟨pb, 0, none⟩ = some lv ∧ w4.frozen? ⟨pb, 0, none⟩ = false := by
  have C0 : Cl (w2.alloc (.cells #[.string ⟨x.1.toArray⟩, .int .i64 x.2] 74)).drew pb [lv] 65 := Cl.drewN (H.c.alloc _) 1
  have C4 : Cl w4 pb [lv] 65 := C0.grown h2 (fun e => H.n pb e.symm rfl)
  have hsz : (w2.alloc (.cells #[.string ⟨x.1.toArray⟩, .int .i64 x.2] 74)).drew.heap.size = w2.heap.size + 1 := World.size_alloc _ _
  have HN : ∀ j, v'.ownBlock = some j → j ≠ pb := fun j hj => by
    have hlt := H.c.lt
    rcases h3 with e | e
    · exact H.n j (e ▸ hj)
    · have := e j hj
      omega
  have k : Keeps (fun j => j = pb) w4 (w4.setCell ⟨pb, 0, none⟩ v') := Keeps.setCell _ _ _ _ rfl
  have KK : BagK pb lv v' w2 (w4.setCell ⟨pb, 0, none⟩ v') := by
    refine ⟨(((Keeps.alloc _ _ _).trans (Keeps.drew _ _)).trans (Keeps.grown h2 (fun j hj => .inr hj))).trans (k.mono (fun j _ e => .inl e)), fun j hj => ?_⟩
    rcases h3 with e | e
    · exact .inl (e ▸ hj)
    · exact .inr (by have := e j hj; omega)
  refine ⟨⟨⟨Cl.set C4 0 v', ?_, HN, H.b, by simp; omega⟩, KK⟩, C4.cell 0, C4.free 0⟩
  have := h1.kept k (fun j hj e => HN j hj e)
  rw [itC_append, List.length_append]
  exact this
theorem infoItem : (Tryz.prog.info? 74).map (fun i => (i.zero, i.size, i.bytes)) = some (some (.agg #[.string ⟨#[]⟩, .int .i64 0]), 2, 24) := by kernel_rfl
def PutPost (B pb : Nat) (lv : Value) (l : List Item) (x : Item) (w : World) (e : Ending) (w' : World) : Prop :=
  e = .returned (.int .i64 (if l.length < 256 then 0 else 11)) ∧ ∃ lv', BagW w' B pb lv' (if l.length < 256 then l ++ [x] else l) ∧ BagK pb lv lv' w w'
set_option maxRecDepth 20000 in
set_option maxHeartbeats 3200000 in
theorem bagPut_beat (B pb : Nat) (lv : Value) (l : List Item) (f t n : Int) (data : List UInt8) (w : World) (h : BagW w B pb lv l) (hB : B ≤ w.heap.size)
    (HE : ∀ W, Below w.heap.size w W → Calls Tryz.prog 23 #[msgV (beatM f t n) zeroV] W fun e w' => e = .returned (.tuple #[.string ⟨data.toArray⟩, .int .i64 0]) ∧ Below W.heap.size W w') :
    Calls Tryz.prog 10 #[.pointer (some ⟨pb, 0, none⟩), msgV (beatM f t n) zeroV] w (PutPost B pb lv l (data, t) w) := by
  have H0 := Lib.hid h
  have HEE := Lib.hid HE
  obtain ⟨a, cap, hlv, _⟩ := h.s.form
  subst hlv
  have hm := h.m
  clear h HE
  have HRV : Hid (msgV (beatM f t n) zeroV = .agg (.int .i64 3 :: .int .i64 f :: .int .i64 t :: .int .i64 0 :: .int .i64 0 :: .int .i64 0 :: .int .i64 0 :: .int .i64 n :: .int .i64 0 :: .slice none 0 0 :: .int .i64 0 :: .slice none 0 0 :: .int .i64 0 :: .int .i64 0 :: .int .i64 0 :: .int .i64 0 :: .int .i64 0 :: .slice none 0 0 :: .slice none 0 0 :: .int .i64 0 :: .int .i64 0 :: .int .i64 0 :: .int .i64 0 :: .int .i64 0 :: .int .i64 0 :: .int .i64 0 :: .int .i64 0 :: .string ⟨#[]⟩ :: .string ⟨#[]⟩ :: .slice none 0 0 :: .int .i64 0 :: .int .i64 0 :: .int .i64 0 :: .int .i64 0 :: .int .i64 0 :: .int .i64 0 :: .slice none 0 0 :: .slice none 0 0 :: []).toArray) := rfl
  rw [HRV.out] at HEE ⊢
  have HI38 := Lib.hid (show (Tryz.prog.info? 44).map (·.size) = some ((.int .i64 3 :: .int .i64 f :: .int .i64 t :: .int .i64 0 :: .int .i64 0 :: .int .i64 0 :: .int .i64 0 :: .int .i64 n :: .int .i64 0 :: .slice none 0 0 :: .int .i64 0 :: .slice none 0 0 :: .int .i64 0 :: .int .i64 0 :: .int .i64 0 :: .int .i64 0 :: .int .i64 0 :: .slice none 0 0 :: .slice none 0 0 :: .int .i64 0 :: .int .i64 0 :: .int .i64 0 :: .int .i64 0 :: .int .i64 0 :: .int .i64 0 :: .int .i64 0 :: .int .i64 0 :: .string ⟨#[]⟩ :: .string ⟨#[]⟩ :: .slice none 0 0 :: .int .i64 0 :: .int .i64 0 :: .int .i64 0 :: .int .i64 0 :: .int .i64 0 :: .int .i64 0 :: .slice none 0 0 :: .slice none 0 0 :: []) : List Value).length by kernel_rfl)
  have HU := Lib.hid Tryz.underlying44
  obtain ⟨i0, hi, hz0, hz1, hz2⟩ := info_parts infoItem
  go_enter Tryz.func10, Tryz.ntmps10
  obtain ⟨w1, hw1, CA, B1⟩ := oneBox (w := w) (.int .i64 3 :: .int .i64 f :: .int .i64 t :: .int .i64 0 :: .int .i64 0 :: .int .i64 0 :: .int .i64 0 :: .int .i64 n :: .int .i64 0 :: .slice none 0 0 :: .int .i64 0 :: .slice none 0 0 :: .int .i64 0 :: .int .i64 0 :: .int .i64 0 :: .int .i64 0 :: .int .i64 0 :: .slice none 0 0 :: .slice none 0 0 :: .int .i64 0 :: .int .i64 0 :: .int .i64 0 :: .int .i64 0 :: .int .i64 0 :: .int .i64 0 :: .int .i64 0 :: .int .i64 0 :: .string ⟨#[]⟩ :: .string ⟨#[]⟩ :: .slice none 0 0 :: .int .i64 0 :: .int .i64 0 :: .int .i64 0 :: .int .i64 0 :: .int .i64 0 :: .int .i64 0 :: .slice none 0 0 :: .slice none 0 0 :: []) 44
  have HW1 := Lib.hid hw1
  clear hw1
  go_upto_region 3 with (fail)
  first | rw [HW1.out] | skip
  clear HW1
  have H1 := Lib.hid (H0.out.below B1.out)
  have BB : Hid (∀ W, Below w1.heap.size w1 W → Below B w W ∧ B ≤ W.heap.size) := fun W hW => ⟨(bt B1.out hW).mono hB, Nat.le_trans hB (Nat.le_trans B1.out.size hW.size)⟩
  have HE1 := Lib.hid (HEE.out _ B1.out)
  obtain ⟨pa, hpa⟩ : ∃ pa, pa = w.heap.size := ⟨_, rfl⟩
  have hpl := H0.out.c.lt
  have hpne : pa ≠ pb := by omega
  rw [← hpa] at CA
  first | rw [← hpa] | skip
  have HPA := Lib.hid hpa
  clear hpa hpl
  have R1 := Lib.hid CA.out.range
  go_wp2_with (refine wpList_load_mid (by rfl) _ _ (by rfl) pa 0 (by rfl) (.int .i64 3 :: .int .i64 f :: .int .i64 t :: .int .i64 0 :: .int .i64 0 :: .int .i64 0 :: .int .i64 0 :: .int .i64 n :: .int .i64 0 :: .slice none 0 0 :: .int .i64 0 :: .slice none 0 0 :: .int .i64 0 :: .int .i64 0 :: .int .i64 0 :: .int .i64 0 :: .int .i64 0 :: .slice none 0 0 :: .slice none 0 0 :: .int .i64 0 :: .int .i64 0 :: .int .i64 0 :: .int .i64 0 :: .int .i64 0 :: .int .i64 0 :: .int .i64 0 :: .int .i64 0 :: .string ⟨#[]⟩ :: .string ⟨#[]⟩ :: .slice none 0 0 :: .int .i64 0 :: .int .i64 0 :: .int .i64 0 :: .int .i64 0 :: .int .i64 0 :: .int .i64 0 :: .slice none 0 0 :: .slice none 0 0 :: []) _ R1.out HU.out (by rfl) HI38.out ?_)
  refine HE1.out.mono ?_
  rintro e w2 ⟨rfl, hb2⟩
  have H2 := Lib.hid (H1.out.below hb2)
  have C2 := Lib.hid (Cl.below CA.out hb2)
  have B2 := Lib.hid (BB.out _ hb2)
  have B22 := Lib.hid (bt B1.out hb2)
  clear hb2 R1 HE1 HEE H1 CA BB B1
  have c0 := H2.out.c.cell 0
  simp only [List.getElem?_cons_zero] at c0
  by_cases hlt : l.length < 256
  · have g0 := H2.out.c.cell 0
    have f0 := H2.out.c.free 0
    have m0 := fun x : BelowOf w2 => x.cell (show w2.cell? ⟨pb, 0, none⟩ = _ from H2.out.c.cell 0)
    have m2 := fun x : BelowOf w2 => x.cell (show w2.cell? ⟨pa, 2, none⟩ = some (.int .i64 t) from C2.out.cell 2)
    simp only [List.getElem?_cons_zero] at g0 m0
    have ITM : Hid (Cl (w2.alloc (.cells #[.string ⟨data.toArray⟩, .int .i64 t] 74)) w2.heap.size [.string ⟨data.toArray⟩, .int .i64 t] 74) := Cl.new w2 _ _
    have hsl : Hid (Sl (w2.alloc (.cells #[.string ⟨data.toArray⟩, .int .i64 t] 74)).drew B 2 (.slice a l.length cap) l.length (itC l)) := H2.out.s.kept (S := fun _ => False) ((Keeps.alloc _ _ _).trans (Keeps.drew _ _)) (fun _ _ => id)
    have hsrc : Hid (SrcIs (w2.alloc (.cells #[.string ⟨data.toArray⟩, .int .i64 t] 74)).drew 2 (.slice (some ⟨w2.heap.size, 0, none⟩) 1 1) 1 [.string ⟨data.toArray⟩, .int .i64 t]) := ITM.out.src 2 1 1 rfl
    have hone : ∀ u ∈ [Value.string ⟨data.toArray⟩, .int .i64 t], u.oneCell' = true := by simp [Value.oneCell']
    have h63 : l.length + 1 ≤ maxLen := by unfold maxLen; omega
    have hby : (l.length + 1) * 24 ≤ 140737488355328 := by omega
    have hba : B ≤ ((w2.alloc (.cells #[.string ⟨data.toArray⟩, .int .i64 t] 74)).drew).heap.size := by have := B2.out.2; have h2 := World.size_alloc w2 (.cells #[.string ⟨data.toArray⟩, .int .i64 t] 74); show B ≤ (w2.alloc (.cells #[.string ⟨data.toArray⟩, .int .i64 t] 74)).heap.size; omega
    have HPO := Lib.hid (fun (w4 : World) (v' : Value) h1 h2 h3 => bag_put_post (x := (data, t)) (w4 := w4) (v' := v') H2.out hlt h1 h2 h3)
    have gA : (w2.alloc (.cells #[.string ⟨data.toArray⟩, .int .i64 t] 74)).cell? ⟨pb, 0, none⟩ = some (.slice a l.length cap) := (H2.out.c.alloc _).cell 0
    have d2 : w2.cell? ⟨pa, 2, none⟩ = some (.int .i64 t) := C2.out.cell 2
    have dA : (w2.alloc (.cells #[.string ⟨data.toArray⟩, .int .i64 t] 74)).cell? ⟨pa, 2, none⟩ = some (.int .i64 t) := (C2.out.alloc _).cell 2
    clear m0 m2 c0
    go_upto_region 8 with (fail)
    go_region_law (first
      | (refine step_append_sl _ (by rfl) _ _ _ (by rfl) B 74 i0 _ 2 24 Tryz.underlying63 hi hz0 hz1 hz2 rfl (by decide) (.slice a l.length cap) l.length (itC l) (by rfl) hsl.out (.slice (some ⟨w2.heap.size, 0, none⟩) 1 1) 1 [.string ⟨data.toArray⟩, .int .i64 t] (by rfl) hsrc.out hone h63 hby hba Nat.one_pos ?_; intro g4 off4 cap4 w4 hown4 hg4 hnew4; obtain ⟨hpost, hcell4, hfree4⟩ := HPO.out _ _ hown4 hg4 (hnew4.imp (fun e => e.symm) (fun e k hk => (Option.some.inj hk) ▸ e)); have HP := Lib.hid hpost; clear hpost hown4 hg4 hnew4))
    all_goals
      go_wp2
      go_ret
      unfold PutPost
      rw [if_pos hlt, if_pos hlt]
      exact ⟨rfl, _, HP.out.1, (BagK.of B22.out).trans HP.out.2⟩
  · go_wp2
    go_ret
    unfold PutPost
    rw [if_neg hlt, if_neg hlt]
    exact ⟨rfl, _, H2.out, BagK.of B22.out⟩

end Go.Proofs.YtbljbdjmgogknaaGreatDoor
