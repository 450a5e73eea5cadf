/-
  TapeKeeps: what its loops hold.
  Conditions: none.
-/
import Derived.Test.YtohimlahncbpjaaTw
set_option linter.unusedVariables false
set_option linter.unusedSimpArgs false
namespace Go.Proofs.Ytohimlahncbpjaa
open Go.RowKit

def boxL (A : Nat → List UInt8) : List Value := (List.range 4).map fun j => .string ⟨(A j).toArray⟩
def putL (A : Nat → List UInt8) (r : Nat) (x : List UInt8) : Nat → List UInt8 := fun j => if j = r then x else A j
theorem boxL_at (A : Nat → List UInt8) {r : Nat} (hr : r < 4) : (boxL A)[r]? = some (.string ⟨(A r).toArray⟩) := by
  simp [boxL, hr]
theorem boxL_set (A : Nat → List UInt8) {r : Nat} (hr : r < 4) (x : List UInt8) : (boxL A).set r (.string ⟨x.toArray⟩) = boxL (putL A r x) := by
  obtain rfl | rfl | rfl | rfl : r = 0 ∨ r = 1 ∨ r = 2 ∨ r = 3 := by omega
  all_goals rfl
theorem nmOf_inj {r s : Nat} (hr : r < 4) (hs : s < 4) (h : nmOf r = nmOf s) : r = s := by
  obtain rfl | rfl | rfl | rfl : r = 0 ∨ r = 1 ∨ r = 2 ∨ r = 3 := by omega
  all_goals
    obtain rfl | rfl | rfl | rfl : s = 0 ∨ s = 1 ∨ s = 2 ∨ s = 3 := by omega
    all_goals first | rfl | (exfalso; revert h; decide)
/-- The tape and the three arrays. -/
structure KW (w wr : World) (O : Nat → Prop) (p m : Nat) (t : Tp) (q1 q2 q3 : Nat) (A S : Nat → List UInt8) : Prop where
  T : Tw w wr O p m t
  c1 : Cl wr q1 (boxL nmOf) 40
  c2 : Cl wr q2 (boxL S) 40
  c3 : Cl wr q3 (boxL A) 40
  n1 : ¬ O q1
  n2 : ¬ O q2
  n3 : ¬ O q3
  l2 : w.heap.size ≤ q2
  l3 : w.heap.size ≤ q3
  d12 : q1 ≠ q2
  d13 : q1 ≠ q3
  d23 : q2 ≠ q3
theorem KW.below {w wr w' : World} {O : Nat → Prop} {p m : Nat} {t : Tp} {q1 q2 q3 : Nat} {A S : Nat → List UInt8} (h : KW w wr O p m t q1 q2 q3 A S) (hb : Below wr.heap.size wr w') : KW w w' O p m t q1 q2 q3 A S :=
  ⟨h.T.below hb, h.c1.below hb, h.c2.below hb, h.c3.below hb, h.n1, h.n2, h.n3, h.l2, h.l3, h.d12, h.d13, h.d23⟩
theorem KW.step {w wr w' : World} {O O' : Nat → Prop} {p m : Nat} {t t' : Tp} {q1 q2 q3 : Nat} {A S : Nat → List UInt8} (h : KW w wr O p m t q1 q2 q3 A S) (hT : TapeW w' O' p m t') (hS : Sp O wr O' w') (hK : TapeOk t') : KW w w' O' p m t' q1 q2 q3 A S :=
  ⟨h.T.step hT hS hK, (hS.cl h.c1 h.n1).1, (hS.cl h.c2 h.n2).1, (hS.cl h.c3 h.n3).1, (hS.cl h.c1 h.n1).2, (hS.cl h.c2 h.n2).2, (hS.cl h.c3 h.n3).2, h.l2, h.l3, h.d12, h.d13, h.d23⟩
theorem KW.set3 {w wr : World} {O : Nat → Prop} {p m : Nat} {t : Tp} {q1 q2 q3 : Nat} {A S : Nat → List UInt8} (h : KW w wr O p m t q1 q2 q3 A S) {r : Nat} (hr : r < 4) (x : List UInt8) : KW w (wr.setCell ⟨q3, r, none⟩ (.string ⟨x.toArray⟩)) O p m t q1 q2 q3 (putL A r x) S :=
  ⟨h.T.setq h.n3 h.l3 r _, h.c1.other _ _ (Ne.symm h.d13), h.c2.other _ _ (Ne.symm h.d23), by rw [← boxL_set A hr x]; exact h.c3.set r _, h.n1, h.n2, h.n3, h.l2, h.l3, h.d12, h.d13, h.d23⟩
theorem KW.set2 {w wr : World} {O : Nat → Prop} {p m : Nat} {t : Tp} {q1 q2 q3 : Nat} {A S : Nat → List UInt8} (h : KW w wr O p m t q1 q2 q3 A S) {r : Nat} (hr : r < 4) (x : List UInt8) : KW w (wr.setCell ⟨q2, r, none⟩ (.string ⟨x.toArray⟩)) O p m t q1 q2 q3 A (putL S r x) :=
  ⟨h.T.setq h.n2 h.l2 r _, h.c1.other _ _ (Ne.symm h.d12), by rw [← boxL_set S hr x]; exact h.c2.set r _, h.c3.other _ _ h.d23, h.n1, h.n2, h.n3, h.l2, h.l3, h.d12, h.d13, h.d23⟩
/-- What the arrays say of the files. -/
def KpI (t : Tp) (A S : Nat → List UInt8) : Prop :=
  ∀ r, r < 4 → (getF t.files (nmOf r) = none → A r = [] ∧ S r = []) ∧ ∀ f, getF t.files (nmOf r) = some f → A r = f.data ∧ (S r).length ≤ f.safe
structure LpI (t : Tp) (k c : Nat) : Prop where
  down : t.down = false
  acts : t.acts ≤ c
  life : t.life = 0
  room : t.room = 1048576
  tot : total t.files ≤ 1024 * k
  len : t.files.length ≤ k
theorem KpI.app {t t9 : Tp} {A S : Nat → List UInt8} (h : KpI t A S) {r : Nat} (hr : r < 4) (s : List UInt8) (b : Nat) (hf : t9.files = (appT t (nmOf r) s b).files) : KpI t9 (putL A r (A r ++ s)) S := by
  intro j hj
  have hg := appT_get t (nmOf r) s b (nmOf j)
  obtain ⟨h1, h2⟩ := h j hj
  rw [hf]
  by_cases e : j = r
  · subst e
    rw [if_pos rfl] at hg
    refine ⟨fun hn => ?_, fun f hf => ?_⟩
    · rw [hn] at hg
      cases hg
    · rw [hf] at hg
      have ha : putL A j (A j ++ s) j = A j ++ s := by simp [putL]
      rw [ha]
      cases hg0 : getF t.files (nmOf j) with
      | none =>
        rw [hg0] at hg
        simp at hg
        obtain ⟨e1, e2⟩ := h1 hg0
        rw [e1, e2, hg.1]
        exact ⟨by simp, by simp⟩
      | some f0 =>
        rw [hg0] at hg
        simp at hg
        obtain ⟨e1, e2⟩ := h2 f0 hg0
        rw [e1, hg.1, hg.2]
        exact ⟨rfl, e2⟩
  · rw [if_neg (fun e2 => e (nmOf_inj hj hr e2))] at hg
    have ha : putL A r (A r ++ s) j = A j := by simp [putL, e]
    rw [ha]
    cases hg0 : getF t.files (nmOf j) with
    | none =>
      rw [hg0] at hg
      refine ⟨fun _ => h1 hg0, fun f hf => ?_⟩
      rw [hf] at hg; cases hg
    | some f0 =>
      rw [hg0] at hg
      refine ⟨fun hn => ?_, fun f hf => ?_⟩
      · rw [hn] at hg; cases hg
      · rw [hf] at hg
        simp at hg
        obtain ⟨e1, e2⟩ := h2 f0 hg0
        rw [hg.1, hg.2]
        exact ⟨e1, e2⟩
theorem KpI.sync {t t9 : Tp} {A S : Nat → List UInt8} (h : KpI t A S) {r : Nat} (hr : r < 4) {f : TF} (hg : getF t.files (nmOf r) = some f) (hf : t9.files = modF t.files (nmOf r) syncF) : KpI t9 A (putL S r (A r)) := by
  intro j hj
  obtain ⟨h1, h2⟩ := h j hj
  rw [hf]
  by_cases e : j = r
  · subst e
    have ha : putL S j (A j) j = A j := by simp [putL]
    rw [ha, getF_modF_same syncF_same hg]
    refine ⟨fun hn => (by cases hn), fun f9 hf9 => ?_⟩
    injection hf9 with hf9
    subst hf9
    obtain ⟨e1, e2⟩ := h2 f hg
    exact ⟨e1, by rw [e1]; exact Nat.le_refl _⟩
  · rw [getF_modF_other syncF_same (fun e2 => e (nmOf_inj hj hr e2))]
    have ha : putL S r (A r) j = S j := by simp [putL, e]
    rw [ha]
    exact ⟨h1, h2⟩
/-- What is read behind the fall. -/
theorem KpI.read {t t9 : Tp} {A S : Nat → List UInt8} (h : KpI t A S) {room : Int} (hok : OnOk room t.files (t.files.map (·.name))) (hn : (t.files.map (·.name)).Nodup) {fates : List Int} {ns : List (List UInt8)} (hf : t9.files = onGo fates ns 0 t.files) {r : Nat} (hr : r < 4) :
    wasOf t9 (nmOf r) <+: A r ∧ (S r).length ≤ (wasOf t9 (nmOf r)).length := by
  obtain ⟨h1, h2⟩ := h r hr
  unfold wasOf
  rw [hf]
  cases hg : getF (onGo fates ns 0 t.files) (nmOf r) with
  | some f9 =>
    obtain ⟨f, hff, hp, hs⟩ := onGo_pre fates hn ns 0 t.files hok _ _ hg
    obtain ⟨e1, e2⟩ := h2 f hff
    rw [e1]
    exact ⟨hp, Nat.le_trans e2 hs⟩
  | none =>
    cases hg0 : getF t.files (nmOf r) with
    | none =>
      obtain ⟨e1, e2⟩ := h1 hg0
      rw [e1, e2]
      exact ⟨by simp, by simp⟩
    | some f =>
      obtain ⟨f9, hf9⟩ := onGo_some fates hn ns 0 t.files hok hg0
      rw [hg] at hf9
      cases hf9
theorem KpI.le {t : Tp} {A S : Nat → List UInt8} (h : KpI t A S) {r : Nat} (hr : r < 4) : (A r).length ≤ total t.files := by
  obtain ⟨h1, h2⟩ := h r hr
  cases hg : getF t.files (nmOf r) with
  | none => rw [(h1 hg).1]; simp
  | some f => rw [(h2 f hg).1]; exact total_mem (getF_mem hg).1
theorem KpI.len {t : Tp} {A S : Nat → List UInt8} (h : KpI t A S) (hs : ∀ f ∈ t.files, f.safe ≤ f.data.length) {r : Nat} (hr : r < 4) : (S r).length ≤ (A r).length := by
  obtain ⟨h1, h2⟩ := h r hr
  cases hg : getF t.files (nmOf r) with
  | none => rw [(h1 hg).1, (h1 hg).2]; exact Nat.le_refl _
  | some f =>
    obtain ⟨e1, e2⟩ := h2 f hg
    rw [e1]
    exact Nat.le_trans e2 (hs f (getF_mem hg).1)
/-- What an append leaves here. -/
theorem LpI.app {w w9 wa : World} {O : Nat → Prop} {p m : Nat} {t : Tp} {q1 q2 q3 k c : Nat} {A S : Nat → List UInt8} {r : Nat} {s : List UInt8} {e : Ending} (K : KW w wa O p m t q1 q2 q3 A S) (I : LpI t k c) (hk : k < 60) (hc : c ≤ 1000) (hr : r < 4) (hs : s.length ≤ 1024) (hK : KpI t A S) (h : AppPost O p m t (nmOf r) s wa e w9) :
    ∃ O9 t9 f9, e = .returned (.int .i64 (actV t)) ∧ KW w w9 O9 p m t9 q1 q2 q3 A S ∧ KpI t9 (putL A r (A r ++ s)) S ∧ getF t9.files (nmOf r) = some f9 ∧ ((t.armed ≠ 1 ∧ LpI t9 (k + 1) (c + 1)) ∨ (t.armed = 1 ∧ t9.down = true ∧ t9.life ≤ 1)) := by
  have hfit : (getF t.files (nmOf r) = none → t.files.length < 256) ∧ (s.length : Int) ≤ t.room - total t.files := by
    have h1 := I.tot
    have h2 := I.room
    have h3 := I.len
    exact ⟨fun _ => by omega, by omega⟩
  rcases h with ⟨⟨hf1, hf2⟩, b, he9, O9, h9, s9⟩ | ⟨hno, _⟩
  · obtain ⟨m1, m2, m3, m4, m5⟩ := appT_more t (nmOf r) s b
    obtain ⟨q1', q2', q3', q4'⟩ := actT_more (appT t (nmOf r) s b)
    have ha := I.acts
    have hl := I.life
    have hm0 := K.T.K.m0
    have h0 := appT_ok (n := nmOf r) K.T.K b hf2 K.T.T.names (nmOf_ok r) hf1
    have OK := actT_ok h0 (by rw [m2]; omega) (by rw [m3]; omega)
    have hfs : (actT (appT t (nmOf r) s b)).files = (appT t (nmOf r) s b).files := (actT_files _).1
    have hrm := (actT_files (appT t (nmOf r) s b)).2
    obtain ⟨f9, hf9⟩ : ∃ f9, getF (appT t (nmOf r) s b).files (nmOf r) = some f9 := by
      have hg := appT_get t (nmOf r) s b (nmOf r)
      rw [if_pos rfl] at hg
      cases hx : getF (appT t (nmOf r) s b).files (nmOf r) with
      | some f9 => exact ⟨f9, rfl⟩
      | none => rw [hx] at hg; cases hg
    refine ⟨O9, _, f9, he9, K.step h9 s9 OK, hK.app hr s b hfs, by rw [hfs]; exact hf9, ?_⟩
    rw [m5] at q2' q3' q4'
    by_cases h1 : t.armed = 1
    · obtain ⟨d1, d2, d3⟩ := q4' h1
      right
      refine ⟨h1, d1, ?_⟩
      rw [d2, m3, hl]; decide
    · left
      have hd : (actT (appT t (nmOf r) s b)).down = false ∧ (actT (appT t (nmOf r) s b)).life = 0 := by
        by_cases h0 : t.armed = 0
        · obtain ⟨d1, d2, d3⟩ := q2' h0
          exact ⟨by rw [d2, m1]; exact I.down, by rw [d3, m3]; exact hl⟩
        · obtain ⟨d1, d2, d3⟩ := q3' (by omega)
          exact ⟨by rw [d2, m1]; exact I.down, by rw [d3, m3]; exact hl⟩
      refine ⟨h1, hd.1, by rw [q1', m2]; omega, hd.2, by rw [hrm, m4]; exact I.room, ?_, ?_⟩
      · rw [hfs, appT_total]
        have := I.tot
        omega
      · rw [hfs, appT_len]
        have := I.len
        split <;> omega
  · exact absurd hfit hno
theorem LpI.mono {t : Tp} {k c c' : Nat} (h : LpI t k c) (hc : c ≤ c') : LpI t k c' := ⟨h.down, by have := h.acts; omega, h.life, h.room, h.tot, h.len⟩
theorem actT_setF (t : Tp) (X : List TF) : ({ actT t with files := X } : Tp) = actT { t with files := X } := by
  unfold actT
  dsimp only
  split
  · rfl
  · split <;> rfl
theorem sync_ok {t : Tp} (h : TapeOk t) (hn : (t.files.map (·.name)).Nodup) {n : List UInt8} {f : TF} (hf : getF t.files n = some f) : TapeOk { t with files := modF t.files n syncF } := by
  refine ⟨h.r0, h.r1, ?_, fun x hx => ?_, h.a0, h.a1, h.m0, h.m1, h.l0, h.l1, fun x hx => ?_, ?_⟩
  · have h1 : total (modF t.files n syncF) + f.data.length = total t.files + f.data.length := total_modF (g := syncF) hf
    have h2 := h.tot
    show ((total (modF t.files n syncF) : Nat) : Int) ≤ t.room
    have h3 : total (modF t.files n syncF) = total t.files := by omega
    omega
  · rcases mem_modF hn hx with ⟨f0, h1, rfl⟩ | ⟨h1, _⟩
    · exact Nat.le_refl _
    · exact h.safe x h1
  · rcases mem_modF hn hx with ⟨f0, h1, rfl⟩ | ⟨h1, _⟩
    · exact h.nm f0 (getF_mem h1).1
    · exact h.nm x h1
  · show (modF t.files n syncF).length ≤ 256
    rw [len_modF]; exact h.cnt
/-- What a sync leaves here. -/
theorem LpI.sync {w w9 wa : World} {O : Nat → Prop} {p m : Nat} {t : Tp} {q1 q2 q3 k c : Nat} {A S : Nat → List UInt8} {r : Nat} {f : TF} {e : Ending} (K : KW w wa O p m t q1 q2 q3 A S) (I : LpI t k c) (hc : c ≤ 1000) (hr : r < 4) (hK : KpI t A S) (hg : getF t.files (nmOf r) = some f) (h : OpPost O p m wa (.int .i64 (actV t)) (syncT t (nmOf r)) e w9) :
    ∃ t9, e = .returned (.int .i64 (actV t)) ∧ KW w w9 O p m t9 q1 q2 q3 A S ∧ ((t.armed ≠ 1 ∧ LpI t9 k (c + 1) ∧ KpI t9 A (putL S r (A r))) ∨ (t.armed = 1 ∧ t9.life ≤ 1 ∧ KpI t9 A S)) := by
  obtain ⟨he, h9, k9⟩ := h
  obtain ⟨q1', q2', q3', q4'⟩ := actT_more t
  have ha := I.acts
  have hl := I.life
  have hm0 := K.T.K.m0
  by_cases h1 : t.armed = 1
  · obtain ⟨d1, d2, d3⟩ := q4' h1
    have hs : syncT t (nmOf r) = actT t := by rw [syncT, if_pos h1]
    rw [hs] at h9
    refine ⟨_, he, K.step h9 (Sp.of k9) (actT_ok K.T.K (by omega) (by omega)), .inr ⟨h1, by rw [d2, hl]; decide, ?_⟩⟩
    unfold KpI
    rw [(actT_files t).1]
    exact hK
  · have hs : syncT t (nmOf r) = actT { t with files := modF t.files (nmOf r) syncF } := by rw [syncT, if_neg h1, actT_setF]
    rw [hs] at h9
    have OK := sync_ok K.T.K K.T.T.names hg
    refine ⟨_, he, K.step h9 (Sp.of k9) (actT_ok OK (by show t.acts < 1000000000; omega) (by show t.life < 1000000000; omega)), .inl ⟨h1, ?_, ?_⟩⟩
    · have hfs : (actT { t with files := modF t.files (nmOf r) syncF }).files = modF t.files (nmOf r) syncF := (actT_files _).1
      have hrm : (actT { t with files := modF t.files (nmOf r) syncF }).room = t.room := (actT_files _).2
      obtain ⟨b1, b2, b3, b4⟩ := actT_more { t with files := modF t.files (nmOf r) syncF }
      have hd : (actT { t with files := modF t.files (nmOf r) syncF }).down = false ∧ (actT { t with files := modF t.files (nmOf r) syncF }).life = 0 := by
        by_cases h0 : t.armed = 0
        · obtain ⟨d1, d2, d3⟩ := b2 h0
          exact ⟨d2.trans I.down, d3.trans hl⟩
        · obtain ⟨d1, d2, d3⟩ := b3 (show 1 < t.armed by omega)
          exact ⟨d2.trans I.down, d3.trans hl⟩
      refine ⟨hd.1, ?_, hd.2, hrm.trans I.room, ?_, ?_⟩
      · rw [b1]
        show t.acts + 1 ≤ _
        omega
      · rw [hfs]
        have h5 : total (modF t.files (nmOf r) syncF) + f.data.length = total t.files + f.data.length := total_modF (g := syncF) hg
        have := I.tot
        omega
      · rw [hfs, len_modF]
        exact I.len
    · exact hK.sync hr hg (actT_files _).1

end Go.Proofs.Ytohimlahncbpjaa
