/-
  TapeSwaps: what its ways hold.
  Conditions: none.
-/
import Derived.Test.YtohimlahncbpjaaTx
set_option linter.unusedVariables false
set_option linter.unusedSimpArgs false
namespace Go.Proofs.Ytohimlahncbpjaa
open Go.RowKit

def nmFile : List UInt8 := [102, 105, 108, 101]
def nmNew : List UInt8 := [110, 101, 119]
theorem LpI.appW {w w9 wa : World} {O : Nat → Prop} {p m : Nat} {t : Tp} {k c : Nat} {n s : List UInt8} {e : Ending} (K : Tw w wa O p m t) (I : LpI t k c) (hk : k < 60) (hc : c ≤ 1000) (hs : s.length ≤ 1024) (hn : isNm n = true) (h : AppPost O p m t n s wa e w9) :
    ∃ O9 t9 b, e = .returned (.int .i64 (actV t)) ∧ Tw w w9 O9 p m t9 ∧ t9.files = (appT t n s b).files ∧ ((t.armed ≠ 1 ∧ LpI t9 (k + 1) (c + 1) ∧ (t.armed = 0 → t9.armed = 0)) ∨ (t.armed = 1 ∧ t9.life ≤ 1)) := by
  have hfit : (getF t.files n = none → t.files.length < 256) ∧ (s.length : Int) ≤ t.room - total t.files := by
    have h1 := I.tot
    have h2 := I.room
    have h3 := I.len
    exact ⟨fun _ => by omega, by omega⟩
  rcases h with ⟨⟨hf1, hf2⟩, b, he9, O9, h9, s9⟩ | ⟨hno, _⟩
  · obtain ⟨m1, m2, m3, m4, m5⟩ := appT_more t n s b
    obtain ⟨q1', q2', q3', q4'⟩ := actT_more (appT t n s b)
    have ha := I.acts
    have hl := I.life
    have hm0 := K.K.m0
    have h0 := appT_ok (n := n) K.K b hf2 K.T.names hn hf1
    have OK := actT_ok h0 (by rw [m2]; omega) (by rw [m3]; omega)
    have hfs : (actT (appT t n s b)).files = (appT t n s b).files := (actT_files _).1
    have hrm := (actT_files (appT t n s b)).2
    refine ⟨O9, _, b, he9, K.step h9 s9 OK, hfs, ?_⟩
    rw [m5] at q2' q3' q4'
    by_cases h1 : t.armed = 1
    · obtain ⟨d1, d2, d3⟩ := q4' h1
      right
      refine ⟨h1, ?_⟩
      rw [d2, m3, hl]; decide
    · left
      have hd : (actT (appT t n s b)).down = false ∧ (actT (appT t n s b)).life = 0 := by
        by_cases h0 : t.armed = 0
        · obtain ⟨d1, d2, d3⟩ := q2' h0
          exact ⟨by rw [d2, m1]; exact I.down, by rw [d3, m3]; exact hl⟩
        · obtain ⟨d1, d2, d3⟩ := q3' (by omega)
          exact ⟨by rw [d2, m1]; exact I.down, by rw [d3, m3]; exact hl⟩
      refine ⟨h1, ⟨hd.1, by rw [q1', m2]; omega, hd.2, by rw [hrm, m4]; exact I.room, ?_, ?_⟩, fun h0 => (q2' h0).1⟩
      · rw [hfs, appT_total]
        have := I.tot
        omega
      · rw [hfs, appT_len]
        have := I.len
        split <;> omega
  · exact absurd hfit hno
theorem LpI.syncW {w w9 wa : World} {O : Nat → Prop} {p m : Nat} {t : Tp} {k c : Nat} {n : List UInt8} {f : TF} {e : Ending} (K : Tw w wa O p m t) (I : LpI t k c) (hc : c ≤ 1000) (hg : getF t.files n = some f) (h : OpPost O p m wa (.int .i64 (actV t)) (syncT t n) e w9) :
    ∃ t9, e = .returned (.int .i64 (actV t)) ∧ Tw w w9 O p m t9 ∧ ((t.armed ≠ 1 ∧ LpI t9 k (c + 1) ∧ t9.files = modF t.files n syncF ∧ (t.armed = 0 → t9.armed = 0)) ∨ (t.armed = 1 ∧ t9.life ≤ 1 ∧ t9.files = t.files)) := by
  obtain ⟨he, h9, k9⟩ := h
  obtain ⟨q1', q2', q3', q4'⟩ := actT_more t
  have ha := I.acts
  have hl := I.life
  have hm0 := K.K.m0
  by_cases h1 : t.armed = 1
  · obtain ⟨d1, d2, d3⟩ := q4' h1
    have hs : syncT t n = actT t := by rw [syncT, if_pos h1]
    rw [hs] at h9
    exact ⟨_, he, K.step h9 (Sp.of k9) (actT_ok K.K (by omega) (by omega)), .inr ⟨h1, by rw [d2, hl]; decide, (actT_files t).1⟩⟩
  · have hs : syncT t n = actT { t with files := modF t.files n syncF } := by rw [syncT, if_neg h1, actT_setF]
    rw [hs] at h9
    have OK := sync_ok K.K K.T.names hg
    have hfs : (actT { t with files := modF t.files n syncF }).files = modF t.files n syncF := (actT_files _).1
    have hrm : (actT { t with files := modF t.files n syncF }).room = t.room := (actT_files _).2
    obtain ⟨b1, b2, b3, b4⟩ := actT_more { t with files := modF t.files n syncF }
    refine ⟨_, he, K.step h9 (Sp.of k9) (actT_ok OK (by show t.acts < 1000000000; omega) (by show t.life < 1000000000; omega)), .inl ⟨h1, ?_, hfs, fun h0 => (b2 h0).1⟩⟩
    have hd : (actT { t with files := modF t.files n syncF }).down = false ∧ (actT { t with files := modF t.files n syncF }).life = 0 := by
      by_cases h0 : t.armed = 0
      · obtain ⟨d1, d2, d3⟩ := b2 h0
        exact ⟨d2.trans I.down, d3.trans hl⟩
      · obtain ⟨d1, d2, d3⟩ := b3 (show 1 < t.armed by omega)
        exact ⟨d2.trans I.down, d3.trans hl⟩
    refine ⟨hd.1, ?_, hd.2, hrm.trans I.room, ?_, ?_⟩
    · rw [b1]
      show t.acts + 1 ≤ _
      omega
    · rw [hfs]
      have h5 : total (modF t.files n syncF) + f.data.length = total t.files + f.data.length := total_modF (g := syncF) hg
      have := I.tot
      omega
    · rw [hfs, len_modF]
      exact I.len
theorem getF_updF (l : List TF) (f : TF) : getF (updF l f) f.name = some f := by
  induction l with
  | nil => simp [updF, getF]
  | cons a r ih =>
    rw [updF]
    split
    · simp [getF]
    · rename_i e
      rw [getF, if_neg e]
      exact ih
/-- The old file stands, whole and safe. -/
def FileIs (t : Tp) (old : List UInt8) : Prop := ∃ f, getF t.files nmFile = some f ∧ f.data = old ∧ f.safe = old.length
def SwI (t : Tp) (old want : List UInt8) (e : Int) (k : Nat) : Prop :=
  FileIs t old ∧ ((e = 0 ∧ LpI t (k + 2) (k + 4) ∧ (getF t.files nmNew).isSome = true ∧ wasOf t nmNew = want) ∨ (e = 10 ∧ t.life ≤ 1))
def SwJ (t : Tp) (old want : List UInt8) (e : Int) : Prop :=
  FileIs t old ∧ ((e = 0 ∧ LpI t 30 30 ∧ ∃ g, getF t.files nmNew = some g ∧ g.data = want ∧ g.safe = want.length) ∨ (e = 10 ∧ t.life ≤ 1))
def FinI (t : Tp) (old want : List UInt8) (e : Int) : Prop :=
  t.life ≤ 1 ∧ ∃ f, getF t.files nmFile = some f ∧ f.safe = f.data.length ∧ (f.data = want ∨ (f.data = old ∧ e = 10))
theorem SwI.mono {t : Tp} {old want : List UInt8} {e : Int} {k k' : Nat} (h : SwI t old want e k) (hk : k ≤ k') : SwI t old want e k' := by
  obtain ⟨h1, ⟨h2, h3, h4, h5⟩ | h2⟩ := h
  · exact ⟨h1, .inl ⟨h2, ⟨h3.down, by have := h3.acts; omega, h3.life, h3.room, by have := h3.tot; omega, by have := h3.len; omega⟩, h4, h5⟩⟩
  · exact ⟨h1, .inr h2⟩
theorem FileIs.app {t t9 : Tp} {old : List UInt8} (h : FileIs t old) {s : List UInt8} {b : Nat} (hf : t9.files = (appT t nmNew s b).files) : FileIs t9 old ∧ (getF t9.files nmNew).isSome = true ∧ wasOf t9 nmNew = wasOf t nmNew ++ s := by
  obtain ⟨f, h1, h2, h3⟩ := h
  have hg := appT_get t nmNew s b nmFile
  rw [if_neg (by decide), h1] at hg
  have hg2 := appT_get t nmNew s b nmNew
  rw [if_pos rfl] at hg2
  refine ⟨?_, ?_, ?_⟩
  · cases hx : getF (appT t nmNew s b).files nmFile with
    | none => rw [hx] at hg; cases hg
    | some f9 =>
      rw [hx] at hg
      simp at hg
      exact ⟨f9, by rw [hf]; exact hx, hg.1.trans h2, hg.2.trans h3⟩
  · rw [hf]
    cases hx : getF (appT t nmNew s b).files nmNew with
    | none => rw [hx] at hg2; cases hg2
    | some f9 => rfl
  · have := wasOf_app t nmNew s b
    unfold wasOf at this ⊢
    rw [hf]; exact this
theorem SwI.app {w w9 wa : World} {O : Nat → Prop} {p m : Nat} {t : Tp} {old want s : List UInt8} {k : Nat} {e : Ending} (K : Tw w wa O p m t) (hF : FileIs t old) (hI : LpI t (k + 1) (k + 3)) (hw : wasOf t nmNew = want) (hk : k ≤ 50) (hs : s.length ≤ 1024) (h : AppPost O p m t nmNew s wa e w9) :
    ∃ O9 t9, e = .returned (.int .i64 (actV t)) ∧ Tw w w9 O9 p m t9 ∧ SwI t9 old (want ++ s) (actV t) k ∧ (actV t = 0 ∨ actV t = 10) := by
  obtain ⟨O9, t9, b, he, hT, hf, ha⟩ := LpI.appW K hI (by omega) (by omega) hs rfl h
  obtain ⟨g1, g2, g3⟩ := hF.app hf
  rcases ha with ⟨h1, h2, _⟩ | ⟨h1, h2⟩
  · have hv : actV t = 0 := by rw [actV, if_neg h1]
    exact ⟨O9, t9, he, hT, ⟨g1, .inl ⟨hv, h2, g2, by rw [g3, hw]⟩⟩, .inl hv⟩
  · have hv : actV t = 10 := by rw [actV, if_pos h1]
    exact ⟨O9, t9, he, hT, ⟨g1, .inr ⟨hv, h2⟩⟩, .inr hv⟩
theorem SwJ.sync {w w9 wa : World} {O : Nat → Prop} {p m : Nat} {t : Tp} {old want : List UInt8} {c k : Nat} {e : Ending} {g : TF} (K : Tw w wa O p m t) (hF : FileIs t old) (hI : LpI t k c) (hk : k ≤ 29) (hc : c ≤ 29) (hg : getF t.files nmNew = some g) (hw : g.data = want) (h : OpPost O p m wa (.int .i64 (actV t)) (syncT t nmNew) e w9) :
    ∃ t9, e = .returned (.int .i64 (actV t)) ∧ Tw w w9 O p m t9 ∧ SwJ t9 old want (actV t) := by
  obtain ⟨t9, he, hT, ha⟩ := LpI.syncW K hI (by omega) hg h
  obtain ⟨f, f1, f2, f3⟩ := hF
  rcases ha with ⟨h1, h2, h3, _⟩ | ⟨h1, h2, h3⟩
  · have hv : actV t = 0 := by rw [actV, if_neg h1]
    refine ⟨t9, he, hT, ⟨f, ?_, f2, f3⟩, .inl ⟨hv, ⟨h2.down, by have := h2.acts; omega, h2.life, h2.room, by have := h2.tot; omega, by have := h2.len; omega⟩, syncF g, ?_, hw, by rw [← hw]; rfl⟩⟩
    · rw [h3, getF_modF_other syncF_same (by decide)]; exact f1
    · rw [h3, getF_modF_same syncF_same hg]
  · have hv : actV t = 10 := by rw [actV, if_pos h1]
    exact ⟨t9, he, hT, ⟨f, by rw [h3]; exact f1, f2, f3⟩, .inr ⟨hv, h2⟩⟩
theorem FinI.swap {w w9 wa : World} {O : Nat → Prop} {p m : Nat} {t : Tp} {old want : List UInt8} {e : Ending} {g : TF} (K : Tw w wa O p m t) (hI : LpI t 30 30) (hg : getF t.files nmNew = some g) (hw : g.data = want) (hs : g.safe = want.length) (h : OpPost O p m wa (.int .i64 (actV t)) (actT { t with files := swpF t.files nmNew nmFile g }) e w9) :
    ∃ t9, e = .returned (.int .i64 (actV t)) ∧ Tw w w9 O p m t9 ∧ FinI t9 old want (actV t) ∧ (actV t = 0 ∨ actV t = 10) := by
  obtain ⟨he, h9, k9⟩ := h
  have hl := hI.life
  have ha := hI.acts
  have OK := swp_ok K.K hg (b := nmFile) rfl
  obtain ⟨b1, b2, b3, b4⟩ := actT_more { t with files := swpF t.files nmNew nmFile g }
  have hm0 := K.K.m0
  refine ⟨_, he, K.step h9 (Sp.of k9) (actT_ok OK (by show t.acts < 1000000000; omega) (by show t.life < 1000000000; omega)), ⟨?_, { g with name := nmFile }, ?_, by rw [hs, hw], .inl hw⟩, ?_⟩
  · by_cases h0 : t.armed = 0
    · rw [(b2 h0).2.2]; show t.life ≤ 1; omega
    · by_cases h1 : t.armed = 1
      · rw [(b4 h1).2.1]; show t.life + 1 ≤ 1; omega
      · rw [(b3 (show 1 < t.armed by omega)).2.2]; show t.life ≤ 1; omega
  · rw [(actT_files _).1]
    exact getF_updF _ { g with name := nmFile }
  · unfold actV
    split
    · exact .inr rfl
    · exact .inl rfl
theorem FinI.read {t t9 : Tp} {old want : List UInt8} {e : Int} (h : FinI t old want e) {room : Int} (hok : OnOk room t.files (t.files.map (·.name))) (hn : (t.files.map (·.name)).Nodup) {fates : List Int} {ns : List (List UInt8)} (hf : t9.files = onGo fates ns 0 t.files) :
    codeOf t9 nmFile = 0 ∧ (wasOf t9 nmFile = want ∨ (wasOf t9 nmFile = old ∧ e = 10)) := by
  obtain ⟨_, f, h1, h2, h3⟩ := h
  obtain ⟨f9, hf9⟩ := onGo_some fates hn ns 0 t.files hok h1
  obtain ⟨f0, hf0, hp, hs⟩ := onGo_pre fates hn ns 0 t.files hok _ _ hf9
  rw [h1] at hf0
  injection hf0 with hf0
  subst hf0
  have e1 : f9.data = f.data := hp.eq_of_length_le (by omega)
  have e2 : wasOf t9 nmFile = f.data := by
    unfold wasOf
    rw [hf, hf9]; exact e1
  refine ⟨?_, by rw [e2]; exact h3⟩
  unfold codeOf
  rw [hf, hf9]; rfl

end Go.Proofs.Ytohimlahncbpjaa
