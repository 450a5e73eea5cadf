/-
  What is useless, plainly: the greatest offset of a key; thinned twice as thinned at once.
  Conditions: none.
-/
import Derived.Test.YtccndbifnbmddaaXd
set_option linter.unusedVariables false
set_option linter.unusedSimpArgs false
namespace Go.Proofs.Ytccndbifnbmddaa

/-- All records of batches. -/
def recsOf (l : List Cr.Batch) : List Cr.Rec := l.flatMap (·.recs)
theorem mem_recsOf {l : List Cr.Batch} {x : Cr.Rec} : x ∈ recsOf l ↔ ∃ b ∈ l, x ∈ b.recs := List.mem_flatMap
theorem foldl_flat {α : Type} (f : α → Cr.Rec → α) (g : α → Cr.Batch → α) (hg : ∀ a b, g a b = b.recs.foldl f a) : ∀ (l : List Cr.Batch) (z : α), l.foldl g z = (recsOf l).foldl f z := by
  intro l
  induction l with
  | nil => intro z; rfl
  | cons b l ih =>
    intro z
    rw [List.foldl_cons, ih, hg]
    simp [recsOf, List.foldl_append]
theorem lastL_flat (high : Int) (l : List Cr.Batch) : lastL high l = (recsOf l).foldl (lastStep high) [] := foldl_flat (lastStep high) (lastB high) (fun _ _ => rfl) l []
/-- What the map says of a row of records. -/
structure LastOf (high : Int) (R : List Cr.Rec) (m : LM) : Prop where
  up : ∀ x ∈ R, x.off < high → ∃ n, lookI m x.key = some n ∧ x.off ≤ n
  at_ : ∀ k n, lookI m k = some n → ∃ x ∈ R, x.key = k ∧ x.off = n ∧ n < high
theorem lastStep_of {high : Int} {R : List Cr.Rec} {m : LM} (h : LastOf high R m) (x : Cr.Rec) : LastOf high (R ++ [x]) (lastStep high m x) := by
  unfold lastStep
  by_cases hn : lastNew high m x = true
  · rw [if_pos hn]
    simp only [lastNew, Bool.and_eq_true, decide_eq_true_eq] at hn
    obtain ⟨h1, h2⟩ := hn
    refine ⟨fun y hy hyh => ?_, fun k n hk => ?_⟩
    · by_cases e : y.key = x.key
      · rw [e, lookI_same]
        refine ⟨_, rfl, ?_⟩
        rcases List.mem_append.1 hy with h3 | h3
        · obtain ⟨n, hn, hle⟩ := h.up y h3 hyh
          rw [e] at hn
          rw [hn] at h2
          simp only [decide_eq_true_eq] at h2
          omega
        · rw [List.mem_singleton.1 h3]; omega
      · rw [lookI_other _ _ e]
        rcases List.mem_append.1 hy with h3 | h3
        · exact h.up y h3 hyh
        · exact absurd (by rw [List.mem_singleton.1 h3]) e
    · by_cases e : k = x.key
      · subst e
        rw [lookI_same] at hk
        injection hk with hk
        subst hk
        exact ⟨x, by simp, rfl, rfl, h1⟩
      · rw [lookI_other _ _ e] at hk
        obtain ⟨y, hy, h3⟩ := h.at_ k n hk
        exact ⟨y, by simp [hy], h3⟩
  · rw [if_neg hn]
    refine ⟨fun y hy hyh => ?_, fun k n hk => ?_⟩
    · rcases List.mem_append.1 hy with h3 | h3
      · exact h.up y h3 hyh
      · obtain rfl := List.mem_singleton.1 h3
        simp only [lastNew, Bool.and_eq_true, decide_eq_true_eq, not_and] at hn
        have h4 := hn hyh
        cases hl : lookI m y.key with
        | none => rw [hl] at h4; simp at h4
        | some n => rw [hl] at h4; simp only [decide_eq_true_eq] at h4; exact ⟨n, rfl, by omega⟩
    · obtain ⟨y, hy, h3⟩ := h.at_ k n hk
      exact ⟨y, by simp [hy], h3⟩
theorem lastFold_of (high : Int) : ∀ (S R : List Cr.Rec) (m : LM), LastOf high R m → LastOf high (R ++ S) (S.foldl (lastStep high) m) := by
  intro S
  induction S with
  | nil => intro R m h; simpa using h
  | cons x S ih =>
    intro R m h
    have := ih (R ++ [x]) _ (lastStep_of h x)
    rw [List.foldl_cons]
    simpa using this
theorem lastL_of (high : Int) (l : List Cr.Batch) : LastOf high (recsOf l) (lastL high l) := by
  rw [lastL_flat]
  have := lastFold_of high (recsOf l) [] [] ⟨fun x hx => (by simp at hx), fun k n hk => (by simp [lookI] at hk)⟩
  simpa using this
/-- A record is useless. -/
def Use (ok : Bool) (high : Int) (R : List Cr.Rec) (time now hor : Int) (x : Cr.Rec) : Prop :=
  ok = true ∧ x.key ≠ [] ∧ x.off < high ∧ ((∃ y ∈ R, y.key = x.key ∧ y.off < high ∧ x.off < y.off) ∨ (x.gone = true ∧ time ≤ now - hor))
theorem late_iff {high : Int} {l : List Cr.Batch} {x : Cr.Rec} (hx : x ∈ recsOf l) (hh : x.off < high) : x.off < (lookI (lastL high l) x.key).getD 0 ↔ ∃ y ∈ recsOf l, y.key = x.key ∧ y.off < high ∧ x.off < y.off := by
  have h := lastL_of high l
  obtain ⟨n, hn, hle⟩ := h.up x hx hh
  rw [hn]
  constructor
  · intro h1
    obtain ⟨y, hy, h2, h3, h4⟩ := h.at_ _ _ hn
    exact ⟨y, hy, h2, by omega, by simp at h1; omega⟩
  · rintro ⟨y, hy, h2, h3, h4⟩
    obtain ⟨n', hn', hle'⟩ := h.up y hy h3
    rw [h2, hn] at hn'
    injection hn' with hn'
    simp
    omega
theorem useless_iff {ok : Bool} {high time now hor : Int} {l : List Cr.Batch} {x : Cr.Rec} (hx : x ∈ recsOf l) : useless ⟨ok, high, lastL high l, time, now, hor⟩ x = true ↔ Use ok high (recsOf l) time now hor x := by
  unfold useless Use
  simp only [Bool.and_eq_true, Bool.or_eq_true, decide_eq_true_eq]
  constructor
  · rintro ⟨h1, h2, h3, h4⟩
    refine ⟨h1, h2, h3, ?_⟩
    rcases h4 with h4 | h4
    · exact .inl ((late_iff hx h3).1 h4)
    · exact .inr h4
  · rintro ⟨h1, h2, h3, h4⟩
    refine ⟨h1, h2, h3, ?_⟩
    rcases h4 with h4 | h4
    · exact .inl ((late_iff hx h3).2 h4)
    · exact .inr h4
theorem mem_thin {l : List Cr.Batch} {high now hor : Int} {b' : Cr.Batch} : b' ∈ thin l high now hor ↔ ∃ b ∈ l, b' = thinB (isT now && isT hor) high (lastL high l) now hor b := by
  simp only [thin, List.mem_map]
  exact ⟨fun ⟨b, h1, h2⟩ => ⟨b, h1, h2.symm⟩, fun ⟨b, h1, h2⟩ => ⟨b, h1, h2.symm⟩⟩
theorem mem_recs_thin {l : List Cr.Batch} {high now hor : Int} {x : Cr.Rec} : x ∈ recsOf (thin l high now hor) ↔ ∃ b ∈ l, x ∈ b.recs ∧ ¬ Use (isT now && isT hor) high (recsOf l) b.time now hor x := by
  rw [mem_recsOf]
  constructor
  · rintro ⟨b', hb', hx⟩
    obtain ⟨b, hb, rfl⟩ := mem_thin.1 hb'
    simp only [thinB, List.mem_filter, Bool.not_eq_true', ← Bool.not_eq_true] at hx
    exact ⟨b, hb, hx.1, fun h => hx.2 ((useless_iff (mem_recsOf.2 ⟨b, hb, hx.1⟩)).2 h)⟩
  · rintro ⟨b, hb, hx, hn⟩
    refine ⟨_, mem_thin.2 ⟨b, hb, rfl⟩, ?_⟩
    simp only [thinB, List.mem_filter, Bool.not_eq_true', ← Bool.not_eq_true]
    exact ⟨hx, fun h => hn ((useless_iff (mem_recsOf.2 ⟨b, hb, hx⟩)).1 h)⟩
theorem thin_sub {l : List Cr.Batch} {high now hor : Int} {x : Cr.Rec} (h : x ∈ recsOf (thin l high now hor)) : x ∈ recsOf l := by
  obtain ⟨b, hb, hx, _⟩ := mem_recs_thin.1 h
  exact mem_recsOf.2 ⟨b, hb, hx⟩
/-- The greatest of a key below an offset. -/
theorem greatest {high : Int} {l : List Cr.Batch} {x : Cr.Rec} (hx : x ∈ recsOf l) (hh : x.off < high) : ∃ y ∈ recsOf l, y.key = x.key ∧ y.off < high ∧ x.off ≤ y.off ∧ ∀ z ∈ recsOf l, z.key = x.key → z.off < high → z.off ≤ y.off := by
  have h := lastL_of high l
  obtain ⟨n, hn, hle⟩ := h.up x hx hh
  obtain ⟨y, hy, h2, h3, h4⟩ := h.at_ _ _ hn
  refine ⟨y, hy, h2, by omega, by omega, fun z hz hk hzh => ?_⟩
  obtain ⟨n', hn', hle'⟩ := h.up z hz hzh
  rw [hk, hn] at hn'
  injection hn' with hn'
  omega
/-- Thinned bit by bit as at once. -/
theorem thin_thin (l : List Cr.Batch) {a b now later hor : Int} (hab : a ≤ b) (hnl : now ≤ later) (h1 : (isT now && isT hor) = true) (h2 : (isT later && isT hor) = true) : thin (thin l a now hor) b later hor = thin l b later hor := by
  have hmap : ∀ b0 ∈ l, thinB (isT later && isT hor) b (lastL b (thin l a now hor)) later hor (thinB (isT now && isT hor) a (lastL a l) now hor b0) = thinB (isT later && isT hor) b (lastL b l) later hor b0 := by
    intro b0 hb0
    simp only [thinB, List.filter_filter]
    congr 1
    refine List.filter_congr (fun x hx => ?_)
    have hxl : x ∈ recsOf l := mem_recsOf.2 ⟨b0, hb0, hx⟩
    rw [Bool.eq_iff_iff]
    simp only [Bool.and_eq_true, Bool.not_eq_true', ← Bool.not_eq_true]
    rw [useless_iff hxl, useless_iff hxl]
    constructor
    · rintro ⟨hn2, hn1⟩ hu
      have hxt : x ∈ recsOf (thin l a now hor) := mem_recs_thin.2 ⟨b0, hb0, hx, hn1⟩
      rw [useless_iff hxt] at hn2
      obtain ⟨_, hk, hxb, hor4⟩ := hu
      rcases hor4 with ⟨y0, hy0, hyk, hyb, hxy⟩ | hg
      · obtain ⟨y, hy, hk2, hyb2, hle, hmax⟩ := greatest hxl hxb
        have hxy2 : x.off < y.off := by have := hmax y0 hy0 hyk hyb; omega
        obtain ⟨by0, hby, hyr⟩ := mem_recsOf.1 hy
        by_cases hyt : Use (isT now && isT hor) a (recsOf l) by0.time now hor y
        · obtain ⟨_, hyk3, hya, hyo⟩ := hyt
          exact hn1 ⟨h1, hk, by omega, .inl ⟨y, hy, hk2, hya, hxy2⟩⟩
        · exact hn2 ⟨h2, hk, hxb, .inl ⟨y, mem_recs_thin.2 ⟨by0, hby, hyr, hyt⟩, hk2, hyb2, hxy2⟩⟩
      · exact hn2 ⟨h2, hk, hxb, .inr hg⟩
    · intro hnu
      have hn1 : ¬ Use (isT now && isT hor) a (recsOf l) b0.time now hor x := by
        rintro ⟨_, hk, hxa, ho⟩
        refine hnu ⟨h2, hk, by omega, ?_⟩
        rcases ho with ⟨y, hy, hyk, hya, hxy⟩ | ⟨hg, ht⟩
        · exact .inl ⟨y, hy, hyk, by omega, hxy⟩
        · exact .inr ⟨hg, by omega⟩
      refine ⟨?_, hn1⟩
      have hxt : x ∈ recsOf (thin l a now hor) := mem_recs_thin.2 ⟨b0, hb0, hx, hn1⟩
      rw [useless_iff hxt]
      rintro ⟨h3, hk, hxb, ho⟩
      refine hnu ⟨h3, hk, hxb, ?_⟩
      rcases ho with ⟨y, hy, hyk, hya, hxy⟩ | hg
      · exact .inl ⟨y, thin_sub hy, hyk, hya, hxy⟩
      · exact .inr hg
  show (thin l a now hor).map _ = l.map _
  rw [thin, List.map_map]
  exact List.map_congr_left hmap

end Go.Proofs.Ytccndbifnbmddaa
