/-
  What a fold holds, plainly; the fold of what is left.
  Conditions: none.
-/
import Derived.Test.YtccndbifnbmddaaXf
set_option linter.unusedVariables false
set_option linter.unusedSimpArgs false
namespace Go.Proofs.Ytccndbifnbmddaa

theorem foldL_flat (upto : Int) (l : List Cr.Batch) : foldL upto l = (recsOf l).foldl (foldStep upto) [] := foldl_flat (foldStep upto) (foldB upto) (fun _ _ => rfl) l []
theorem lookR_mem {m : RM} {k : List UInt8} {x : Cr.Rec} (h : lookR m k = some x) : (k, x) ∈ m := by
  induction m with
  | nil => simp [lookR] at h
  | cons q r ih =>
    rw [lookR] at h
    split at h
    · rename_i e
      injection h with h
      obtain ⟨q1, q2⟩ := q
      dsimp only at e h
      subst e h
      simp
    · exact List.mem_cons_of_mem _ (ih h)
theorem lookR_of_mem {m : RM} (hn : (m.map (·.1)).Nodup) {k : List UInt8} {x : Cr.Rec} (h : (k, x) ∈ m) : lookR m k = some x := by
  induction m with
  | nil => cases h
  | cons q r ih =>
    simp only [List.map_cons, List.nodup_cons] at hn
    rcases List.mem_cons.1 h with h | h
    · subst h; simp [lookR]
    · rw [lookR, if_neg (fun e => hn.1 (by rw [e]; exact List.mem_map_of_mem (f := (·.1)) h))]
      exact ih hn.2 h
theorem updR_keys {m : RM} (hn : (m.map (·.1)).Nodup) (k : List UInt8) (x : Cr.Rec) : ((updR m k x).map (·.1)).Nodup ∧ ∀ q, q ∈ updR m k x ↔ (q = (k, x) ∨ (q ∈ m ∧ q.1 ≠ k)) := by
  induction m with
  | nil => simp [updR]
  | cons a r ih =>
    simp only [List.map_cons, List.nodup_cons] at hn
    obtain ⟨h1, h2⟩ := ih hn.2
    rw [updR]
    split
    · rename_i e
      subst e
      refine ⟨by simpa using hn, fun q => ?_⟩
      constructor
      · intro h
        rcases List.mem_cons.1 h with h | h
        · exact .inl h
        · exact .inr ⟨List.mem_cons_of_mem _ h, fun e => hn.1 (e ▸ List.mem_map_of_mem (f := (·.1)) h)⟩
      · rintro (h | ⟨h, hk⟩)
        · simp [h]
        · rcases List.mem_cons.1 h with h | h
          · exact absurd (by rw [h]) hk
          · exact List.mem_cons_of_mem _ h
    · rename_i e
      refine ⟨?_, fun q => ?_⟩
      · simp only [List.map_cons, List.nodup_cons]
        refine ⟨fun hm => ?_, h1⟩
        obtain ⟨q, hq, hqe⟩ := List.mem_map.1 hm
        rcases (h2 q).1 hq with h | ⟨h, _⟩
        · exact e (by rw [← hqe, h])
        · exact hn.1 (by rw [← hqe]; exact List.mem_map_of_mem (f := (·.1)) h)
      · rw [List.mem_cons, h2, List.mem_cons]
        constructor
        · rintro (h | h | ⟨h, h3⟩)
          · subst h; exact .inr ⟨.inl rfl, e⟩
          · exact .inl h
          · exact .inr ⟨.inr h, h3⟩
        · rintro (h | ⟨h | h, h3⟩)
          · exact .inr (.inl h)
          · exact .inl h
          · exact .inr (.inr ⟨h, h3⟩)
structure FoldOf (upto : Int) (R : List Cr.Rec) (m : RM) : Prop where
  nod : (m.map (·.1)).Nodup
  mem : ∀ q ∈ m, q.1 = q.2.key ∧ q.1 ≠ [] ∧ q.2 ∈ R ∧ q.2.off < upto
  up : ∀ x ∈ R, x.key ≠ [] → x.off < upto → ∃ y, lookR m x.key = some y ∧ x.off ≤ y.off
theorem foldStep_of {upto : Int} {R : List Cr.Rec} {m : RM} (h : FoldOf upto R m) (x : Cr.Rec) : FoldOf upto (R ++ [x]) (foldStep upto m x) := by
  unfold foldStep
  by_cases hn : foldNew upto m x = true
  · rw [if_pos hn]
    simp only [foldNew, Bool.and_eq_true, decide_eq_true_eq] at hn
    obtain ⟨h0, h1, h2⟩ := hn
    obtain ⟨hk1, hk2⟩ := updR_keys h.nod x.key x
    refine ⟨hk1, fun q hq => ?_, fun y hy hyk hyh => ?_⟩
    · rcases (hk2 q).1 hq with e | ⟨hq, _⟩
      · subst e; exact ⟨rfl, h0, by simp, h1⟩
      · obtain ⟨a, b, c, d⟩ := h.mem q hq
        exact ⟨a, b, by simp [c], d⟩
    · by_cases e : y.key = x.key
      · rw [e, lookR_same]
        refine ⟨_, rfl, ?_⟩
        rcases List.mem_append.1 hy with h3 | h3
        · obtain ⟨z, hz, hle⟩ := h.up y h3 hyk hyh
          rw [e] at hz
          rw [hz] at h2
          simp only [decide_eq_true_eq] at h2
          omega
        · rw [List.mem_singleton.1 h3]; omega
      · rw [lookR_other _ _ e]
        rcases List.mem_append.1 hy with h3 | h3
        · exact h.up y h3 hyk hyh
        · exact absurd (by rw [List.mem_singleton.1 h3]) e
  · rw [if_neg hn]
    refine ⟨h.nod, fun q hq => ?_, fun y hy hyk hyh => ?_⟩
    · obtain ⟨a, b, c, d⟩ := h.mem q hq
      exact ⟨a, b, by simp [c], d⟩
    · rcases List.mem_append.1 hy with h3 | h3
      · exact h.up y h3 hyk hyh
      · obtain rfl := List.mem_singleton.1 h3
        simp only [foldNew, Bool.and_eq_true, decide_eq_true_eq, not_and] at hn
        have h4 := hn hyk hyh
        cases hl : lookR m y.key with
        | none => rw [hl] at h4; simp at h4
        | some z => rw [hl] at h4; simp only [decide_eq_true_eq] at h4; exact ⟨z, rfl, by omega⟩
theorem foldFold_of (upto : Int) : ∀ (S R : List Cr.Rec) (m : RM), FoldOf upto R m → FoldOf upto (R ++ S) (S.foldl (foldStep upto) m) := by
  intro S
  induction S with
  | nil => intro R m h; simpa using h
  | cons x S ih =>
    intro R m h
    have := ih (R ++ [x]) _ (foldStep_of h x)
    rw [List.foldl_cons]
    simpa using this
theorem foldL_of (upto : Int) (l : List Cr.Batch) : FoldOf upto (recsOf l) (foldL upto l) := by
  rw [foldL_flat]
  have := foldFold_of upto (recsOf l) [] [] ⟨by simp, fun q hq => (by simp at hq), fun x hx => (by simp at hx)⟩
  simpa using this
/-- Offsets tell records apart. -/
def Inj (R : List Cr.Rec) : Prop := ∀ x ∈ R, ∀ y ∈ R, x.off = y.off → x = y
/-- The last of its key, and not Gone. -/
def Live (upto : Int) (R : List Cr.Rec) (x : Cr.Rec) : Prop := x ∈ R ∧ x.key ≠ [] ∧ x.off < upto ∧ x.gone = false ∧ ∀ z ∈ R, z.key = x.key → z.off < upto → z.off ≤ x.off
theorem live_iff {upto : Int} {l : List Cr.Batch} (hi : Inj (recsOf l)) (x : Cr.Rec) : x ∈ (liveR (foldL upto l)).map (·.2) ↔ Live upto (recsOf l) x := by
  have h := foldL_of upto l
  simp only [List.mem_map, liveR, List.mem_filter, Bool.not_eq_true']
  constructor
  · rintro ⟨q, ⟨hq, hg⟩, rfl⟩
    obtain ⟨a, b, c, d⟩ := h.mem q hq
    refine ⟨c, a ▸ b, d, hg, fun z hz hk hh => ?_⟩
    obtain ⟨y, hy, hle⟩ := h.up z hz (by rw [hk, ← a]; exact b) hh
    have h2 : lookR (foldL upto l) q.1 = some q.2 := lookR_of_mem h.nod hq
    rw [hk, ← a, h2] at hy
    injection hy with hy
    rw [hy]; exact hle
  · rintro ⟨hx, hk, hh, hg, hm⟩
    obtain ⟨y, hy, hle⟩ := h.up x hx hk hh
    have hmem := lookR_mem hy
    obtain ⟨a, b, c, d⟩ := h.mem _ hmem
    dsimp only at a b c d
    have := hm y c a.symm d
    have e := hi x hx y c (by omega)
    subst e
    exact ⟨_, ⟨hmem, hg⟩, rfl⟩
/-- What a fold gives. -/
def FoldRes (upto : Int) (R : List Cr.Rec) (f : List Cr.Rec) : Prop := (∀ x, x ∈ f ↔ Live upto R x) ∧ f.Pairwise (fun a b => a.key < b.key)
theorem strict_of {f : List Cr.Rec} (hs : SortedR f) (hn : (f.map (·.key)).Nodup) : f.Pairwise (fun a b => a.key < b.key) := by
  have h2 : f.Pairwise (fun a b => a.key ≠ b.key) := List.pairwise_map.1 hn
  refine (List.Pairwise.and hs h2).imp (fun {a b} h => ?_)
  rcases List.le_iff_lt_or_eq.1 (List.not_lt.1 h.1) with h3 | h3
  · exact h3
  · exact absurd h3 h.2
theorem live_keys (upto : Int) (l : List Cr.Batch) : (((liveR (foldL upto l)).map (·.2)).map (·.key)).Nodup := by
  have h := foldL_of upto l
  rw [List.map_map]
  have e : (liveR (foldL upto l)).map ((·.key) ∘ (·.2)) = (liveR (foldL upto l)).map (·.1) := List.map_congr_left (fun q hq => (h.mem q (List.mem_filter.1 hq).1).1.symm)
  rw [e]
  exact h.nod.sublist (List.filter_sublist.map _)
theorem foldRes {upto : Int} {l : List Cr.Batch} (hi : Inj (recsOf l)) {f : List Cr.Rec} (hp : f.Perm ((liveR (foldL upto l)).map (·.2))) (hs : SortedR f) : FoldRes upto (recsOf l) f :=
  ⟨fun x => (hp.mem_iff).trans (live_iff hi x), strict_of hs ((hp.map (·.key)).nodup_iff.2 (live_keys upto l))⟩
theorem sorted_ext : ∀ {a b : List Cr.Rec}, a.Pairwise (fun x y => x.key < y.key) → b.Pairwise (fun x y => x.key < y.key) → (∀ x, x ∈ a ↔ x ∈ b) → a = b := by
  intro a
  induction a with
  | nil =>
    intro b _ _ h
    cases b with
    | nil => rfl
    | cons y b => exact absurd ((h y).2 (by simp)) (by simp)
  | cons x a ih =>
    intro b ha hb h
    cases b with
    | nil => exact absurd ((h x).1 (by simp)) (by simp)
    | cons y b =>
      rw [List.pairwise_cons] at ha hb
      have hxy : x = y := by
        rcases List.mem_cons.1 ((h x).1 (by simp)) with e | h1
        · exact e
        · rcases List.mem_cons.1 ((h y).2 (by simp)) with e | h2
          · exact e.symm
          · exact absurd (hb.1 x h1) (List.lt_asymm (ha.1 y h2))
      subst hxy
      congr 1
      refine ih ha.2 hb.2 (fun z => ?_)
      constructor
      · intro hz
        rcases List.mem_cons.1 ((h z).1 (List.mem_cons_of_mem _ hz)) with e | h1
        · subst e; exact absurd (ha.1 z hz) (List.lt_irrefl _)
        · exact h1
      · intro hz
        rcases List.mem_cons.1 ((h z).2 (List.mem_cons_of_mem _ hz)) with e | h1
        · subst e; exact absurd (hb.1 z hz) (List.lt_irrefl _)
        · exact h1
theorem FoldRes.eq {upto : Int} {R R' f g : List Cr.Rec} (h : FoldRes upto R f) (h' : FoldRes upto R' g) (hl : ∀ x, Live upto R x ↔ Live upto R' x) : f = g :=
  sorted_ext h.2 h'.2 (fun x => (h.1 x).trans ((hl x).trans (h'.1 x).symm))
/-- What is left folds to the same. -/
theorem live_thin {l : List Cr.Batch} {high now hor upto : Int} (hu : high ≤ upto) (x : Cr.Rec) : Live upto (recsOf (thin l high now hor)) x ↔ Live upto (recsOf l) x := by
  constructor
  · rintro ⟨hx, hk, hh, hg, hm⟩
    have hxl := thin_sub hx
    refine ⟨hxl, hk, hh, hg, fun z hz hzk hzh => ?_⟩
    apply Classical.byContradiction
    intro hlt
    obtain ⟨y, hy, hyk, hyh, hle, hmax⟩ := greatest hxl hh
    have hzy := hmax z hz hzk hzh
    obtain ⟨b, hb, hyr⟩ := mem_recsOf.1 hy
    by_cases hu2 : Use (isT now && isT hor) high (recsOf l) b.time now hor y
    · obtain ⟨b2, hb2, hxr, hnx⟩ := mem_recs_thin.1 hx
      exact hnx ⟨hu2.1, hk, by have := hu2.2.2.1; omega, .inl ⟨y, hy, hyk, hu2.2.2.1, by omega⟩⟩
    · have := hm y (mem_recs_thin.2 ⟨b, hb, hyr, hu2⟩) hyk hyh
      omega
  · rintro ⟨hx, hk, hh, hg, hm⟩
    obtain ⟨b, hb, hxr⟩ := mem_recsOf.1 hx
    refine ⟨mem_recs_thin.2 ⟨b, hb, hxr, ?_⟩, hk, hh, hg, fun z hz => hm z (thin_sub hz)⟩
    rintro ⟨_, _, h1, h2⟩
    rcases h2 with ⟨y, hy, hyk, hyh, hlt⟩ | ⟨h3, _⟩
    · have := hm y hy hyk (by omega)
      omega
    · rw [hg] at h3; cases h3
theorem Inj.thin {l : List Cr.Batch} (h : Inj (recsOf l)) (high now hor : Int) : Inj (recsOf (thin l high now hor)) := fun x hx y hy e => h x (thin_sub hx) y (thin_sub hy) e
theorem inj_rising (recs : List Cr.Rec) (ts : List Int) : Inj (recsOf (rising recs ts)) := by
  have key : ∀ x ∈ recsOf (rising recs ts), ∃ (i : Nat) (r : Cr.Rec), recs[i]? = some r ∧ x = { r with off := (i : Int) } := fun x hx => by
    obtain ⟨b, hb, hxr⟩ := mem_recsOf.1 hx
    obtain ⟨i, r, _, hr, rfl⟩ := mem_risL hb
    simp only [risB, List.mem_singleton] at hxr
    exact ⟨i, r, hr, hxr⟩
  intro x hx y hy e
  obtain ⟨i, r, hr, rfl⟩ := key x hx
  obtain ⟨j, s, hs, rfl⟩ := key y hy
  dsimp only at e
  have : i = j := by omega
  subst this
  rw [hr] at hs
  injection hs with hs
  rw [hs]

end Go.Proofs.Ytccndbifnbmddaa
