/-
  What On leaves, said plainly.
  Conditions: none.
-/
import Derived.Test.YtohimlahncbpjaaTu
set_option linter.unusedVariables false
set_option linter.unusedSimpArgs false
namespace Go.Proofs.Ytohimlahncbpjaa
open Go.RowKit

theorem names_modF (fs : List TF) (a : List UInt8) (fates : List Int) (n : Nat) : (modF fs a (onF fates n)).map (·.name) = fs.map (·.name) := by
  have := congrArg keysL (fmap_modF fs a (onF fates n) (onF_same fates n))
  rwa [keys_fmap, keys_fmap] at this
theorem onGo_ok (fates : List Int) {room : Int} {names : List (List UInt8)} (hn : names.Nodup) : ∀ (ns : List (List UInt8)) (n : Nat) (fs : List TF), OnOk room fs names → OnOk room (onGo fates ns n fs) names := by
  intro ns
  induction ns with
  | nil => intro n fs h; exact h
  | cons a r ih =>
    intro n fs h
    have hnf : (fs.map (·.name)).Nodup := by rw [h.nm]; exact hn
    rw [onGo]
    cases hg : getF fs a with
    | none => exact ih n fs h
    | some f =>
      show OnOk room (if f.data.length = f.safe then _ else _) names
      split
      · exact ih n fs h
      · exact ih (n + 1) _ (onOk_step h hnf hg fates n)
theorem onGo_safe (fates : List Int) {room : Int} {names : List (List UInt8)} (hn : names.Nodup) : ∀ (ns : List (List UInt8)) (n : Nat) (fs : List TF), OnOk room fs names → (∀ f ∈ fs, f.name ∈ ns ∨ f.safe = f.data.length) → ∀ f ∈ onGo fates ns n fs, f.safe = f.data.length := by
  intro ns
  induction ns with
  | nil =>
    intro n fs h hf f hm
    exact (hf f hm).resolve_left (by simp)
  | cons a r ih =>
    intro n fs h hf
    have hnf : (fs.map (·.name)).Nodup := by rw [h.nm]; exact hn
    rw [onGo]
    cases hg : getF fs a with
    | none =>
      refine ih n fs h (fun f hm => ?_)
      rcases hf f hm with h1 | h1
      · rcases List.mem_cons.1 h1 with h2 | h2
        · exact absurd h2 (getF_none hg f hm)
        · exact .inl h2
      · exact .inr h1
    | some f0 =>
      show ∀ f ∈ (if f0.data.length = f0.safe then _ else _), _
      split
      · rename_i he
        refine ih n fs h (fun f hm => ?_)
        rcases hf f hm with h1 | h1
        · rcases List.mem_cons.1 h1 with h2 | h2
          · right
            have : getF fs f.name = some f0 := by rw [h2]; exact hg
            obtain ⟨hm0, hn0⟩ := getF_mem this
            have hff : f = f0 := by
              have hnd := hnf
              have key : ∀ (l : List TF), (l.map (·.name)).Nodup → f ∈ l → f0 ∈ l → f0.name = f.name → f = f0 := by
                intro l
                induction l with
                | nil => intro _ h; cases h
                | cons y l ihl =>
                  intro hnd h1 h2 he
                  simp only [List.map_cons, List.nodup_cons] at hnd
                  rcases List.mem_cons.1 h1 with e1 | e1
                  · rcases List.mem_cons.1 h2 with e2 | e2
                    · rw [e1, e2]
                    · exact absurd (List.mem_map.2 ⟨f0, e2, by rw [he, e1]⟩) hnd.1
                  · rcases List.mem_cons.1 h2 with e2 | e2
                    · exact absurd (List.mem_map.2 ⟨f, e1, by rw [← he, e2]⟩) hnd.1
                    · exact ihl hnd.2 e1 e2 he
              exact key fs hnd hm hm0 hn0
            rw [hff]; exact he.symm
          · exact .inl h2
        · exact .inr h1
      · rename_i he
        refine ih (n + 1) _ (onOk_step h hnf hg fates n) (fun f hm => ?_)
        rcases mem_modF hnf hm with ⟨f1, h1, rfl⟩ | ⟨h1, h2⟩
        · right
          rw [hg] at h1; injection h1 with h1; subst h1
          have := onLen_le fates f0 n (h.safe f0 (getF_mem hg).1)
          simp only [onF, List.length_take]
          omega
        · rcases hf f h1 with h3 | h3
          · rcases List.mem_cons.1 h3 with h4 | h4
            · exact absurd h4 h2
            · exact .inl h4
          · exact .inr h3
theorem onGo_id (fates : List Int) : ∀ (ns : List (List UInt8)) (n : Nat) (fs : List TF), (∀ f ∈ fs, f.safe = f.data.length) → onGo fates ns n fs = fs := by
  intro ns
  induction ns with
  | nil => intro n fs _; rfl
  | cons a r ih =>
    intro n fs h
    rw [onGo]
    cases hg : getF fs a with
    | none => exact ih n fs h
    | some f =>
      show (if f.data.length = f.safe then _ else _) = _
      rw [if_pos (h f (getF_mem hg).1).symm]
      exact ih n fs h
/-- Each file has a beginning of what it had, and all that was safe. -/
theorem onGo_pre (fates : List Int) {room : Int} {names : List (List UInt8)} (hn : names.Nodup) : ∀ (ns : List (List UInt8)) (n : Nat) (fs : List TF), OnOk room fs names → ∀ a f', getF (onGo fates ns n fs) a = some f' → ∃ f, getF fs a = some f ∧ f'.data <+: f.data ∧ f.safe ≤ f'.data.length := by
  intro ns
  induction ns with
  | nil =>
    intro n fs h a f' hf
    exact ⟨f', hf, List.prefix_refl _, h.safe f' (getF_mem hf).1⟩
  | cons b r ih =>
    intro n fs h a f' hf
    have hnf : (fs.map (·.name)).Nodup := by rw [h.nm]; exact hn
    rw [onGo] at hf
    cases hg : getF fs b with
    | none => rw [hg] at hf; exact ih n fs h a f' hf
    | some f0 =>
      rw [hg] at hf
      dsimp only at hf
      split at hf
      · exact ih n fs h a f' hf
      · obtain ⟨f1, h1, h2, h3⟩ := ih (n + 1) _ (onOk_step h hnf hg fates n) a f' hf
        by_cases e : a = b
        · subst e
          rw [getF_modF_same (onF_same fates n) hg] at h1
          injection h1 with h1
          subst h1
          refine ⟨f0, hg, h2.trans (List.take_prefix _ _), ?_⟩
          have := onLen_le fates f0 n (h.safe f0 (getF_mem hg).1)
          simp only [onF] at h3
          omega
        · rw [getF_modF_other (onF_same fates n) e] at h1
          exact ⟨f1, h1, h2, h3⟩
theorem onGo_some (fates : List Int) {room : Int} {names : List (List UInt8)} (hn : names.Nodup) (ns : List (List UInt8)) (n : Nat) (fs : List TF) (h : OnOk room fs names) {a : List UInt8} {f : TF} (hf : getF fs a = some f) : ∃ f', getF (onGo fates ns n fs) a = some f' := by
  have h2 := onGo_ok fates hn ns n fs h
  cases hg : getF (onGo fates ns n fs) a with
  | some f' => exact ⟨f', rfl⟩
  | none =>
    obtain ⟨h3, h4⟩ := getF_mem hf
    have : a ∈ names := by rw [← h.nm, ← h4]; exact List.mem_map_of_mem (f := (·.name)) h3
    rw [← h2.nm] at this
    obtain ⟨x, hx, hxe⟩ := List.mem_map.1 this
    exact absurd hxe (getF_none hg x hx)
theorem onT_ok {t : Tp} (h : TapeOk t) (hn : (t.files.map (·.name)).Nodup) (fates : List Int) (ns : List (List UInt8)) : TapeOk { t with down := false, files := onGo fates ns 0 t.files } ∧ OnOk t.room (onGo fates ns 0 t.files) (t.files.map (·.name)) := by
  have h2 := onGo_ok fates hn ns 0 t.files ⟨h.tot, h.safe, rfl⟩
  refine ⟨⟨h.r0, h.r1, h2.tot, h2.safe, h.a0, h.a1, h.m0, h.m1, h.l0, h.l1, fun f hf => ?_, ?_⟩, h2⟩
  · have : f.name ∈ t.files.map (·.name) := by rw [← h2.nm]; exact List.mem_map_of_mem (f := (·.name)) hf
    obtain ⟨g, hg, he⟩ := List.mem_map.1 this
    rw [← he]; exact h.nm g hg
  · have := congrArg List.length h2.nm
    simp only [List.length_map] at this
    show (onGo fates ns 0 t.files).length ≤ 256
    rw [this]; exact h.cnt
theorem offT_ok {t : Tp} (h : TapeOk t) (hl : t.life < 1000000000) : TapeOk (offT t) := by
  obtain ⟨h1, h2, h3, h4, h5, h6, h7, h8, h9, h10, h11, h12⟩ := h
  unfold offT
  split
  · exact ⟨h1, h2, h3, h4, h5, h6, h7, h8, h9, h10, h11, h12⟩
  · exact ⟨h1, h2, h3, h4, h5, h6, (by show (0 : Int) ≤ 0; omega), (by show (0 : Int) ≤ 9223372036854775807; omega), (by show (0 : Int) ≤ t.life + 1; omega), (by show t.life + 1 ≤ 1000000000; omega), h11, h12⟩
theorem offT_more (t : Tp) : (offT t).down = true ∧ (offT t).files = t.files ∧ (offT t).room = t.room ∧ (t.down = false → (offT t).life = t.life + 1 ∧ (offT t).armed = 0) ∧ (t.down = true → offT t = t) := by
  unfold offT
  cases hd : t.down with
  | true => exact ⟨hd, rfl, rfl, fun h => (by cases h), fun _ => rfl⟩
  | false => exact ⟨rfl, rfl, rfl, fun _ => ⟨rfl, rfl⟩, fun h => (by cases h)⟩

end Go.Proofs.Ytohimlahncbpjaa
