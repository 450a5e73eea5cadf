/-
  A tape in memory: its form, what it holds. No walk here.
-/
import Derived.Test.YtohimlahncbpjaaMp
import Derived.Test.YtohimlahncbpjaaAst
set_option linter.unusedVariables false
set_option linter.unusedSimpArgs false
namespace Go.Proofs.Ytohimlahncbpjaa
open Go.RowKit

/-- A file: its name, its bytes, how many are safe, its block. -/
structure TF where
  name : List UInt8
  data : List UInt8
  safe : Nat
  blk : Nat
/-- A tape. -/
structure Tp where
  files : List TF
  room : Int
  down : Bool
  acts : Int
  armed : Int
  life : Int
def Tp.cells (m : Nat) (t : Tp) : List Value := [.map (some m), .int .i64 t.room, .bool t.down, .int .i64 t.acts, .int .i64 t.armed, .int .i64 t.life]
abbrev TF.ptr (f : TF) : Value := .pointer (some ⟨f.blk, 0, none⟩)
def TF.cells (f : TF) : List Value := [.string ⟨f.data.toArray⟩, .int .i64 f.safe]
def fmap (fs : List TF) : MapL := fs.map fun f => (f.name, f.ptr)
def getF : List TF → List UInt8 → Option TF
  | [], _ => none
  | f :: r, n => if f.name = n then some f else getF r n
def total (fs : List TF) : Nat := (fs.map fun f => f.data.length).sum
/-- The file of a name is another one. -/
def modF : List TF → List UInt8 → (TF → TF) → List TF
  | [], _, _ => []
  | f :: r, n, g => if f.name = n then g f :: r else f :: modF r n g
theorem look_fmap (fs : List TF) (n : List UInt8) : look (fmap fs) n = (getF fs n).map TF.ptr := by
  induction fs with
  | nil => rfl
  | cons f r ih =>
    simp only [fmap, List.map_cons, look, getF] at ih ⊢
    split
    · rfl
    · exact ih
theorem getF_mem {fs : List TF} {n : List UInt8} {f : TF} (h : getF fs n = some f) : f ∈ fs ∧ f.name = n := by
  induction fs with
  | nil => cases h
  | cons g r ih =>
    rw [getF] at h
    split at h
    · injection h with h; subst h
      exact ⟨List.mem_cons_self, by assumption⟩
    · exact ⟨List.mem_cons_of_mem _ (ih h).1, (ih h).2⟩
theorem getF_none {fs : List TF} {n : List UInt8} (h : getF fs n = none) : ∀ f ∈ fs, f.name ≠ n := by
  induction fs with
  | nil => intro f hf; cases hf
  | cons g r ih =>
    rw [getF] at h
    split at h
    · cases h
    · intro f hf
      rcases List.mem_cons.1 hf with rfl | hf
      · assumption
      · exact ih h f hf
theorem keys_fmap (fs : List TF) : keysL (fmap fs) = fs.map (·.name) := by
  simp [keysL, fmap, Function.comp_def]
theorem fmap_modF (fs : List TF) (n : List UInt8) (g : TF → TF) (hg : ∀ f, (g f).name = f.name ∧ (g f).blk = f.blk) : fmap (modF fs n g) = fmap fs := by
  induction fs with
  | nil => rfl
  | cons f r ih =>
    rw [modF]
    split
    · simp [fmap, (hg f).1, (hg f).2]
    · simp only [fmap, List.map_cons] at ih ⊢
      rw [ih]
theorem blk_modF (fs : List TF) (n : List UInt8) (g : TF → TF) (hg : ∀ f, (g f).name = f.name ∧ (g f).blk = f.blk) : (modF fs n g).map (·.blk) = fs.map (·.blk) := by
  induction fs with
  | nil => rfl
  | cons f r ih =>
    rw [modF]
    split
    · simp [(hg f).2]
    · simp only [List.map_cons]
      rw [ih]
theorem mem_modF {fs : List TF} (hn : (fs.map (·.name)).Nodup) {n : List UInt8} {g : TF → TF} {f : TF} (h : f ∈ modF fs n g) : (∃ f0, getF fs n = some f0 ∧ f = g f0) ∨ (f ∈ fs ∧ f.name ≠ n) := by
  induction fs with
  | nil => cases h
  | cons f1 r ih =>
    simp only [List.map_cons, List.nodup_cons] at hn
    rw [modF] at h
    by_cases e : f1.name = n
    · rw [if_pos e] at h
      rcases List.mem_cons.1 h with rfl | h
      · left; exact ⟨f1, by rw [getF, if_pos e], rfl⟩
      · right
        exact ⟨List.mem_cons_of_mem _ h, fun e2 => hn.1 (List.mem_map.2 ⟨f, h, by rw [e2, e]⟩)⟩
    · rw [if_neg e] at h
      rcases List.mem_cons.1 h with rfl | h
      · right; exact ⟨List.mem_cons_self, e⟩
      · rcases ih hn.2 h with ⟨f0, h1, h2⟩ | ⟨h1, h2⟩
        · left; exact ⟨f0, by rw [getF, if_neg e, h1], h2⟩
        · right; exact ⟨List.mem_cons_of_mem _ h1, h2⟩
theorem getF_modF_same {fs : List TF} {n : List UInt8} {g : TF → TF} {f : TF} (hg : ∀ f, (g f).name = f.name ∧ (g f).blk = f.blk) (h : getF fs n = some f) : getF (modF fs n g) n = some (g f) := by
  induction fs with
  | nil => cases h
  | cons f1 r ih =>
    rw [getF] at h
    rw [modF]
    by_cases e : f1.name = n
    · rw [if_pos e] at h ⊢
      injection h with h; subst h
      rw [getF, if_pos (by rw [(hg _).1]; exact e)]
    · rw [if_neg e] at h ⊢
      rw [getF, if_neg e]
      exact ih h
theorem getF_modF_other {fs : List TF} {n n' : List UInt8} {g : TF → TF} (hg : ∀ f, (g f).name = f.name ∧ (g f).blk = f.blk) (h : n' ≠ n) : getF (modF fs n g) n' = getF fs n' := by
  induction fs with
  | nil => rfl
  | cons f1 r ih =>
    rw [modF]
    by_cases e : f1.name = n
    · rw [if_pos e, getF, getF, if_neg (by rw [(hg _).1]; exact fun e2 => h (e2.symm.trans e)), if_neg (fun e2 => h (e2.symm.trans e))]
    · rw [if_neg e, getF, getF, ih]
theorem getF_append (fs gs : List TF) (n : List UInt8) : getF (fs ++ gs) n = (getF fs n).or (getF gs n) := by
  induction fs with
  | nil => simp [getF]
  | cons f r ih =>
    rw [List.cons_append, getF, getF]
    split
    · rfl
    · exact ih
theorem total_modF {fs : List TF} {n : List UInt8} {g : TF → TF} {f : TF} (h : getF fs n = some f) : total (modF fs n g) + f.data.length = total fs + (g f).data.length := by
  induction fs with
  | nil => cases h
  | cons f1 r ih =>
    rw [getF] at h
    rw [modF]
    by_cases e : f1.name = n
    · rw [if_pos e] at h ⊢
      injection h with h; subst h
      simp only [total, List.map_cons, List.sum_cons]; omega
    · rw [if_neg e] at h ⊢
      have := ih h
      simp only [total, List.map_cons, List.sum_cons] at this ⊢; omega
theorem len_modF (fs : List TF) (n : List UInt8) (g : TF → TF) : (modF fs n g).length = fs.length := by
  induction fs with
  | nil => rfl
  | cons f r ih =>
    rw [modF]
    split
    · rfl
    · simp [ih]
theorem total_append (a b : List TF) : total (a ++ b) = total a + total b := by simp [total]
theorem total_perm {a b : List TF} (h : a.Perm b) : total a = total b := (h.map _).sum_nat
theorem total_mem {fs : List TF} {f : TF} (h : f ∈ fs) : f.data.length ≤ total fs := by
  induction fs with
  | nil => cases h
  | cons f1 r ih =>
    simp only [total, List.map_cons, List.sum_cons] at ih ⊢
    rcases List.mem_cons.1 h with rfl | h
    · omega
    · have := ih h; omega

/-- The tape at block p, its map at block m; O holds of its blocks. -/
structure TapeW (w : World) (O : Nat → Prop) (p m : Nat) (t : Tp) : Prop where
  P : Cl w p (t.cells m) 50
  M : Mp w m (fmap t.files)
  F : ∀ f ∈ t.files, Cl w f.blk f.cells 55
  Op : O p
  Om : O m
  Of : ∀ f ∈ t.files, O f.blk
  nb : (t.files.map (·.blk)).Nodup
  lt : ∀ k, O k → k < w.heap.size
/-- What can be said of a tape. -/
structure TapeOk (t : Tp) : Prop where
  r0 : 0 ≤ t.room
  r1 : t.room ≤ 4194304
  tot : (total t.files : Int) ≤ t.room
  safe : ∀ f ∈ t.files, f.safe ≤ f.data.length
  a0 : 0 ≤ t.acts
  a1 : t.acts ≤ 1000000000
  m0 : 0 ≤ t.armed
  m1 : t.armed ≤ 9223372036854775807
  l0 : 0 ≤ t.life
  l1 : t.life ≤ 1000000000
  nm : ∀ f ∈ t.files, f.name.length ≤ 32
  cnt : t.files.length ≤ 256
theorem TapeW.names {w : World} {O : Nat → Prop} {p m : Nat} {t : Tp} (h : TapeW w O p m t) : (t.files.map (·.name)).Nodup := by
  have := h.M.nodup
  rwa [keys_fmap] at this
theorem TapeW.pm {w : World} {O : Nat → Prop} {p m : Nat} {t : Tp} (h : TapeW w O p m t) : p ≠ m := by
  intro e
  obtain ⟨es, c, hb, _⟩ := h.M
  have := h.P
  unfold Cl at this
  rw [e, hb] at this
  cases this
theorem TapeW.fp {w : World} {O : Nat → Prop} {p m : Nat} {t : Tp} (h : TapeW w O p m t) {f : TF} (hf : f ∈ t.files) : f.blk ≠ p ∧ f.blk ≠ m := by
  have h1 := h.F f hf
  constructor
  · intro e
    have h2 := h.P
    unfold Cl at h1 h2
    rw [e, h2] at h1
    injection h1 with h1
    injection h1 with h1 _
    have := congrArg Array.size h1
    simp [Tp.cells, TF.cells] at this
  · intro e
    obtain ⟨es, c, hb, _⟩ := h.M
    unfold Cl at h1
    rw [e, hb] at h1
    cases h1
theorem TapeW.kept {w w' : World} {O S : Nat → Prop} {p m : Nat} {t : Tp} (h : TapeW w O p m t) (hk : Keeps S w w') (hs : ∀ k, O k → ¬ S k) : TapeW w' O p m t :=
  ⟨h.P.keep hk (hs p h.Op), h.M.kept hk (hs m h.Om), fun f hf => (h.F f hf).keep hk (hs _ (h.Of f hf)), h.Op, h.Om, h.Of, h.nb, fun k hk' => Nat.lt_of_lt_of_le (h.lt k hk') hk.size⟩
theorem TapeW.below {w w' : World} {O : Nat → Prop} {p m : Nat} {t : Tp} (h : TapeW w O p m t) (hb : Below w.heap.size w w') : TapeW w' O p m t := h.kept (Keeps.below (fun _ => False) hb) (fun _ _ => id)
/-- A cell of the tape's own block is another one. -/
theorem TapeW.setP {w : World} {O : Nat → Prop} {p m : Nat} {t t' : Tp} (h : TapeW w O p m t) (k : Nat) (u : Value) (hc : t'.cells m = (t.cells m).set k u) (hf : t'.files = t.files) : TapeW (w.setCell ⟨p, k, none⟩ u) O p m t' := by
  have hk : Keeps (fun j => j = p) w (w.setCell ⟨p, k, none⟩ u) := Keeps.setCell _ _ _ _ rfl
  refine ⟨by rw [hc]; exact h.P.set k u, by rw [hf]; exact h.M.kept hk (Ne.symm h.pm), fun f hff => ?_, h.Op, h.Om, fun f hff => h.Of f (hf ▸ hff), by rw [hf]; exact h.nb, fun k hk' => Nat.lt_of_lt_of_le (h.lt k hk') hk.size⟩
  rw [hf] at hff
  exact (h.F f hff).keep hk (h.fp hff).1
theorem name_blk {fs : List TF} (hn : (fs.map (·.blk)).Nodup) {f g : TF} (hf : f ∈ fs) (hg : g ∈ fs) (h : f.blk = g.blk) : f = g := by
  induction fs with
  | nil => cases hf
  | cons a r ih =>
    simp only [List.map_cons, List.nodup_cons] at hn
    rcases List.mem_cons.1 hf with e1 | h1
    · rcases List.mem_cons.1 hg with e2 | h2
      · rw [e1, e2]
      · exact absurd (List.mem_map.2 ⟨g, h2, by rw [← h, e1]⟩) hn.1
    · rcases List.mem_cons.1 hg with e2 | h2
      · exact absurd (List.mem_map.2 ⟨f, h1, by rw [h, e2]⟩) hn.1
      · exact ih hn.2 h1 h2
/-- A file's block is written anew: what the world holds then. -/
theorem TapeW.setF {w w' : World} {O : Nat → Prop} {p m : Nat} {t : Tp} (h : TapeW w O p m t) {n : List UInt8} {f : TF} (hf : getF t.files n = some f) (g : TF → TF) (hg : ∀ f, (g f).name = f.name ∧ (g f).blk = f.blk)
    (hk : Keeps (fun j => j = f.blk) w w') (hc : Cl w' f.blk (g f).cells 55) : TapeW w' O p m { t with files := modF t.files n g } := by
  obtain ⟨hm, hnm⟩ := getF_mem hf
  obtain ⟨hp, hmm⟩ := h.fp hm
  refine ⟨h.P.keep hk (Ne.symm hp), ?_, fun x hx => ?_, h.Op, h.Om, fun x hx => ?_, ?_, fun k hk' => Nat.lt_of_lt_of_le (h.lt k hk') hk.size⟩
  · show Mp w' m (fmap (modF t.files n g))
    rw [fmap_modF _ _ _ hg]
    exact h.M.kept hk (Ne.symm hmm)
  · rcases mem_modF h.names hx with ⟨f0, h1, rfl⟩ | ⟨h1, h2⟩
    · rw [hf] at h1; injection h1 with h1; subst h1
      rw [(hg f).2]; exact hc
    · exact (h.F x h1).keep hk (fun e => h2 (by rw [name_blk h.nb h1 hm e]; exact hnm))
  · rcases mem_modF h.names hx with ⟨f0, h1, rfl⟩ | ⟨h1, h2⟩
    · rw [(hg f0).2]; exact h.Of f0 (getF_mem h1).1
    · exact h.Of x h1
  · show ((modF t.files n g).map (·.blk)).Nodup
    rw [blk_modF _ _ _ hg]; exact h.nb
/-- What an operation leaves: no block but the tape's turned; what it has made is new. -/
structure Sp (O : Nat → Prop) (w : World) (O' : Nat → Prop) (w' : World) : Prop where
  keep : Keeps O w w'
  sub : ∀ k, O k → O' k
  new : ∀ k, O' k → O k ∨ w.heap.size ≤ k
theorem Sp.refl (O : Nat → Prop) (w : World) : Sp O w O w := ⟨Keeps.refl _ _, fun _ h => h, fun _ h => .inl h⟩
theorem Sp.of {O : Nat → Prop} {w w' : World} (h : Keeps O w w') : Sp O w O w' := ⟨h, fun _ h => h, fun _ h => .inl h⟩
theorem Sp.below {O : Nat → Prop} {w w' : World} (h : Below w.heap.size w w') : Sp O w O w' := .of (Keeps.below _ h)
theorem Sp.trans {O O1 O2 : Nat → Prop} {a b c : World} (h : Sp O a O1 b) (k : Sp O1 b O2 c) : Sp O a O2 c :=
  ⟨h.keep.fresh k.keep (fun i hi hs => (h.new i hs).resolve_right (by omega)), fun i hi => k.sub i (h.sub i hi), fun i hi => by
    rcases k.new i hi with h1 | h1
    · exact h.new i h1
    · right; have := h.keep.size; omega⟩
/-- What is off the tape stays. -/
theorem Sp.cl {O O' : Nat → Prop} {w w' : World} (h : Sp O w O' w') {g : Nat} {cs : List Value} {t : TypeId} (hc : Cl w g cs t) (ho : ¬ O g) : Cl w' g cs t ∧ ¬ O' g :=
  ⟨hc.keep h.keep ho, fun h' => (h.new g h').elim ho (fun h2 => by have := hc.lt; omega)⟩
theorem Sp.toBelow {O O' : Nat → Prop} {w w' : World} {B : Nat} (h : Sp O w O' w') (hB : B ≤ w.heap.size) (ho : ∀ k, O k → B ≤ k) : Below B w w' ∧ ∀ k, O' k → B ≤ k :=
  ⟨h.keep.toBelow hB (fun k hk hs => by have := ho k hs; omega), fun k hk => (h.new k hk).elim (ho k) (fun h2 => by omega)⟩

end Go.Proofs.Ytohimlahncbpjaa
