/-
  The tape's Sync and Swap, walked; Append in one.
  Conditions: none but the tape's form.
-/
import Derived.Test.YtohimlahncbpjaaTe
set_option linter.unusedVariables false
set_option linter.unusedSimpArgs false
namespace Go.Proofs.Ytohimlahncbpjaa
open Go.RowKit

theorem OpPost.mk' {O : Nat → Prop} {p m : Nat} {w w' : World} {v : Value} {t' : Tp} (h1 : TapeW w' O p m t') (h2 : Keeps O w w') : OpPost O p m w v t' (.returned v) w' := ⟨rfl, h1, h2⟩
/-- Append, whatever comes. -/
def AppPost (O : Nat → Prop) (p m : Nat) (t : Tp) (n s : List UInt8) (w : World) (e : Ending) (w' : World) : Prop :=
  (((getF t.files n = none → t.files.length < 256) ∧ (s.length : Int) ≤ t.room - total t.files) ∧ ∃ b, NewPost O p m w (.int .i64 (actV t)) (actT (appT t n s b)) e w') ∨
  (¬ ((getF t.files n = none → t.files.length < 256) ∧ (s.length : Int) ≤ t.room - total t.files) ∧ NewPost O p m w (.int .i64 11) t e w')
theorem append_any (O : Nat → Prop) (p m : Nat) (t : Tp) (n s : List UInt8) (w : World) (h : TapeW w O p m t) (hok : TapeOk t) (hs : s.length ≤ maxLen) (hd : t.down = false) (ha : t.acts < 1000000000) (hl : t.life < 1000000000) (hn : isNm n = true) :
    Calls Try.prog 12 #[.pointer (some ⟨p, 0, none⟩), .string ⟨n.toArray⟩, .string ⟨s.toArray⟩] w (AppPost O p m t n s w) := by
  by_cases hf : (getF t.files n = none → t.files.length < 256) ∧ (s.length : Int) ≤ t.room - total t.files
  · cases hg : getF t.files n with
    | some f =>
      refine (append_old O p m t n s f w h hok hd ha hl hg hn hf.2).mono fun e w' hp => .inl ⟨hf, 0, ?_⟩
      rw [appT, hg]; exact hp
    | none =>
      refine (append_new O p m t n s w h hok hd ha hl hg (hf.1 hg) hn hf.2).mono fun e w' ⟨b, hp⟩ => .inl ⟨hf, b, ?_⟩
      rw [appT, hg]; exact hp
  · exact (append_full O p m t n s w h hok hs hd hn hf).mono fun e w' ⟨h1, h2⟩ => .inr ⟨hf, h1, O, h.below h2, Sp.below h2⟩

def syncF (f : TF) : TF := { f with safe := f.data.length }
theorem syncF_same : ∀ f, (syncF f).name = f.name ∧ (syncF f).blk = f.blk := fun _ => ⟨rfl, rfl⟩
set_option maxRecDepth 20000 in
set_option maxHeartbeats 1600000 in
theorem sync_none (O : Nat → Prop) (p m : Nat) (t : Tp) (n : List UInt8) (w : World) (h : TapeW w O p m t) (hd : t.down = false) (hg : getF t.files n = none) :
    Calls Try.prog 18 #[.pointer (some ⟨p, 0, none⟩), .string ⟨n.toArray⟩] w fun e w' => e = .returned (.int .i64 12) ∧ w = w' := by
  have HF := Lib.hid (find_any O p m t n w h)
  rw [show findV t n = .tuple #[.pointer none, .int .i64 12] from by rw [findV, hd, hg]; rfl] at HF
  clear h
  go_enter Try.func18, Try.ntmps18
  go_wp2_with fail
  refine HF.out.mono ?_
  rintro e w1 ⟨rfl, rfl⟩
  go_wp2
  go_ret
  exact ⟨rfl, rfl⟩
/-- Sync of a file that is there. -/
def syncT (t : Tp) (n : List UInt8) : Tp := if t.armed = 1 then actT t else { actT t with files := modF t.files n syncF }
set_option maxRecDepth 20000 in
set_option maxHeartbeats 1600000 in
theorem sync_any (O : Nat → Prop) (p m : Nat) (t : Tp) (n : List UInt8) (f : TF) (w : World) (h : TapeW w O p m t) (hok : TapeOk t) (hd : t.down = false) (ha : t.acts < 1000000000) (hl : t.life < 1000000000) (hg : getF t.files n = some f) :
    Calls Try.prog 18 #[.pointer (some ⟨p, 0, none⟩), .string ⟨n.toArray⟩] w (OpPost O p m w (.int .i64 (actV t)) (syncT t n)) := by
  have H := Lib.hid h
  have HF := Lib.hid (find_any O p m t n w h)
  rw [show findV t n = .tuple #[f.ptr, .int .i64 0] from by rw [findV, hd, hg]; rfl] at HF
  have HA := Lib.hid (act_any O p m t w h hok hd ha hl)
  have HG := Lib.hid hg
  clear h hok hg
  go_enter Try.func18, Try.ntmps18
  go_wp2_with fail
  refine HF.out.mono ?_
  rintro e w1 ⟨rfl, rfl⟩
  go_wp2_with fail
  refine HA.out.mono ?_
  rintro e w2 ⟨rfl, h2, k2⟩
  have T2 := Lib.hid h2
  have K2 := Lib.hid k2
  clear h2 k2
  by_cases h1 : t.armed = 1
  · have HX : Hid (syncT t n = actT t) := by rw [Hid, syncT, if_pos h1]
    have HY : Hid (actV t = 10) := by rw [Hid, actV, if_pos h1]
    rw [HY.out]
    clear h1
    go_wp2
    go_ret
    exact ⟨by rw [HY.out]; rfl, by rw [HX.out]; exact T2.out, K2.out⟩
  · have HX : Hid (syncT t n = { actT t with files := modF t.files n syncF }) := by rw [Hid, syncT, if_neg h1]
    have HY : Hid (actV t = 0) := by rw [Hid, actV, if_neg h1]
    rw [HY.out]
    have hg2 : getF (actT t).files n = some f := by rw [(actT_files t).1]; exact HG.out
    have CF := T2.out.F f (getF_mem hg2).1
    have f0 : w2.cell? ⟨f.blk, 0, none⟩ = some (.string ⟨f.data.toArray⟩) := CF.cell 0
    have f1 : w2.cell? ⟨f.blk, 1, none⟩ = some (.int .i64 f.safe) := CF.cell 1
    have ff1 := CF.free 1
    have T3 := Lib.hid (T2.out.setF hg2 syncF syncF_same (w' := w2.setCell ⟨f.blk, 1, none⟩ (.int .i64 f.data.length)) (Keeps.setCell _ _ _ _ rfl) (CF.set 1 _))
    have K3 : Hid (Keeps O w (w2.setCell ⟨f.blk, 1, none⟩ (.int .i64 f.data.length))) := K2.out.trans (Keeps.setCell O _ ⟨f.blk, 1, none⟩ _ (T2.out.Of f (getF_mem hg2).1))
    clear h1 hg2 CF
    go_wp2
    go_ret
    refine ⟨by rw [HY.out]; rfl, ?_, K3.out⟩
    rw [HX.out]
    have := T3.out
    rw [(actT_files t).1] at this
    exact this
/-! Swap. -/
def delF : List TF → List UInt8 → List TF
  | [], _ => []
  | g :: r, n => if g.name = n then r else g :: delF r n
def updF : List TF → TF → List TF
  | [], f => [f]
  | g :: r, f => if g.name = f.name then f :: r else g :: updF r f
theorem fmap_delF (fs : List TF) (n : List UInt8) : fmap (delF fs n) = del (fmap fs) n := by
  induction fs with
  | nil => rfl
  | cons g r ih =>
    rw [delF]
    simp only [fmap, List.map_cons, del] at ih ⊢
    split
    · rfl
    · simp only [List.map_cons, ih]
theorem fmap_updF (fs : List TF) (f : TF) : fmap (updF fs f) = upd (fmap fs) f.name f.ptr := by
  induction fs with
  | nil => rfl
  | cons g r ih =>
    rw [updF]
    simp only [fmap, List.map_cons, upd] at ih ⊢
    split
    · rfl
    · simp only [List.map_cons, ih]
theorem delF_sub (fs : List TF) (n : List UInt8) : (delF fs n).Sublist fs := by
  induction fs with
  | nil => exact List.Sublist.refl _
  | cons g r ih =>
    rw [delF]
    split
    · exact List.sublist_cons_self _ _
    · exact ih.cons_cons _
theorem mem_updF {fs : List TF} {f x : TF} (h : x ∈ updF fs f) : x = f ∨ x ∈ fs := by
  induction fs with
  | nil => simp [updF] at h; exact .inl h
  | cons g r ih =>
    rw [updF] at h
    split at h
    · rcases List.mem_cons.1 h with h | h
      · exact .inl h
      · exact .inr (List.mem_cons_of_mem _ h)
    · rcases List.mem_cons.1 h with h | h
      · exact .inr (h ▸ List.mem_cons_self)
      · exact (ih h).imp id (List.mem_cons_of_mem _)
theorem nodup_updF {fs : List TF} {f : TF} (h : (fs.map (·.blk)).Nodup) (hf : ∀ g ∈ fs, g.blk ≠ f.blk) : ((updF fs f).map (·.blk)).Nodup := by
  induction fs with
  | nil => simp [updF]
  | cons g r ih =>
    simp only [List.map_cons, List.nodup_cons] at h
    rw [updF]
    split
    · simp only [List.map_cons, List.nodup_cons]
      refine ⟨fun hh => ?_, h.2⟩
      obtain ⟨x, hx, he⟩ := List.mem_map.1 hh
      exact hf x (List.mem_cons_of_mem _ hx) he
    · simp only [List.map_cons, List.nodup_cons]
      refine ⟨fun hh => ?_, ih h.2 (fun x hx => hf x (List.mem_cons_of_mem _ hx))⟩
      obtain ⟨x, hx, he⟩ := List.mem_map.1 hh
      rcases mem_updF hx with rfl | hx
      · exact hf g List.mem_cons_self he.symm
      · exact h.1 (List.mem_map.2 ⟨x, hx, he⟩)
theorem delF_other {fs : List TF} (hb : (fs.map (·.blk)).Nodup) {n : List UInt8} {f : TF} (hf : getF fs n = some f) : ∀ g ∈ delF fs n, g.blk ≠ f.blk := by
  induction fs with
  | nil => cases hf
  | cons a r ih =>
    simp only [List.map_cons, List.nodup_cons] at hb
    rw [getF] at hf
    intro g hg
    rw [delF] at hg
    by_cases e : a.name = n
    · rw [if_pos e] at hf hg
      injection hf with hf; subst hf
      exact fun e2 => hb.1 (List.mem_map.2 ⟨g, hg, e2⟩)
    · rw [if_neg e] at hf hg
      rcases List.mem_cons.1 hg with rfl | hg
      · exact fun e2 => hb.1 (List.mem_map.2 ⟨f, (getF_mem hf).1, e2.symm⟩)
      · exact ih hb.2 hf g hg
theorem total_delF {fs : List TF} {n : List UInt8} {f : TF} (hf : getF fs n = some f) : total (delF fs n) + f.data.length = total fs := by
  induction fs with
  | nil => cases hf
  | cons a r ih =>
    rw [getF] at hf
    rw [delF]
    by_cases e : a.name = n
    · rw [if_pos e] at hf ⊢
      injection hf with hf; subst hf
      simp only [total, List.map_cons, List.sum_cons]; omega
    · rw [if_neg e] at hf ⊢
      have := ih hf
      simp only [total, List.map_cons, List.sum_cons] at this ⊢; omega
theorem total_updF (fs : List TF) (f : TF) : total (updF fs f) ≤ total fs + f.data.length := by
  induction fs with
  | nil => simp [updF, total]
  | cons a r ih =>
    rw [updF]
    split
    · simp only [total, List.map_cons, List.sum_cons]; omega
    · simp only [total, List.map_cons, List.sum_cons] at ih ⊢; omega
/-- The files when one has taken another's place. -/
def swpF (fs : List TF) (a b : List UInt8) (f : TF) : List TF := updF (delF fs a) { f with name := b }
theorem len_updF (fs : List TF) (f : TF) : (updF fs f).length ≤ fs.length + 1 := by
  induction fs with
  | nil => simp [updF]
  | cons g r ih =>
    rw [updF]
    split
    · simp
    · simp only [List.length_cons]; omega
theorem len_delF {fs : List TF} {n : List UInt8} {f : TF} (h : getF fs n = some f) : (delF fs n).length + 1 = fs.length := by
  induction fs with
  | nil => cases h
  | cons g r ih =>
    rw [getF] at h
    rw [delF]
    split
    · simp
    · rename_i e
      rw [if_neg e] at h
      simp only [List.length_cons]
      have := ih h
      omega
theorem swp_ok {t : Tp} (h : TapeOk t) {a b : List UInt8} {f : TF} (hf : getF t.files a = some f) (hb : isNm b = true) : TapeOk { t with files := swpF t.files a b f } := by
  refine ⟨h.r0, h.r1, ?_, ?_, h.a0, h.a1, h.m0, h.m1, h.l0, h.l1, fun x hx => ?_, ?_⟩
  rotate_left 2
  · rcases mem_updF hx with rfl | hx
    · exact (nameOf_some hb).2
    · exact h.nm x ((delF_sub _ _).subset hx)
  · have h1 := len_updF (delF t.files a) { f with name := b }
    have h2 := len_delF hf
    have h3 := h.cnt
    show (swpF t.files a b f).length ≤ 256
    unfold swpF
    omega
  · have h1 := total_updF (delF t.files a) { f with name := b }
    have h2 := total_delF hf
    have h3 := h.tot
    show ((total (swpF t.files a b f) : Nat) : Int) ≤ t.room
    unfold swpF
    dsimp only at h1
    omega
  · intro x hx
    rcases mem_updF hx with rfl | hx
    · exact h.safe f (getF_mem hf).1
    · exact h.safe x ((delF_sub _ _).subset hx)
set_option maxRecDepth 20000 in
set_option maxHeartbeats 1600000 in
theorem swap_any (O : Nat → Prop) (p m : Nat) (t : Tp) (a b : List UInt8) (f : TF) (w : World) (h : TapeW w O p m t) (hok : TapeOk t) (hd : t.down = false) (ha : t.acts < 1000000000) (hl : t.life < 1000000000) (hg : getF t.files a = some f) (hb : isNm b = true) :
    Calls Try.prog 21 #[.pointer (some ⟨p, 0, none⟩), .string ⟨a.toArray⟩, .string ⟨b.toArray⟩] w (OpPost O p m w (.int .i64 (actV t)) (actT { t with files := swpF t.files a b f })) := by
  have H := Lib.hid h
  have HF := Lib.hid (find_any O p m t a w h)
  rw [show findV t a = .tuple #[f.ptr, .int .i64 0] from by rw [findV, hd, hg]; rfl] at HF
  have HG := Lib.hid hg
  have OK2 := Lib.hid (swp_ok (b := b) hok hg hb)
  obtain ⟨c0, c1, c2, c3, c4, c5⟩ := tape_cells h
  obtain ⟨w2, hdl, hM2, hk2, hs2⟩ := h.M.delete (P := Try.prog) (T := 48) Try.underlying48 Try.underlying9 a 9 0
  obtain ⟨w3, hup, hM3, hk3, hs3⟩ := hM2.update (P := Try.prog) (T := 48) Try.underlying48 Try.underlying9 b f.ptr
  have C2 := h.P.keep hk2 h.pm
  have d0 : w2.cell? ⟨p, 0, none⟩ = some (.map (some m)) := C2.cell 0
  have hk13 : Keeps (fun j => j = m) w w3 := hk2.trans hk3
  have hfm := (getF_mem hg).1
  have T3 : Hid (TapeW w3 O p m { t with files := swpF t.files a b f }) := by
    have hsub : ∀ x ∈ swpF t.files a b f, x.blk = f.blk ∧ x.cells = f.cells ∨ x ∈ t.files := fun x hx => by
      rcases mem_updF hx with rfl | hx
      · exact .inl ⟨rfl, rfl⟩
      · exact .inr ((delF_sub _ _).subset hx)
    refine ⟨h.P.keep hk13 h.pm, ?_, fun x hx => ?_, h.Op, h.Om, fun x hx => ?_, ?_, fun k hk' => Nat.lt_of_lt_of_le (h.lt k hk') hk13.size⟩
    · show Mp w3 m (fmap (swpF t.files a b f))
      rw [swpF, fmap_updF, fmap_delF]
      exact hM3
    · rcases hsub x hx with ⟨e1, e2⟩ | hx
      · rw [e1, e2]; exact (h.F f hfm).keep hk13 (h.fp hfm).2
      · exact (h.F x hx).keep hk13 (h.fp hx).2
    · rcases hsub x hx with ⟨e1, e2⟩ | hx
      · rw [e1]; exact h.Of f hfm
      · exact h.Of x hx
    · exact nodup_updF (f := { f with name := b }) (h.nb.sublist ((delF_sub _ _).map _)) (fun g h2 => (delF_other h.nb hg g h2 : g.blk ≠ f.blk))
  have K3 : Hid (Keeps O w w3) := hk13.mono (fun k _ e => e ▸ h.Om)
  have HA := Lib.hid (fun W hW => act_any O p m _ W hW OK2.out hd ha hl)
  clear h hok hg hM2 hk2 hs2 hM3 hk3 hs3 C2 hk13 hfm
  go_enter Try.func21, Try.ntmps21
  go_wp2_with fail
  refine HF.out.mono ?_
  rintro e w1 ⟨rfl, rfl⟩
  go_wp2_with fail
  refine (isName_any b w).mono ?_
  rintro e w1 ⟨rfl, rfl⟩
  rw [hb]
  go_wp2_with fail
  refine (HA.out _ T3.out).mono ?_
  rintro e w5 ⟨rfl, h5, k5⟩
  have T5 := Lib.hid h5
  have K5 := Lib.hid (K3.out.trans k5)
  clear h5 k5
  go_wp2
  go_ret
  exact ⟨rfl, T5.out, K5.out⟩

end Go.Proofs.Ytohimlahncbpjaa
