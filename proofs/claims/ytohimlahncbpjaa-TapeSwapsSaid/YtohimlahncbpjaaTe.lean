/-
  The tape's Append that is let through; Sync, Swap.
  Conditions: none but the tape's form.
-/
import Derived.Test.YtohimlahncbpjaaTd
set_option linter.unusedVariables false
set_option linter.unusedSimpArgs false
namespace Go.Proofs.Ytohimlahncbpjaa
open Go.RowKit

theorem add_str (a b : List UInt8) (h : a.length + b.length ≤ 9223372036854775807) (w : World) : (binOp .add 9 (.string ⟨a.toArray⟩) (.string ⟨b.toArray⟩)).run Try.prog w = .ok (.string ⟨(a ++ b).toArray⟩) w := by
  rw [← bs_append]
  have h2 : (((⟨a.toArray⟩ : ByteArray).size : Nat) : Int) + (((⟨b.toArray⟩ : ByteArray).size : Nat) : Int) ≤ 9223372036854775807 := by
    have e1 : (⟨a.toArray⟩ : ByteArray).size = a.length := by simp [ByteArray.size]
    have e2 : (⟨b.toArray⟩ : ByteArray).size = b.length := by simp [ByteArray.size]
    rw [e1, e2]; omega
  simp [binOp, Op.stringOp]
  exact h2
theorem modF_append {fs : List TF} {n : List UInt8} (h : getF fs n = none) (f : TF) (hf : f.name = n) (g : TF → TF) : modF (fs ++ [f]) n g = fs ++ [g f] := by
  induction fs with
  | nil => simp [modF, hf]
  | cons a r ih =>
    rw [getF] at h
    split at h
    · cases h
    · rename_i hne
      rw [List.cons_append, modF, if_neg hne, ih h]
      rfl
/-- A new file. -/
theorem TapeW.addF {w w' : World} {O : Nat → Prop} {p m b : Nat} {t : Tp} (h : TapeW w O p m t) {n : List UInt8} (hn : getF t.files n = none) (d : List UInt8) (s : Nat) (hk : Keeps (fun j => j = m) w w') (hM : Mp w' m (upd (fmap t.files) n (.pointer (some ⟨b, 0, none⟩))))
    (hc : Cl w' b [.string ⟨d.toArray⟩, .int .i64 s] 55) (hb : w.heap.size ≤ b) : TapeW w' (fun k => O k ∨ k = b) p m { t with files := t.files ++ [⟨n, d, s, b⟩] } := by
  have hnk : n ∉ keysL (fmap t.files) := by
    rw [keys_fmap]
    intro hh
    obtain ⟨f, hf, hfe⟩ := List.mem_map.1 hh
    exact getF_none hn f hf hfe
  have hmo : ∀ f ∈ t.files, f.blk ≠ m := fun f hf => (h.fp hf).2
  refine ⟨h.P.keep hk h.pm, ?_, fun f hf => ?_, .inl h.Op, .inl h.Om, fun f hf => ?_, ?_, fun k hk' => ?_⟩
  · rw [upd_none _ hnk] at hM
    have e : fmap (t.files ++ [⟨n, d, s, b⟩]) = fmap t.files ++ [(n, .pointer (some ⟨b, 0, none⟩))] := by simp [fmap]
    show Mp w' m (fmap (t.files ++ [⟨n, d, s, b⟩]))
    rw [e]; exact hM
  · rcases List.mem_append.1 hf with hf | hf
    · exact (h.F f hf).keep hk (hmo f hf)
    · simp only [List.mem_singleton] at hf; subst hf; exact hc
  · rcases List.mem_append.1 hf with hf | hf
    · exact .inl (h.Of f hf)
    · simp only [List.mem_singleton] at hf; subst hf; exact .inr rfl
  · show ((t.files ++ [(⟨n, d, s, b⟩ : TF)]).map (fun f : TF => f.blk)).Nodup
    rw [List.map_append, List.nodup_append]
    refine ⟨h.nb, by simp, fun x hx y hy e => ?_⟩
    simp only [List.map_cons, List.map_nil, List.mem_singleton] at hy
    obtain ⟨f, hf, rfl⟩ := List.mem_map.1 hx
    have := h.lt _ (h.Of f hf)
    omega
  · rcases hk' with hk' | rfl
    · exact Nat.lt_of_lt_of_le (h.lt k hk') hk.size
    · exact hc.lt
set_option maxRecDepth 20000 in
set_option maxHeartbeats 1600000 in
theorem append_old (O : Nat → Prop) (p m : Nat) (t : Tp) (n s : List UInt8) (f : TF) (w : World) (h : TapeW w O p m t) (hok : TapeOk t) (hd : t.down = false) (ha : t.acts < 1000000000) (hl : t.life < 1000000000) (hg : getF t.files n = some f) (hn : isNm n = true) (hs : (s.length : Int) ≤ t.room - total t.files) :
    Calls Try.prog 12 #[.pointer (some ⟨p, 0, none⟩), .string ⟨n.toArray⟩, .string ⟨s.toArray⟩] w (NewPost O p m w (.int .i64 (actV t)) (actT { t with files := modF t.files n (addD s) })) := by
  have H := Lib.hid h
  have HK := Lib.hid hok
  have HL := Lib.hid (left_any O p m t w h hok)
  have hlk := h.M.lookup (P := Try.prog) (T := 48) Try.underlying48 Try.underlying9 n (z := .pointer none) zeroF
  rw [look_fmap, hg] at hlk
  have HG := Lib.hid hg
  have hl1 : (f.data.length : Int) + (s.length : Int) ≤ 9223372036854775807 := by
    have := total_mem (getF_mem hg).1
    have := hok.tot
    have := hok.r1
    omega
  have hadd := add_str f.data s (by
    have := total_mem (getF_mem hg).1
    have := hok.tot
    have := hok.r1
    omega)
  have OK2 : Hid (TapeOk { t with files := modF t.files n (addD s) }) := by
    have := appT_ok (n := n) hok 0 hs h.names hn (fun h => by rw [hg] at h; cases h)
    rw [appT, hg] at this
    exact this
  obtain ⟨c0, c1, c2, c3, c4, c5⟩ := tape_cells h
  have r1 := hok.r1
  clear h hok hg
  go_enter Try.func12, Try.ntmps12
  go_wp2_with fail
  refine (ready_any O p m t w H.out).mono ?_
  rintro e w1 ⟨rfl, rfl⟩
  rw [show readyV t = 0 from by rw [readyV, hd]; rfl]
  go_wp2_with fail
  refine (isName_any n w).mono ?_
  rintro e w1 ⟨rfl, rfl⟩
  rw [hn]
  go_wp2_with fail
  refine HL.out.mono ?_
  rintro e w1 ⟨rfl, hb1⟩
  have B1 := Lib.hid hb1
  have T1 := Lib.hid (H.out.below hb1)
  clear hb1 HL hlk c0 c1 c2 c3 c4 c5
  have CF := T1.out.F f (getF_mem HG.out).1
  have f0 : w1.cell? ⟨f.blk, 0, none⟩ = some (.string ⟨f.data.toArray⟩) := CF.cell 0
  have ff0 := CF.free 0
  have T2 := Lib.hid (T1.out.setF HG.out (addD s) (addD_same s) (w' := w1.setCell ⟨f.blk, 0, none⟩ (.string ⟨(f.data ++ s).toArray⟩)) (Keeps.setCell _ _ _ _ rfl) (CF.set 0 _))
  have K2 : Hid (Keeps O w (w1.setCell ⟨f.blk, 0, none⟩ (.string ⟨(f.data ++ s).toArray⟩))) := (Keeps.below _ B1.out).trans (Keeps.setCell O _ ⟨f.blk, 0, none⟩ _ (H.out.Of f (getF_mem HG.out).1))
  have HA := Lib.hid (fun W hW => act_any O p m _ W hW OK2.out hd ha hl)
  clear CF
  generalize (total t.files : Int) = x at *
  go_wp2_with fail
  refine (HA.out _ T2.out).mono ?_
  rintro e w5 ⟨rfl, h5, k5⟩
  have T5 := Lib.hid h5
  have K5 := Lib.hid (K2.out.trans k5)
  clear h5 k5
  go_wp2
  go_ret
  exact ⟨rfl, O, T5.out, Sp.of K5.out⟩
set_option maxRecDepth 20000 in
set_option maxHeartbeats 1600000 in
theorem append_new (O : Nat → Prop) (p m : Nat) (t : Tp) (n s : List UInt8) (w : World) (h : TapeW w O p m t) (hok : TapeOk t) (hd : t.down = false) (ha : t.acts < 1000000000) (hl : t.life < 1000000000) (hg : getF t.files n = none) (h256 : t.files.length < 256) (hn : isNm n = true) (hs : (s.length : Int) ≤ t.room - total t.files) :
    Calls Try.prog 12 #[.pointer (some ⟨p, 0, none⟩), .string ⟨n.toArray⟩, .string ⟨s.toArray⟩] w fun e w' => ∃ b, NewPost O p m w (.int .i64 (actV t)) (actT { t with files := t.files ++ [⟨n, s, 0, b⟩] }) e w' := by
  have H := Lib.hid h
  have HK := Lib.hid hok
  have HL := Lib.hid (left_any O p m t w h hok)
  have hlk := h.M.lookup (P := Try.prog) (T := 48) Try.underlying48 Try.underlying9 n (z := .pointer none) zeroF
  rw [look_fmap, hg] at hlk
  have HG := Lib.hid hg
  have hln := h.M.len (P := Try.prog) (T := 48) Try.underlying48 3
  have hfl : (fmap t.files).length = t.files.length := by simp [fmap]
  rw [hfl] at hln
  have hl1 : (s.length : Int) ≤ 9223372036854775807 := by
    have := hok.tot
    have := hok.r1
    omega
  have hadd := add_str [] s (by
    have := hok.tot
    have := hok.r1
    simp only [List.length_nil]
    omega)
  obtain ⟨c0, c1, c2, c3, c4, c5⟩ := tape_cells h
  have OK2 := Lib.hid (fun b => by
    have := appT_ok (n := n) hok b hs h.names hn (fun _ => h256)
    rw [appT, hg] at this
    exact (this : TapeOk { t with files := t.files ++ [⟨n, s, 0, b⟩] }))
  have r1 := hok.r1
  clear h hok hg hfl
  go_enter Try.func12, Try.ntmps12
  go_wp2_with fail
  refine (ready_any O p m t w H.out).mono ?_
  rintro e w1 ⟨rfl, rfl⟩
  rw [show readyV t = 0 from by rw [readyV, hd]; rfl]
  go_wp2_with fail
  refine (isName_any n w).mono ?_
  rintro e w1 ⟨rfl, rfl⟩
  rw [hn]
  go_wp2_with fail
  refine HL.out.mono ?_
  rintro e w1 ⟨rfl, hb1⟩
  have B1 := Lib.hid hb1
  have T1 := Lib.hid (H.out.below hb1)
  clear hb1 HL hlk hln c0 c1 c2 c3 c4 c5
  have BA : Hid (Below w1.heap.size w1 (w1.alloc (.cells #[.string ⟨#[]⟩, .int .i64 0] 55))) := (Below.refl _ _).alloc (Nat.le_refl _) _
  have TA := Lib.hid (T1.out.below BA.out)
  have CA : Hid (Cl (w1.alloc (.cells #[.string ⟨#[]⟩, .int .i64 0] 55)) w1.heap.size [.string ⟨([] : List UInt8).toArray⟩, .int .i64 ((0 : Nat) : Int)] 55) := Cl.new w1 [.string ⟨([] : List UInt8).toArray⟩, .int .i64 ((0 : Nat) : Int)] 55
  obtain ⟨w2, hup, hM2, hk2, hs2⟩ := TA.out.M.update (P := Try.prog) (T := 48) Try.underlying48 Try.underlying9 n (.pointer (some ⟨w1.heap.size, 0, none⟩))
  obtain ⟨a0, a1, a2, a3, a4, a5⟩ := tape_cells TA.out
  have hbm : w1.heap.size ≠ m := fun e => by have := T1.out.lt m T1.out.Om; omega
  have hka : Keeps (fun j => j = m) w1 w2 := (Keeps.alloc _ _ _).trans hk2
  have C2 := Lib.hid (CA.out.keep hk2 hbm)
  have T2 := Lib.hid (T1.out.addF HG.out [] 0 hka hM2 C2.out (Nat.le_refl _))
  have hg2 : getF (t.files ++ [⟨n, [], 0, w1.heap.size⟩]) n = some ⟨n, [], 0, w1.heap.size⟩ := by
    rw [getF_append, HG.out]; simp [getF]
  have T3 := Lib.hid (T2.out.setF (t := { t with files := t.files ++ [⟨n, [], 0, w1.heap.size⟩] }) hg2 (addD s) (addD_same s) (w' := w2.setCell ⟨w1.heap.size, 0, none⟩ (.string ⟨([] ++ s).toArray⟩)) (Keeps.setCell _ _ _ _ rfl) (C2.out.set 0 _))
  have T4 : Hid (TapeW (w2.setCell ⟨w1.heap.size, 0, none⟩ (.string ⟨([] ++ s).toArray⟩)) (fun k => O k ∨ k = w1.heap.size) p m { t with files := t.files ++ [⟨n, s, 0, w1.heap.size⟩] }) := by
    have := T3.out
    dsimp only at this
    rw [modF_append HG.out _ rfl] at this
    exact this
  have S4 : Hid (Sp O w (fun k => O k ∨ k = w1.heap.size) (w2.setCell ⟨w1.heap.size, 0, none⟩ (.string ⟨([] ++ s).toArray⟩))) := by
    have hk : Keeps O w w2 := (Keeps.below _ B1.out).fresh hka (fun k hk e => e ▸ H.out.Om)
    refine ⟨hk.fresh (Keeps.setCell (fun j => j = w1.heap.size) _ _ _ rfl) (fun k hk e => ?_), fun k hk => .inl hk, fun k hk => hk.imp id (fun e => ?_)⟩
    · have := B1.out.size; omega
    · have := B1.out.size; omega
  have f0 : w2.cell? ⟨w1.heap.size, 0, none⟩ = some (.string ⟨#[]⟩) := C2.out.cell 0
  have ff0 := C2.out.free 0
  have HA := Lib.hid (fun W hW => act_any (fun k => O k ∨ k = w1.heap.size) p m _ W hW (OK2.out w1.heap.size) hd ha hl)
  clear hka hM2 hk2 hs2 hg2 T3 T2 TA
  generalize (total t.files : Int) = x at *
  go_wp2_with fail
  refine (HA.out _ T4.out).mono ?_
  rintro e w5 ⟨rfl, h5, k5⟩
  have T5 := Lib.hid h5
  have S5 := Lib.hid (S4.out.trans (Sp.of k5))
  clear h5 k5
  go_wp2
  go_ret
  exact ⟨w1.heap.size, rfl, _, T5.out, S5.out⟩

end Go.Proofs.Ytohimlahncbpjaa
