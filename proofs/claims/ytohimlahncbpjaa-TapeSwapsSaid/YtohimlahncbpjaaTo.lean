/-
  The tape's On, walked (Names by its contract).
  Conditions: none but the tape's form.
-/
import Derived.Test.YtohimlahncbpjaaTk
import Derived.Deep.RegionHeld3
import Derived.Deep.RegionLaw
import Derived.Deep.DeepCutAuto
set_option linter.unusedVariables false
set_option linter.unusedSimpArgs false
namespace Go.Proofs.Ytohimlahncbpjaa
open Go.RowKit

theorem Ints.keepO {S : Nat → Prop} {w w' : World} {v : Value} {zs : List Int} (h : Ints w v zs) (hk : Keeps S w w') (hs : ∀ g, v.ownBlock = some g → ¬ S g) : Ints w' v zs := by
  obtain ⟨a, cap, rfl, hc⟩ := h
  refine ⟨a, cap, rfl, fun i hi => ?_⟩
  obtain ⟨g, off, rfl, hg, h1⟩ := hc i hi
  exact ⟨g, off, rfl, Nat.lt_of_lt_of_le hg hk.size, (hk.cell (a := ⟨g, off + i, none⟩) hg (hs g rfl)).trans h1⟩
/-- How much of a file's bytes is there again. -/
def fateOf (fates : List Int) (n : Nat) : Int := if fates.length = 0 then 0 else fates.getD (n % fates.length) 0
def onLen (fates : List Int) (f : TF) (n : Nat) : Nat := f.safe + (keptN (fateOf fates n) (f.data.length - f.safe)).toNat
def onF (fates : List Int) (n : Nat) (f : TF) : TF := { f with data := f.data.take (onLen fates f n), safe := onLen fates f n }
def onGo (fates : List Int) : List (List UInt8) → Nat → List TF → List TF
  | [], _, fs => fs
  | a :: r, n, fs =>
    match getF fs a with
    | none => onGo fates r n fs
    | some f => if f.data.length = f.safe then onGo fates r n fs else onGo fates r (n + 1) (modF fs a (onF fates n))
theorem onF_same (fates : List Int) (n : Nat) : ∀ f, (onF fates n f).name = f.name ∧ (onF fates n f).blk = f.blk := fun _ => ⟨rfl, rfl⟩
theorem onLen_le (fates : List Int) (f : TF) (n : Nat) (h : f.safe ≤ f.data.length) : f.safe ≤ onLen fates f n ∧ onLen fates f n ≤ f.data.length := by
  have := keptN_le (fateOf fates n) (f.data.length - f.safe)
  unfold onLen
  omega
/-- The row of names, read. -/
def NamesAt (w : World) (v : Value) (ns : List (List UInt8)) (B : Nat) : Prop :=
  ∃ a cap, v = .slice a ns.length cap ∧ ∀ i x, ns[i]? = some x → ∃ g off, a = some ⟨g, off, none⟩ ∧ B ≤ g ∧ g < w.heap.size ∧ w.cell? ⟨g, off + i, none⟩ = some (.string ⟨x.toArray⟩)
theorem NamesAt.of {w : World} {B : Nat} {v : Value} {ns : List (List UInt8)} {T : TypeId} (h : w.ownsRow B T 1 v ns.length (ns.map Go.Proofs.encStr)) : NamesAt w v ns B := by
  have hs := Sl.ofOwn h
  rcases hs.2 with ⟨rfl, h0⟩ | ⟨g, off, cap, rfl, hB, hg, hn, hm, hr, ht⟩
  · exact ⟨none, 0, by rw [h0], fun i x hx => by
      have := (List.getElem?_eq_some_iff.1 hx).1
      omega⟩
  · refine ⟨_, cap, rfl, fun i x hx => ⟨g, off, rfl, hB, hg, ?_⟩⟩
    exact hr i _ (by rw [List.getElem?_map, hx]; rfl)
theorem NamesAt.keep {S : Nat → Prop} {w w' : World} {B : Nat} {v : Value} {ns : List (List UInt8)} (h : NamesAt w v ns B) (hk : Keeps S w w') (hs : ∀ k, B ≤ k → ¬ S k) : NamesAt w' v ns B := by
  obtain ⟨a, cap, rfl, hc⟩ := h
  refine ⟨a, cap, rfl, fun i x hx => ?_⟩
  obtain ⟨g, off, rfl, hB, hg, h1⟩ := hc i x hx
  exact ⟨g, off, rfl, hB, Nat.lt_of_lt_of_le hg hk.size, (hk.cell (a := ⟨g, off + i, none⟩) hg (hs g hB)).trans h1⟩
def OnPost (O : Nat → Prop) (p m : Nat) (t : Tp) (fates : List Int) (w : World) (e : Ending) (w' : World) : Prop :=
  e = .returned (.tuple #[]) ∧ ∃ ns : List (List UInt8), ns.Perm (t.files.map (·.name)) ∧ TapeW w' O p m { t with down := false, files := onGo fates ns 0 t.files } ∧ Keeps O w w'
/-- What the loop holds of the files. -/
structure OnOk (room : Int) (fs : List TF) (names : List (List UInt8)) : Prop where
  tot : (total fs : Int) ≤ room
  safe : ∀ f ∈ fs, f.safe ≤ f.data.length
  nm : fs.map (·.name) = names
theorem onOk_step {room : Int} {fs : List TF} {names : List (List UInt8)} (h : OnOk room fs names) (hn : (fs.map (·.name)).Nodup) {a : List UInt8} {f : TF} (hf : getF fs a = some f) (fates : List Int) (n : Nat) : OnOk room (modF fs a (onF fates n)) names := by
  have hs := h.safe f (getF_mem hf).1
  have hl := onLen_le fates f n hs
  refine ⟨?_, fun x hx => ?_, ?_⟩
  · have := total_modF (g := onF fates n) hf
    have h2 := h.tot
    simp only [onF, List.length_take] at this
    omega
  · rcases mem_modF hn hx with ⟨f0, h1, rfl⟩ | ⟨h1, _⟩
    · rw [hf] at h1; injection h1 with h1; subst h1
      simp only [onF, List.length_take]
      omega
    · exact h.safe x h1
  · have := fmap_modF fs a (onF fates n) (onF_same fates n)
    have h2 := congrArg keysL this
    rw [keys_fmap, keys_fmap] at h2
    rw [h2]; exact h.nm
set_option maxRecDepth 20000 in
set_option maxHeartbeats 3200000 in
theorem on_any (hN : ∀ (O : Nat → Prop) (p m : Nat) (t : Tp) (w : World), TapeW w O p m t → TapeOk t → Calls Try.prog 11 #[.pointer (some ⟨p, 0, none⟩)] w (NamesPost t w))
    (O : Nat → Prop) (p m : Nat) (t : Tp) (fates : List Int) (fv : Value) (w : World) (h : TapeW w O p m t) (hok : TapeOk t) (hd : t.down = true) (hfv : Ints w fv fates) (hfo : fates.length ≠ 0 → ∀ g, fv.ownBlock = some g → ¬ O g) (hfl : fates.length ≤ maxLen) :
    Calls Try.prog 15 #[.pointer (some ⟨p, 0, none⟩), fv] w (OnPost O p m t fates w) := by
  have H := Lib.hid h
  have HI := Lib.hid hfv
  have HO := Lib.hid hfo
  have HK := Lib.hid hok
  obtain ⟨af, capf, rfl, -⟩ := id hfv
  obtain ⟨c0, c1, c2, c3, c4, c5⟩ := tape_cells h
  rw [hd] at c2
  have cf2 := h.P.free 2
  have T1 := Lib.hid (h.setP (t' := { t with down := false }) 2 (.bool false) rfl rfl)
  have K1 : Hid (Keeps O w (w.setCell ⟨p, 2, none⟩ (.bool false))) := Keeps.setCell O _ ⟨p, 2, none⟩ _ h.Op
  have OK1 : Hid (TapeOk { t with down := false }) := ⟨hok.r0, hok.r1, hok.tot, hok.safe, hok.a0, hok.a1, hok.m0, hok.m1, hok.l0, hok.l1, hok.nm, hok.cnt⟩
  have HNA := Lib.hid (hN O p m _ _ T1.out OK1.out)
  unfold maxLen at hfl
  have r1 := hok.r1
  have hcnt := hok.cnt
  clear h hok hfv hfo hd
  go_enter Try.func15, Try.ntmps15
  go_wp2_with fail
  refine HNA.out.mono ?_
  rintro e w2 ⟨v, ns, rfl, hperm, hrow, hb⟩
  have N2 := Lib.hid (NamesAt.of hrow)
  have HP := Lib.hid hperm
  have T2 := Lib.hid (T1.out.below hb)
  have K2 := Lib.hid (K1.out.trans (Keeps.below O hb))
  have hsz : w.heap.size ≤ (w.setCell ⟨p, 2, none⟩ (.bool false)).heap.size := K1.out.size
  have hnl : ns.length ≤ 256 := by
    have := hperm.length_eq
    simp only [List.length_map] at this
    omega
  clear hrow hb hperm HNA K1 c0 c1 c2 c3 c4 c5 cf2
  generalize (w.setCell ⟨p, 2, none⟩ (.bool false)).heap.size = B at *
  obtain ⟨an, capn, rfl, -⟩ := id N2.out
  go_wp2
  go_loopw [4, 25] (fun nn i wr => ∃ (k n : Nat) (fs : List TF), nn = .int .i64 n ∧ i = .int .i64 k ∧ k ≤ ns.length ∧ n ≤ k ∧ TapeW wr O p m { t with down := false, files := fs } ∧ Keeps O w wr ∧ NamesAt wr (.slice an ns.length capn) ns B ∧ OnOk t.room fs (t.files.map (·.name)) ∧ onGo fates ns 0 t.files = onGo fates (ns.drop k) n fs) (fun _ i _ => ns.length - (intOf i).toNat)
  case atStart => exact ⟨0, 0, t.files, rfl, rfl, by omega, by omega, T2.out, K2.out, N2.out, ⟨HK.out.tot, HK.out.safe, rfl⟩, rfl⟩
  case round =>
    obtain ⟨k, n, fs, rfl, rfl, hk, hn, hT, hK, hNA, hOO, hgo⟩ := hrel
    have TR := Lib.hid hT
    have KR := Lib.hid hK
    have NR := Lib.hid hNA
    have OR := Lib.hid hOO
    have GR := Lib.hid hgo
    clear hT hK hNA hOO hgo
    by_cases hlt : k < ns.length
    · obtain ⟨x, hx⟩ : ∃ x, ns[k]? = some x := ⟨ns[k], by simp [hlt]⟩
      have hdrop : Hid (ns.drop k = x :: ns.drop (k + 1)) := by
        obtain ⟨h1, h2⟩ := List.getElem?_eq_some_iff.1 hx
        rw [Hid, List.drop_eq_getElem_cons h1, h2]
      obtain ⟨ga, off, cap', he, hB, hg, p0⟩ : ∃ g off cap', Value.slice an ns.length capn = .slice (some ⟨g, off, none⟩) ns.length cap' ∧ B ≤ g ∧ g < wr.heap.size ∧ wr.cell? ⟨g, off + k, none⟩ = some (.string ⟨x.toArray⟩) := by
        obtain ⟨a, cap, e, hc⟩ := NR.out
        obtain ⟨g, off, rfl, h1, h2, h3⟩ := hc k x hx
        exact ⟨g, off, cap, e, h1, h2, h3⟩
      injection he with he1 he2 he3
      subst he1 he3
      clear he2
      have hxin : x ∈ fs.map (·.name) := by rw [OR.out.nm]; exact HP.out.subset (List.mem_of_getElem? hx)
      obtain ⟨f, hgf⟩ : ∃ f, getF fs x = some f := by
        cases hg : getF fs x with
        | some f => exact ⟨f, rfl⟩
        | none =>
          obtain ⟨f, hf, hfe⟩ := List.mem_map.1 hxin
          exact absurd hfe (getF_none hg f hf)
      have hlk := TR.out.M.lookup (P := Try.prog) (T := 48) Try.underlying48 Try.underlying9 x (z := .pointer none) zeroF
      rw [show look (fmap (Tp.mk fs t.room false t.acts t.armed t.life).files) x = some f.ptr from by rw [look_fmap]; show (getF fs x).map TF.ptr = _; rw [hgf]; rfl] at hlk
      have HGF := Lib.hid hgf
      have hfm := (getF_mem hgf).1
      have CF := Lib.hid (TR.out.F f hfm)
      have f0 : wr.cell? ⟨f.blk, 0, none⟩ = some (.string ⟨f.data.toArray⟩) := CF.out.cell 0
      have f1 : wr.cell? ⟨f.blk, 1, none⟩ = some (.int .i64 f.safe) := CF.out.cell 1
      obtain ⟨q0, q1, q2, q3, q4, q5⟩ := tape_cells TR.out
      have hsafe := OR.out.safe f hfm
      have hdl : (f.data.length : Int) ≤ 4194304 := by
        have := total_mem hfm
        have := OR.out.tot
        omega
      clear hgf hx hxin hfm
      go_upto_region 7 with (fail)
      go_region
      go_upto_region 8 with (fail)
      have hk256 : (k : Int) < 1000 := by omega
      by_cases hz : f.data.length = f.safe
      · have HG2 : Hid (onGo fates ns 0 t.files = onGo fates (ns.drop (k + 1)) n fs) := by
          rw [Hid, GR.out, hdrop.out]
          show (match getF fs x with | none => _ | some f => _) = _
          rw [HGF.out]
          show (if f.data.length = f.safe then _ else _) = _
          rw [if_pos hz]
        have hz' : ((f.data.length : Int) - (f.safe : Int) == 0) = true := by rw [beq_iff_eq]; omega
        have TX : Hid (TapeW wr.drew O p m { t with down := false, files := fs }) := TR.out.below (Below.refl _ _).drew
        have KX : Hid (Keeps O w wr.drew) := KR.out.trans (Keeps.drew _ _)
        have NX := Lib.hid (NR.out.keep (Keeps.drew (fun _ => False) _) (fun _ _ => id))
        clear hz
        go_wp2
        go_roundw
        case rel =>
          exact ⟨k + 1, n, fs, rfl, by go_num, by omega, by omega, TX.out, KX.out, NX.out, OR.out, HG2.out⟩
        case measure => simp [intOf]; omega
      · have hz' : ((f.data.length : Int) - (f.safe : Int) == 0) = false := by rw [beq_eq_false_iff_ne]; omega
        have TX : Hid (TapeW wr.drew O p m { t with down := false, files := fs }) := TR.out.below (Below.refl _ _).drew
        have KX : Hid (Keeps O w wr.drew) := KR.out.trans (Keeps.drew _ _)
        have NX := Lib.hid (NR.out.keep (Keeps.drew (fun _ => False) _) (fun _ _ => id))
        have HGX : Hid (onGo fates ns 0 t.files = onGo fates (ns.drop (k + 1)) (n + 1) (modF fs x (onF fates n))) := by
          rw [Hid, GR.out, hdrop.out]
          show (match getF fs x with | none => _ | some f => _) = _
          rw [HGF.out]
          show (if f.data.length = f.safe then _ else _) = _
          rw [if_neg hz]
        by_cases hfz : fates.length = 0
        · have hFT : Hid (fateOf fates n = 0) := by rw [Hid, fateOf, if_pos hfz]
          go_upto_region 13 with (fail)
          clear hfz
          generalize wr.drew = wx at *
          have CX := TX.out.F f (getF_mem HGF.out).1
          have x0 : wx.cell? ⟨f.blk, 0, none⟩ = some (.string ⟨f.data.toArray⟩) := CX.cell 0
          have x1 : wx.cell? ⟨f.blk, 1, none⟩ = some (.int .i64 f.safe) := CX.cell 1
          have xf0 := CX.free 0
          have xf1 := CX.free 1
          have hkept := Lib.hid (fun W => kept_any (fateOf fates n) (f.data.length - f.safe) (by omega) W)
          rw [show (((f.data.length - f.safe : Nat)) : Int) = (f.data.length : Int) - (f.safe : Int) by omega] at hkept
          have hkl := keptN_le (fateOf fates n) (f.data.length - f.safe)
          have hol : Hid (onLen fates f n = ((f.safe : Int) + keptN (fateOf fates n) (f.data.length - f.safe)).toNat) := by rw [Hid, onLen]; omega
          have hole := Lib.hid (onLen_le fates f n hsafe)
          rw [hFT.out] at *
          generalize hkk : keptN 0 (f.data.length - f.safe) = kk at *
          have HKK := Lib.hid hkk
          have h1 : (0 : Int) ≤ (f.safe : Int) + kk := by omega
          have h2 : (f.safe : Int) + kk ≤ (f.data.length : Int) := by omega
          clear hkk
          generalize hrr : ((f.safe : Int) + kk).toNat = rr at *
          have HRR := Lib.hid hrr
          have hrr2 : (f.safe : Int) + kk = (rr : Int) := by omega
          clear hrr
          have hwr : IntKind.i64.wrap (rr : Int) = (rr : Int) := by rw [IntKind.wrap_i64]; omega
          have h3 : (rr : Int) ≤ (f.data.length : Int) := by omega
          have htl : ((f.data.take rr).length : Int) = (rr : Int) := by rw [List.length_take]; omega
          go_cut [] (fun wz => wz = (wx.setCell ⟨f.blk, 0, none⟩ (.string ⟨(f.data.take rr).toArray⟩)).drew)
          case first =>
            go_region_law (first
              | (go_simp; go_at_call 28; refine (hkept.out _).mono ?_; rintro e w8 ⟨rfl, rfl⟩))
            all_goals
              go_wp2_with fail
              go_meet
              case rel => rfl
          case rest =>
            subst hcut
            have C6 : Cl ((wx.setCell ⟨f.blk, 0, none⟩ (.string ⟨(f.data.take rr).toArray⟩)).drew.setCell ⟨f.blk, 1, none⟩ (.int .i64 rr)) f.blk [.string ⟨(f.data.take rr).toArray⟩, .int .i64 rr] 55 := ((CX.set 0 (.string ⟨(f.data.take rr).toArray⟩)).drewN 1).set 1 (.int .i64 rr)
            have KK : Keeps (fun j => j = f.blk) wx ((wx.setCell ⟨f.blk, 0, none⟩ (.string ⟨(f.data.take rr).toArray⟩)).drew.setCell ⟨f.blk, 1, none⟩ (.int .i64 rr)) := ((Keeps.setCell (fun j => j = f.blk) _ ⟨f.blk, 0, none⟩ _ rfl).trans (Keeps.drew _ _)).trans (Keeps.setCell (fun j => j = f.blk) _ ⟨f.blk, 1, none⟩ _ rfl)
            have T6 : Hid (TapeW ((wx.setCell ⟨f.blk, 0, none⟩ (.string ⟨(f.data.take rr).toArray⟩)).drew.setCell ⟨f.blk, 1, none⟩ (.int .i64 rr)) O p m { t with down := false, files := modF fs x (onF fates n) }) := TX.out.setF HGF.out (onF fates n) (onF_same fates n) KK (by
              rw [TF.cells, onF]
              dsimp only
              rw [hol.out]
              exact C6)
            have hof := TX.out.Of f (getF_mem HGF.out).1
            have K6 : Hid (Keeps O w ((wx.setCell ⟨f.blk, 0, none⟩ (.string ⟨(f.data.take rr).toArray⟩)).drew.setCell ⟨f.blk, 1, none⟩ (.int .i64 rr))) := KX.out.trans (KK.mono (fun j _ e => e ▸ hof))
            have N6 := Lib.hid (NX.out.keep KK (fun j hj e => by have := H.out.lt _ hof; omega))
            have y0 : (wx.setCell ⟨f.blk, 0, none⟩ (.string ⟨(f.data.take rr).toArray⟩)).drew.cell? ⟨f.blk, 0, none⟩ = some (.string ⟨(f.data.take rr).toArray⟩) := (CX.set 0 (.string ⟨(f.data.take rr).toArray⟩)).cell 0
            have y1 : (wx.setCell ⟨f.blk, 0, none⟩ (.string ⟨(f.data.take rr).toArray⟩)).drew.cell? ⟨f.blk, 1, none⟩ = some (.int .i64 f.safe) := (CX.set 0 (.string ⟨(f.data.take rr).toArray⟩)).cell 1
            have yf1 : (wx.setCell ⟨f.blk, 0, none⟩ (.string ⟨(f.data.take rr).toArray⟩)).drew.frozen? ⟨f.blk, 1, none⟩ = false := (CX.set 0 (.string ⟨(f.data.take rr).toArray⟩)).free 1
            have O6 := Lib.hid (onOk_step OR.out (by have := TX.out.names; exact this) HGF.out fates n)
            generalize (wx.setCell ⟨f.blk, 0, none⟩ (.string ⟨(f.data.take rr).toArray⟩)).drew = w7 at *
            clear C6 KK hof
            have hmin : min rr f.data.length = rr := by omega
            go_wp2
            go_roundw
            case rel => exact ⟨k + 1, n + 1, _, by go_num, by go_num, by omega, by omega, T6.out, K6.out, N6.out, O6.out, HGX.out⟩
            case measure => simp [intOf]; omega
        · have hFT : Hid (fateOf fates n = fates.getD (n % fates.length) 0) := by rw [Hid, fateOf, if_neg hfz]
          obtain ⟨afx, capfx, eaf, hcf⟩ := HI.out.keepO KX.out (HO.out hfz)
          have hlen0 : 0 < fates.length := by omega
          obtain ⟨gf, off2, rfl, hgf, hcell⟩ := hcf (n % fates.length) (Nat.mod_lt _ hlen0)
          injection eaf with eaf1 eaf2 eaf3
          subst eaf1
          have hrem : (n : Int).tmod (fates.length : Int) = ((n % fates.length : Nat) : Int) := by
            rw [Int.tmod_eq_emod_of_nonneg (by omega)]
            exact (Int.natCast_emod n fates.length).symm
          have hml : ((n % fates.length : Nat) : Int) < (fates.length : Int) := by
            have := Nat.mod_lt n hlen0
            omega
          have hmz : (0 : Int) ≤ ((n % fates.length : Nat) : Int) := by omega
          have hlz : (0 : Int) < (fates.length : Int) := by omega
          clear hcf eaf2 eaf3
          generalize n % fates.length = nm at *
          generalize fates.getD nm 0 = ft at *
          go_upto_region 13 with (fail)
          clear hfz
          generalize wr.drew = wx at *
          have CX := TX.out.F f (getF_mem HGF.out).1
          have x0 : wx.cell? ⟨f.blk, 0, none⟩ = some (.string ⟨f.data.toArray⟩) := CX.cell 0
          have x1 : wx.cell? ⟨f.blk, 1, none⟩ = some (.int .i64 f.safe) := CX.cell 1
          have xf0 := CX.free 0
          have xf1 := CX.free 1
          have hkept := Lib.hid (fun W => kept_any (fateOf fates n) (f.data.length - f.safe) (by omega) W)
          rw [show (((f.data.length - f.safe : Nat)) : Int) = (f.data.length : Int) - (f.safe : Int) by omega] at hkept
          have hkl := keptN_le (fateOf fates n) (f.data.length - f.safe)
          have hol : Hid (onLen fates f n = ((f.safe : Int) + keptN (fateOf fates n) (f.data.length - f.safe)).toNat) := by rw [Hid, onLen]; omega
          have hole := Lib.hid (onLen_le fates f n hsafe)
          rw [hFT.out] at *
          generalize hkk : keptN ft (f.data.length - f.safe) = kk at *
          have HKK := Lib.hid hkk
          have h1 : (0 : Int) ≤ (f.safe : Int) + kk := by omega
          have h2 : (f.safe : Int) + kk ≤ (f.data.length : Int) := by omega
          clear hkk
          generalize hrr : ((f.safe : Int) + kk).toNat = rr at *
          have HRR := Lib.hid hrr
          have hrr2 : (f.safe : Int) + kk = (rr : Int) := by omega
          clear hrr
          have hwr : IntKind.i64.wrap (rr : Int) = (rr : Int) := by rw [IntKind.wrap_i64]; omega
          have h3 : (rr : Int) ≤ (f.data.length : Int) := by omega
          have htl : ((f.data.take rr).length : Int) = (rr : Int) := by rw [List.length_take]; omega
          go_cut [] (fun wz => wz = (wx.setCell ⟨f.blk, 0, none⟩ (.string ⟨(f.data.take rr).toArray⟩)).drew)
          case first =>
            go_region_law (first
              | (go_simp; go_at_call 28; refine (hkept.out _).mono ?_; rintro e w8 ⟨rfl, rfl⟩))
            all_goals
              go_wp2_with fail
              go_meet
              case rel => rfl
          case rest =>
            subst hcut
            have C6 : Cl ((wx.setCell ⟨f.blk, 0, none⟩ (.string ⟨(f.data.take rr).toArray⟩)).drew.setCell ⟨f.blk, 1, none⟩ (.int .i64 rr)) f.blk [.string ⟨(f.data.take rr).toArray⟩, .int .i64 rr] 55 := ((CX.set 0 (.string ⟨(f.data.take rr).toArray⟩)).drewN 1).set 1 (.int .i64 rr)
            have KK : Keeps (fun j => j = f.blk) wx ((wx.setCell ⟨f.blk, 0, none⟩ (.string ⟨(f.data.take rr).toArray⟩)).drew.setCell ⟨f.blk, 1, none⟩ (.int .i64 rr)) := ((Keeps.setCell (fun j => j = f.blk) _ ⟨f.blk, 0, none⟩ _ rfl).trans (Keeps.drew _ _)).trans (Keeps.setCell (fun j => j = f.blk) _ ⟨f.blk, 1, none⟩ _ rfl)
            have T6 : Hid (TapeW ((wx.setCell ⟨f.blk, 0, none⟩ (.string ⟨(f.data.take rr).toArray⟩)).drew.setCell ⟨f.blk, 1, none⟩ (.int .i64 rr)) O p m { t with down := false, files := modF fs x (onF fates n) }) := TX.out.setF HGF.out (onF fates n) (onF_same fates n) KK (by
              rw [TF.cells, onF]
              dsimp only
              rw [hol.out]
              exact C6)
            have hof := TX.out.Of f (getF_mem HGF.out).1
            have K6 : Hid (Keeps O w ((wx.setCell ⟨f.blk, 0, none⟩ (.string ⟨(f.data.take rr).toArray⟩)).drew.setCell ⟨f.blk, 1, none⟩ (.int .i64 rr))) := KX.out.trans (KK.mono (fun j _ e => e ▸ hof))
            have N6 := Lib.hid (NX.out.keep KK (fun j hj e => by have := H.out.lt _ hof; omega))
            have y0 : (wx.setCell ⟨f.blk, 0, none⟩ (.string ⟨(f.data.take rr).toArray⟩)).drew.cell? ⟨f.blk, 0, none⟩ = some (.string ⟨(f.data.take rr).toArray⟩) := (CX.set 0 (.string ⟨(f.data.take rr).toArray⟩)).cell 0
            have y1 : (wx.setCell ⟨f.blk, 0, none⟩ (.string ⟨(f.data.take rr).toArray⟩)).drew.cell? ⟨f.blk, 1, none⟩ = some (.int .i64 f.safe) := (CX.set 0 (.string ⟨(f.data.take rr).toArray⟩)).cell 1
            have yf1 : (wx.setCell ⟨f.blk, 0, none⟩ (.string ⟨(f.data.take rr).toArray⟩)).drew.frozen? ⟨f.blk, 1, none⟩ = false := (CX.set 0 (.string ⟨(f.data.take rr).toArray⟩)).free 1
            have O6 := Lib.hid (onOk_step OR.out (by have := TX.out.names; exact this) HGF.out fates n)
            generalize (wx.setCell ⟨f.blk, 0, none⟩ (.string ⟨(f.data.take rr).toArray⟩)).drew = w7 at *
            clear C6 KK hof
            have hmin : min rr f.data.length = rr := by omega
            go_wp2
            go_roundw
            case rel => exact ⟨k + 1, n + 1, _, by go_num, by go_num, by omega, by omega, T6.out, K6.out, N6.out, O6.out, HGX.out⟩
            case measure => simp [intOf]; omega
    · obtain rfl : k = ns.length := by omega
      have HG2 : Hid (onGo fates ns 0 t.files = fs) := by
        rw [Hid, GR.out, List.drop_length]; rfl
      go_wp2
      go_end0
      refine ⟨rfl, ns, HP.out, ?_, KR.out⟩
      rw [HG2.out]; exact TR.out

end Go.Proofs.Ytohimlahncbpjaa
