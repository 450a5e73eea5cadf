/-
  TapeFull, walked.
  Conditions: none but the model's longest length.
-/
import Derived.Test.YtohimlahncbpjaaTr
import Derived.Laws.IdiomStrings
set_option linter.unusedVariables false
set_option linter.unusedSimpArgs false
namespace Go.Proofs.Ytohimlahncbpjaa
open Go.RowKit

/-- A name of one letter. -/
def nmOf (r : Nat) : List UInt8 := [UInt8.ofNat (97 + r)]
theorem nmOf_ok (r : Nat) : isNm (nmOf r) = true := rfl
theorem convName (r : Nat) (hr : r < 4) (w : World) (g : Nat) (h : w.cell? ⟨g, 0, none⟩ = some (.int .u8 (97 + (r : Int)))) :
    (convert 29 9 (.slice (some ⟨g, 0, none⟩) 1 1)).run Try.prog w = .ok (.string ⟨(nmOf r).toArray⟩) w := by
  have := run_convert_bytes_back (P := Try.prog) w 29 9 5 ⟨g, 0, none⟩ 1 (nmOf r) Try.underlying29 Try.underlying5 Try.underlying9 (fun j hj => by
    have hj0 : j = 0 := by simp [nmOf] at hj; omega
    subst hj0
    show w.cell? ⟨g, 0, none⟩ = _
    rw [h]
    have e : (UInt8.ofNat (97 + r)).toNat = 97 + r := by simp; omega
    show _ = some (Value.int .u8 (((UInt8.ofNat (97 + r)).toNat : Nat) : Int))
    rw [e]
    congr 2)
  exact this
def wasOf (t : Tp) (n : List UInt8) : List UInt8 := ((getF t.files n).map (·.data)).getD []
def codeOf (t : Tp) (n : List UInt8) : Int := if (getF t.files n).isSome then 0 else 12
theorem readV_eq {t : Tp} (hd : t.down = false) (n : List UInt8) : readV t n = .tuple #[.string ⟨(wasOf t n).toArray⟩, .int .i64 (codeOf t n)] := by
  unfold readV wasOf codeOf
  rw [hd]
  cases getF t.files n <;> rfl
theorem wasOf_le (t : Tp) (n : List UInt8) : (wasOf t n).length ≤ total t.files := by
  unfold wasOf
  cases hg : getF t.files n with
  | none => simp
  | some f => exact total_mem (getF_mem hg).1
theorem wasOf_app (t : Tp) (n s : List UInt8) (b : Nat) : wasOf (appT t n s b) n = wasOf t n ++ s := by
  have h := appT_get t n s b n
  rw [if_pos rfl] at h
  unfold wasOf
  cases hg : getF t.files n with
  | none =>
    rw [hg] at h
    cases hf : getF (appT t n s b).files n with
    | none => rw [hf] at h; simp at h
    | some f => rw [hf] at h; simp at h; simp [h.1]
  | some f0 =>
    rw [hg] at h
    cases hf : getF (appT t n s b).files n with
    | none => rw [hf] at h; simp at h
    | some f => rw [hf] at h; simp at h; simp [h.1]
theorem wasOf_act (t : Tp) (n : List UInt8) : wasOf (actT t) n = wasOf t n ∧ codeOf (actT t) n = codeOf t n := by
  unfold wasOf codeOf
  rw [(actT_files t).1]
  exact ⟨rfl, rfl⟩
structure FullI (t : Tp) (k S : Nat) (room : Int) : Prop where
  down : t.down = false
  armed : t.armed = 0
  acts : t.acts ≤ k
  life : t.life = 0
  room : t.room = room
  tot : total t.files = S
  len : t.files.length ≤ k
theorem names_len {t : Tp} {w : World} {e : Ending} {w' : World} (h : NamesPost t w e w') : ∃ a cap, e = .returned (.slice a t.files.length cap) ∧ Below w.heap.size w w' := by
  obtain ⟨v, ns, he, hp, hrow, hb⟩ := h
  obtain ⟨a, cap, hv, _⟩ := (Sl.ofOwn hrow).form
  have hl := hp.length_eq
  simp only [List.length_map] at hl
  exact ⟨a, cap, by rw [he, hv, hl], hb⟩
set_option maxRecDepth 100000 in
set_option maxHeartbeats 3200000 in
theorem full_walk (n : Int) (v : Value) (l : List Pt) (w : World) (h : Parts w v l) (hm : l.length ≤ maxLen) (hok : ∀ x ∈ l, x.s.length ≤ maxLen) :
    Calls Try.prog 3 #[.int .i64 n, v] w fun e w' => e = .returned (.bool true) ∧ Below w.heap.size w w' := by
  have HA := Lib.hid h
  have HO := Lib.hid hok
  unfold maxLen at hm
  obtain ⟨a, cap, rfl, -⟩ := id h
  obtain ⟨j, hj, hjm⟩ := uint_rem n 3000 (by omega) (by omega)
  clear h hok
  go_enter Try.func3, Try.ntmps3
  go_wp2_with fail
  refine (awake_any _).mono ?_
  rintro e w1 ⟨rfl, hb1⟩
  have B1 := Lib.hid hb1
  clear hb1
  go_wp2_with fail
  refine (newTape_any (j : Int) (by omega) (by omega) _).mono ?_
  rintro e w2 ⟨rfl, h2, hb2⟩
  have T2 := Lib.hid (Tw.new (w0 := w) (by omega) (by omega) B1.out h2 hb2)
  have I2 : Hid (FullI (newT j) 0 0 j) := ⟨rfl, rfl, (by decide : (0 : Int) ≤ 0), rfl, rfl, rfl, (by decide : 0 ≤ 0)⟩
  clear h2 hb2
  generalize (fun k => w1.heap.size ≤ k ∧ k < w1.heap.size + 2) = O1 at T2
  generalize hp : w1.heap.size + 1 = p at T2 ⊢
  generalize w1.heap.size = m at T2
  clear hp
  generalize newT (j : Int) = t2 at *
  go_wp2
  go_loopw [6, 7] (fun ac i wr => ∃ (k S : Nat) (O : Nat → Prop) (t : Tp), ac = .int .i64 S ∧ i = .int .i64 k ∧ k ≤ l.length ∧ k ≤ 60 ∧ (S : Int) ≤ j ∧ FullI t k S j ∧ Tw w wr O p m t) (fun _ i _ => l.length - (intOf i).toNat)
  case atStart => exact ⟨0, 0, O1, t2, rfl, rfl, by omega, by omega, by omega, I2.out, T2.out⟩
  case round =>
    obtain ⟨k, S, O, t, rfl, rfl, hk, hk2, hSj, hI, hT⟩ := hrel
    have TT := Lib.hid hT
    have II := Lib.hid hI
    clear hI hT
    by_cases hlt : k < l.length
    · by_cases h60 : k < 60
      · obtain ⟨x, hx⟩ : ∃ x, l[k]? = some x := ⟨l[k], by simp [hlt]⟩
        have hxl := HO.out x (List.mem_of_getElem? hx)
        have HXL := Lib.hid hxl
        have HGET := Lib.hid (fun (W : World) (hW : Below w.heap.size w W) => HA.out.get hW hx)
        obtain ⟨g, off, cap', he, hg, p0, p1, p2⟩ := HA.out.get TT.out.B hx
        injection he with he1 he2 he3
        subst he1 he3
        obtain ⟨xn, xs, xy⟩ := x
        dsimp only at *
        unfold maxLen at hxl
        clear he2 hx
        have HCELL : Hid (∀ W : World, Below w.heap.size w W → W.cell? ⟨g, off + k * 3 + 1, none⟩ = some (.string ⟨xs.toArray⟩)) := fun W hW => by
          obtain ⟨g', off', cap', he, _, _, q1, _⟩ := HGET.out W hW
          injection he with he1
          injection he1 with he1
          injection he1 with h1 h2
          subst h1 h2
          exact q1
        obtain ⟨r, hr, hrm⟩ := uint_rem xn 4 (by omega) (by omega)
        have hr4 : r < 4 := by omega
        have TA : Hid (Tw w (wr.alloc (.cells #[.int .u8 (97 + (r : Int))] 5)) O p m t) := TT.out.below ((Below.refl _ _).alloc (Nat.le_refl _) _)
        have hcv := convName r hr4 (wr.alloc (.cells #[.int .u8 (97 + (r : Int))] 5)) wr.heap.size ((Cl.new wr [.int .u8 (97 + (r : Int))] 5).cell 0)
        clear HGET
        go_upto_region 10 with (fail)
        generalize wr.alloc (.cells #[.int .u8 (97 + (r : Int))] 5) = wa at *
        clear hcv p0 p1 p2
        have p1 := HCELL.out wa TA.out.B
        have HNM := Lib.hid (nmOf_ok r)
        generalize nmOf r = nm at *
        go_wp2_with fail
        refine (read_any O p m t nm _ TA.out.T).mono ?_
        rintro e w8 ⟨rfl, rfl⟩
        rw [readV_eq II.out.down]
        have hwl := wasOf_le t nm
        rw [II.out.tot] at hwl
        go_wp2_with fail
        refine (names_any O p m t _ TA.out.T TA.out.K).mono ?_
        intro e w9 hnp
        obtain ⟨an, capn, rfl, hb9⟩ := names_len hnp
        have T9 := Lib.hid (TA.out.below hb9)
        clear hnp hb9 p1
        have p1 := HCELL.out w9 T9.out.B
        have hacts := II.out.acts
        have hlife := II.out.life
        have hflen := II.out.len
        go_wp2_with fail
        refine (append_any O p m t nm xs _ T9.out.T T9.out.K HXL.out II.out.down (by omega) (by omega) HNM.out).mono ?_
        intro e w10 hpost
        rcases hpost with ⟨⟨hf1, hf2⟩, b, he9, O10, h10, s10⟩ | ⟨hno, he9, O10, h10, s10⟩
        · subst he9
          have hS2 : (S : Int) + xs.length ≤ j := by
            have h1 := II.out.tot
            have h2 := II.out.room
            rw [h1, h2] at hf2
            omega
          obtain ⟨m1, m2, m3, m4, m5⟩ := appT_more t nm xs b
          obtain ⟨q1, q2, q3, q4⟩ := actT_more (appT t nm xs b)
          have harm := II.out.armed
          rw [m5] at q2
          obtain ⟨d1, d2, d3⟩ := q2 harm
          have OK10 : TapeOk (actT (appT t nm xs b)) := by
            have h0 := appT_ok (n := nm) T9.out.K b hf2 T9.out.T.names HNM.out hf1
            exact actT_ok h0 (by rw [m2]; omega) (by rw [m3]; omega)
          have T10 := Lib.hid (T9.out.step h10 s10 OK10)
          have HV : Hid (actV t = 0) := by rw [Hid, actV, if_neg (by omega)]
          have I10 : Hid (FullI (actT (appT t nm xs b)) (k + 1) (S + xs.length) j) := by
            obtain ⟨f1, f2⟩ := actT_files (appT t nm xs b)
            refine ⟨by rw [d2, m1]; exact II.out.down, d1, by rw [q1, m2]; omega, by rw [d3, m3]; exact hlife, by rw [f2, m4]; exact II.out.room, by rw [f1, appT_total, II.out.tot], ?_⟩
            rw [f1, appT_len]
            split <;> omega
          have HW : Hid (wasOf (actT (appT t nm xs b)) nm = wasOf t nm ++ xs) := by rw [Hid, (wasOf_act _ _).1]; exact wasOf_app t nm xs b
          rw [HV.out]
          clear h10 s10 OK10 q1 q2 q3 q4 d1 d2 d3 m1 m2 m3 m4 m5 harm hf1 hf2 hacts hlife hflen p1
          have p1 := HCELL.out w10 T10.out.B
          generalize actT (appT t nm xs b) = t10 at *
          have hadd := add_str (wasOf t nm) xs (by omega)
          have hal : ((wasOf t nm).length : Int) + (xs.length : Int) ≤ 9223372036854775807 := by omega
          generalize wasOf t nm = was at *
          generalize codeOf t nm = code at *
          go_wp2_with fail
          refine (read_any O10 p m t10 nm _ T10.out.T).mono ?_
          rintro e w8 ⟨rfl, rfl⟩
          rw [readV_eq I10.out.down, HW.out]
          generalize codeOf t10 nm = code2
          go_wp2_with fail
          refine (left_any O10 p m t10 _ T10.out.T T10.out.K).mono ?_
          rintro e w11 ⟨rfl, hb11⟩
          have T11 := Lib.hid (T10.out.below hb11)
          clear hb11
          rw [I10.out.room, I10.out.tot]
          have hsum : ((S + xs.length : Nat) : Int) = (S : Int) + (xs.length : Int) := by omega
          rw [hsum]
          go_wp2
          go_roundw
          case rel => exact ⟨k + 1, S + xs.length, O10, t10, by rw [hsum], by go_num, by omega, by omega, by omega, I10.out, T11.out⟩
          case measure => simp [intOf]; omega
        · subst he9
          have hbig : (j : Int) - (S : Int) < (xs.length : Int) := by
            have h1 := II.out.tot
            have h2 := II.out.room
            rw [h1, h2] at hno
            have : ¬ ((xs.length : Int) ≤ (j : Int) - (S : Int)) := fun hh => hno ⟨fun _ => by omega, hh⟩
            omega
          have T10 := Lib.hid (T9.out.step h10 s10 T9.out.K)
          clear h10 s10 hno hacts hlife p1
          have p1 := HCELL.out w10 T10.out.B
          go_wp2_with fail
          refine (read_any O10 p m t nm _ T10.out.T).mono ?_
          rintro e w8 ⟨rfl, rfl⟩
          rw [readV_eq II.out.down]
          generalize wasOf t nm = was at *
          generalize codeOf t nm = code at *
          go_wp2_with fail
          refine (names_any O10 p m t _ T10.out.T T10.out.K).mono ?_
          intro e w11 hnp
          obtain ⟨an2, capn2, rfl, hb11⟩ := names_len hnp
          have T11 := Lib.hid (T10.out.below hb11)
          clear hnp hb11
          go_wp2_with fail
          refine (left_any O10 p m t _ T11.out.T T11.out.K).mono ?_
          rintro e w12 ⟨rfl, hb12⟩
          have T12 := Lib.hid (T11.out.below hb12)
          clear hb12
          rw [II.out.room, II.out.tot]
          have I12 : Hid (FullI t (k + 1) S j) := ⟨II.out.down, II.out.armed, by have := II.out.acts; omega, II.out.life, II.out.room, II.out.tot, by omega⟩
          go_wp2
          go_roundw
          case rel => exact ⟨k + 1, S, O10, t, rfl, by go_num, by omega, by omega, by omega, I12.out, T12.out⟩
          case measure => simp [intOf]; omega
      · go_wp2
        go_ret
        exact ⟨rfl, TT.out.B⟩
    · obtain rfl : k = l.length := by omega
      go_wp2
      go_ret
      exact ⟨rfl, TT.out.B⟩

end Go.Proofs.Ytohimlahncbpjaa
