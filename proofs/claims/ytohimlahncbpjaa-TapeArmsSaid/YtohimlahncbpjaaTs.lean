/-
  TapeArms, walked.
  Conditions: none but the model's longest length.
-/
import Derived.Test.YtohimlahncbpjaaTr
set_option linter.unusedVariables false
set_option linter.unusedSimpArgs false
namespace Go.Proofs.Ytohimlahncbpjaa
open Go.RowKit

theorem getF_of_names {fs : List TF} {n0 n : List UInt8} (h : ∀ f ∈ fs, f.name = n0) (hn : n ≠ n0) : getF fs n = none := by
  cases hg : getF fs n with
  | none => rfl
  | some f =>
    obtain ⟨h1, h2⟩ := getF_mem hg
    exact absurd (h2.symm.trans (h f h1)) hn
structure ArmsI (t : Tp) (k : Nat) (N : Int) : Prop where
  acts : t.acts = k
  armed : t.armed = N - k
  pos : (k : Int) < N
  down : t.down = false
  life : t.life = 0
  room : t.room = 1048576
  tot : total t.files ≤ 1024 * k
  nm : ∀ f ∈ t.files, f.name = [97]
set_option maxRecDepth 100000 in
set_option maxHeartbeats 3200000 in
theorem arms_walk (n : Int) (v : Value) (l : List Pt) (w : World) (h : Parts w v l) (hm : l.length ≤ maxLen) (hok : ∀ x ∈ l, x.s.length ≤ maxLen) :
    Calls Try.prog 6 #[.int .i64 n, v] w fun e w' => e = .returned (.bool true) ∧ Below w.heap.size w w' := by
  have HA := Lib.hid h
  have HO := Lib.hid hok
  unfold maxLen at hm
  obtain ⟨a, cap, rfl, -⟩ := id h
  obtain ⟨j, hj, hjm⟩ := uint_rem n 100 (by omega) (by omega)
  clear h hok
  go_enter Try.func6, Try.ntmps6
  go_wp2_with fail
  refine (awake_any _).mono ?_
  rintro e w1 ⟨rfl, hb1⟩
  have B1 := Lib.hid hb1
  clear hb1
  go_wp2_with fail
  refine (newTape_any 1048576 (by omega) (by omega) _).mono ?_
  rintro e w2 ⟨rfl, h2, hb2⟩
  have T2 := Lib.hid (Tw.new (w0 := w) (by omega) (by omega) B1.out h2 hb2)
  clear h2 hb2
  generalize (fun k => w1.heap.size ≤ k ∧ k < w1.heap.size + 2) = O1 at T2
  generalize hp : w1.heap.size + 1 = p at T2 ⊢
  generalize w1.heap.size = m at T2
  clear hp
  go_wp2_with fail
  refine (arm_any O1 p m _ (1 + (j : Int)) (by omega) _ T2.out.T).mono ?_
  rintro e w3 ⟨rfl, h3, k3⟩
  have T3 : Hid (Tw w w3 O1 p m { newT 1048576 with armed := 1 + (j : Int) }) := T2.out.step h3 (Sp.of k3) ⟨T2.out.K.r0, T2.out.K.r1, T2.out.K.tot, T2.out.K.safe, T2.out.K.a0, T2.out.K.a1, (by show (0 : Int) ≤ 1 + (j : Int); omega), (by show 1 + (j : Int) ≤ 9223372036854775807; omega), T2.out.K.l0, T2.out.K.l1, T2.out.K.nm, T2.out.K.cnt⟩
  have I3 : Hid (ArmsI { newT 1048576 with armed := 1 + (j : Int) } 0 (1 + (j : Int))) := ⟨rfl, (by show 1 + (j : Int) = 1 + (j : Int) - ((0 : Nat) : Int); omega), (by omega), rfl, rfl, rfl, (by show total ([] : List TF) ≤ 1024 * 0; decide), fun f hf => (by cases hf)⟩
  clear h3 k3 T2
  generalize ({ newT 1048576 with armed := 1 + (j : Int) } : Tp) = t3 at *
  go_wp2
  go_loopw [6, 7] (fun ac i wr => ∃ (k : Nat) (O : Nat → Prop) (t : Tp), ac = .int .i64 k ∧ i = .int .i64 k ∧ k ≤ l.length ∧ k ≤ 80 ∧ ArmsI t k (1 + (j : Int)) ∧ Tw w wr O p m t) (fun _ i _ => l.length - (intOf i).toNat)
  case atStart => exact ⟨0, O1, t3, rfl, rfl, by omega, by omega, I3.out, T3.out⟩
  case round =>
    obtain ⟨k, O, t, rfl, rfl, hk, hk2, hI, hT⟩ := hrel
    have TT := Lib.hid hT
    have II := Lib.hid hI
    clear hI hT
    by_cases hlt : k < l.length
    · by_cases h80 : k < 80
      · obtain ⟨x, hx⟩ : ∃ x, l[k]? = some x := ⟨l[k], by simp [hlt]⟩
        have hxl := HO.out x (List.mem_of_getElem? hx)
        have HXL := Lib.hid hxl
        obtain ⟨g, off, cap', he, hg, p0, p1, p2⟩ := HA.out.get TT.out.B hx
        injection he with he1 he2 he3
        subst he1 he3
        obtain ⟨xn, xs, xy⟩ := x
        dsimp only at *
        unfold maxLen at hxl
        clear he2 hx
        by_cases hbig : 1024 < xs.length
        · have BB := Lib.hid TT.out.B
          go_wp2
          go_ret
          exact ⟨rfl, BB.out⟩
        · go_wp2_with fail
          refine (read_any O p m t [97] _ TT.out.T).mono ?_
          rintro e w8 ⟨rfl, rfl⟩
          generalize readV t [97] = rv
          go_wp2_with fail
          refine (sync_none O p m t [110, 111, 110, 101] _ TT.out.T II.out.down (getF_of_names II.out.nm (by decide))).mono ?_
          rintro e w8 ⟨rfl, rfl⟩
          go_wp2_with fail
          refine (append_arg O p m t [] [120] _ TT.out.T II.out.down rfl).mono ?_
          rintro e w8 ⟨rfl, rfl⟩
          go_wp2_with fail
          refine (acts_any O p m t _ TT.out.T).mono ?_
          rintro e w8 ⟨rfl, rfl⟩
          rw [II.out.acts]
          have hlf : t.files.length ≤ 1 := by
            have h1 := TT.out.T.names
            have h2 := II.out.nm
            match hfs : t.files with
            | [] => simp
            | [f] => simp
            | f :: g :: r =>
              rw [hfs] at h1 h2
              simp only [List.map_cons, List.nodup_cons, List.mem_cons, not_or] at h1
              exact absurd ((h2 f (by simp)).trans (h2 g (by simp)).symm) h1.1.1
          have hfit : (getF t.files [97] = none → t.files.length < 256) ∧ (xs.length : Int) ≤ t.room - total t.files := by
            have h1 := II.out.tot
            have h2 := II.out.room
            exact ⟨fun _ => by omega, by omega⟩
          have ha := II.out.acts
          have hl0 := II.out.life
          have HFIT := Lib.hid hfit
          go_wp2_with fail
          refine (append_any O p m t [97] xs _ TT.out.T TT.out.K HXL.out II.out.down (by omega) (by omega) rfl).mono ?_
          intro e w9 hpost
          rcases hpost with ⟨_, b, he9, O9, h9, s9⟩ | ⟨hno, _⟩
          · subst he9
            have OK9 : TapeOk (actT (appT t [97] xs b)) := by
              have h0 := appT_ok (n := [97]) TT.out.K b HFIT.out.2 TT.out.T.names rfl HFIT.out.1
              obtain ⟨m1, m2, m3, m4, m5⟩ := appT_more t [97] xs b
              exact actT_ok h0 (by rw [m2]; omega) (by rw [m3]; omega)
            have T9 := Lib.hid (TT.out.step h9 s9 OK9)
            clear h9 s9 OK9
            obtain ⟨m1, m2, m3, m4, m5⟩ := appT_more t [97] xs b
            obtain ⟨q1, q2, q3, q4⟩ := actT_more (appT t [97] xs b)
            have hpos := II.out.pos
            have harm := II.out.armed
            rw [m5] at q2 q3 q4
            by_cases h1 : t.armed = 1
            · obtain ⟨d1, d2, d3⟩ := q4 h1
              have e1 : ((k : Int) + 1 == 1 + (j : Int)) = true := by rw [beq_iff_eq]; omega
              have HV : Hid (actV t = 10) := by rw [Hid, actV, if_pos h1]
              have HD := Lib.hid d1
              have HL : Hid ((actT (appT t [97] xs b)).life = 1) := by rw [Hid, d2, m3, hl0]; rfl
              have HAC : Hid ((actT (appT t [97] xs b)).acts = (k : Int) + 1) := by rw [Hid, q1, m2, ha]
              rw [HV.out]
              clear q1 q2 q3 q4 d1 d2 d3 m1 m2 m3 m4 m5 ha hl0 harm hlf hfit h1
              generalize actT (appT t [97] xs b) = t9 at *
              go_wp2_with fail
              refine (down_any O9 p m t9 _ T9.out.T).mono ?_
              rintro e w8 ⟨rfl, rfl⟩
              rw [HD.out]
              go_wp2_with fail
              refine (acts_any O9 p m t9 _ T9.out.T).mono ?_
              rintro e w8 ⟨rfl, rfl⟩
              rw [HAC.out]
              go_wp2_with fail
              refine (down_any O9 p m t9 _ T9.out.T).mono ?_
              rintro e w8 ⟨rfl, rfl⟩
              rw [HD.out]
              go_wp2_with fail
              refine (life_any O9 p m t9 _ T9.out.T).mono ?_
              rintro e w8 ⟨rfl, rfl⟩
              rw [HL.out]
              go_wp2
              go_ret
              exact ⟨rfl, T9.out.B⟩
            · have h2 : 1 < t.armed := by omega
              obtain ⟨d1, d2, d3⟩ := q3 h2
              have e1 : ((k : Int) + 1 == 1 + (j : Int)) = false := by rw [beq_eq_false_iff_ne]; omega
              have HV : Hid (actV t = 0) := by rw [Hid, actV, if_neg h1]
              have HD : Hid ((actT (appT t [97] xs b)).down = false) := by rw [Hid, d2, m1]; exact II.out.down
              have HAC : Hid ((actT (appT t [97] xs b)).acts = (k : Int) + 1) := by rw [Hid, q1, m2, ha]
              have HI9 : Hid (ArmsI (actT (appT t [97] xs b)) (k + 1) (1 + (j : Int))) := by
                obtain ⟨f1, f2⟩ := actT_files (appT t [97] xs b)
                refine ⟨by rw [HAC.out]; omega, by rw [d1]; omega, by omega, HD.out, by rw [d3, m3]; exact hl0, by rw [f2, m4]; exact II.out.room, ?_, fun f hf => ?_⟩
                · rw [f1, appT_total]
                  have := II.out.tot
                  omega
                · rw [f1] at hf
                  rcases names_appT t [97] xs b f hf with h | ⟨g, hg, h⟩
                  · exact h
                  · rw [← h]; exact II.out.nm g hg
              rw [HV.out]
              clear q1 q2 q3 q4 d1 d2 d3 m1 m2 m3 m4 m5 ha hl0 harm hlf hfit h1 h2
              generalize actT (appT t [97] xs b) = t9 at *
              go_wp2_with fail
              refine (down_any O9 p m t9 _ T9.out.T).mono ?_
              rintro e w8 ⟨rfl, rfl⟩
              rw [HD.out]
              go_wp2_with fail
              refine (acts_any O9 p m t9 _ T9.out.T).mono ?_
              rintro e w8 ⟨rfl, rfl⟩
              rw [HAC.out]
              go_wp2_with fail
              refine (down_any O9 p m t9 _ T9.out.T).mono ?_
              rintro e w8 ⟨rfl, rfl⟩
              rw [HD.out]
              go_wp2
              go_roundw
              case rel => exact ⟨k + 1, O9, t9, by go_num, by go_num, by omega, by omega, HI9.out, T9.out⟩
              case measure => simp [intOf]; omega
          · exact absurd HFIT.out hno
      · have hkk : k = 80 := by omega
        have HL := Lib.hid II.out.life
        go_wp2_with fail
        refine (life_any O p m t _ TT.out.T).mono ?_
        rintro e w8 ⟨rfl, rfl⟩
        rw [HL.out]
        go_wp2
        go_ret
        exact ⟨rfl, TT.out.B⟩
    · obtain rfl : k = l.length := by omega
      have HL := Lib.hid II.out.life
      go_wp2_with fail
      refine (life_any O p m t _ TT.out.T).mono ?_
      rintro e w8 ⟨rfl, rfl⟩
      rw [HL.out]
      go_wp2
      go_ret
      exact ⟨rfl, TT.out.B⟩

end Go.Proofs.Ytohimlahncbpjaa
