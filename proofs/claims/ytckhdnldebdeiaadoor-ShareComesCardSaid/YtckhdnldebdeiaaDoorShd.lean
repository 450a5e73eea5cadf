/-
  ShareComes: the walk.
  Conditions: none.
-/
import Derived.Test.YtckhdnldebdeiaaDoorShc
set_option linter.unusedVariables false
set_option linter.unusedSimpArgs false
namespace Go.Proofs.YtckhdnldebdeiaaDoor
open Go.RowKit

theorem take_snoc (ms : List Sh.Nm) (k : Nat) (h : k < ms.length) : ms.take (k + 1) = ms.take k ++ [ms.getD k []] := by
  rw [List.take_succ_eq_append_getElem h]
  simp [List.getD, h]
set_option maxRecDepth 20000 in
set_option maxHeartbeats 6400000 in
theorem comes_walk (parts : Int) (hp0 : -9223372036854775808 ≤ parts) (hp1 : parts ≤ 9223372036854775807) (v : Value) (ms : List Sh.Nm) (one : Sh.Nm) (hone : one.length ≤ maxLen) (w : World) (h : Txts w v ms) (hm : ms.length ≤ maxLen) (hl : ∀ l ∈ ms, l.length ≤ maxLen) :
    Calls Tryd.prog 5 #[.int .i64 parts, v, .string ⟨one.toArray⟩] w fun e w' => e = .returned (.bool true) ∧ Below w.heap.size w w' := by
  have HZ := Lib.hid h
  obtain ⟨a, cap, rfl, _⟩ := h
  have hm' := hm
  have ho' := hone
  unfold maxLen at hm' ho'
  have HL := Lib.hid hl
  go_enter Tryd.func5, Tryd.ntmps5
  go_wp2_with fail
  refine (awake_any w).mono ?_
  rintro e w1 ⟨rfl, hb1⟩
  have B1 := Lib.hid hb1
  clear hb1
  go_wp2_with fail
  refine (great_any _ ms w1 (HZ.out.kept B1.out) hm hl).mono ?_
  rintro e w1' ⟨rfl, rfl⟩
  cases hgr : greatB ms with
  | true =>
    go_wp2
    go_ret
    exact ⟨rfl, B1.out⟩
  | false =>
    have h50 := (greatB_no hgr).1
    clear hgr
    by_cases ho1 : one.length ≤ 1000
    · go_wp2_with fail
      refine (good_any _ ms w1' (HZ.out.kept B1.out) hm hl).mono ?_
      rintro e w1 ⟨rfl, hb2⟩
      have B2 := Lib.hid (bt B1.out hb2)
      clear hb2 B1
      cases hgd : Sh.good ms with
      | false =>
        go_wp2
        go_ret
        exact ⟨rfl, B2.out⟩
      | true =>
        have HGD := Lib.hid hgd
        clear hgd
        have S3 : Hid (StrS (w1.alloc (.cells #[] 9)) w1.heap.size (.slice (some ⟨w1.heap.size, 0, none⟩) 0 0) []) := World.ownsRow_made w1 #[] 0 (Nat.le_refl _) (by unfold maxLen; omega) rfl
        have B3 : Hid (Below w1.heap.size w1 (w1.alloc (.cells #[] 9))) := (Below.refl _ _).alloc (Nat.le_refl _) _
        go_wp2
        go_loopw [7, 8, 9] (fun mo d i wr => ∃ (k : Nat) (db : Bool) (acc : List Sh.Nm), i = .int .i64 k ∧ k ≤ ms.length ∧ d = .bool db ∧ StrS wr w1.heap.size mo acc ∧ Ins one (ms.take k) db acc ∧ Below w1.heap.size w1 wr) (fun mo d i _ => ms.length - (intOf i).toNat)
        case atStart => exact ⟨0, false, [], rfl, by omega, rfl, S3.out, rfl, B3.out⟩
        case round =>
          obtain ⟨k, db, acc, rfl, hk, rfl, hs, hin, hb⟩ := hrel
          have HS := Lib.hid hs
          have HI := Lib.hid hin
          have HB := Lib.hid hb
          have hal := hin.len
          rw [List.length_take] at hal
          obtain ⟨am, capm, rfl, hcm, hcmm⟩ := hs.form
          unfold maxLen at hcmm
          clear hs hin hb S3 B3
          by_cases hlt : k < ms.length
          · obtain ⟨a', cap', he, hcells⟩ := HZ.out
            injection he with he1 he2 he3
            subst he1 he3
            obtain ⟨g, off, rfl, hgg, hd1⟩ := hcells k hlt
            have hgw := Lib.hid hgg
            have HD := Lib.hid hd1
            have HX : Hid (∀ W, Below w1.heap.size w1 W → W.cell? ⟨g, off + k, none⟩ = some (.string ⟨(ms.getD k []).toArray⟩)) := fun W hb => ((B2.out.trans (hb.mono B2.out.size)).cell (p := ⟨g, off + k, none⟩) hgw.out).trans HD.out
            have hc1 := HX.out _ HB.out
            have HTK := Lib.hid (take_snoc ms k hlt)
            clear hcells he2 hgg hd1
            generalize ms.getD k [] = x at *
            cases db with
            | true =>
              obtain ⟨i7, hi7, hz07, hz17, hz27⟩ := info_parts infoStr
              have hsz7 := HB.out.size
              have hsrc7 := Lib.hid (str_src wr x)
              go_wp2_with (at_builtin; refine wpList_append_src rfl (.tmp 46) (.tmp 51) 22 rfl w1.heap.size 9 i7 (.string ⟨#[]⟩) 1 16 Tryd.underlying22 hi7 hz07 hz17 hz27 rfl (by decide) _ _ _ rfl (World.ownsRow.alloc HS.out _) _ _ _ rfl hsrc7.out ?_ ?_ ?_ ?_ ?_)
              · simp [Value.oneCell']
              · unfold maxLen; omega
              · omega
              · simp; omega
              intro v7 w7 hown7 hg7
              have S7 : Hid (StrS w7 w1.heap.size v7 (acc ++ [x])) := by
                show StrS _ _ _ _
                unfold StrS
                rw [List.length_append, List.map_append]
                first | exact hown7 | simpa using hown7
              have B7 : Hid (Below w1.heap.size w1 w7) := (HB.out.alloc HB.out.size _).grown hg7 (by simp; omega) (fun kk hkk => (HS.out.lt kk hkk).1)
              obtain ⟨a7, cap7, rfl, hcf7, hcg7⟩ := S7.out.form
              unfold maxLen at hcg7
              have hlen7 : (acc ++ [x]).length = acc.length + 1 := by rw [List.length_append, List.length_singleton]
              rw [hlen7] at hcf7 S7 ⊢
              clear hown7 hg7 hsrc7 hi7 hz07 hz17 hz27
              go_wp2
              go_roundw
              case rel => exact ⟨k + 1, true, _, by go_num, by omega, rfl, S7.out, by rw [HTK.out]; exact HI.out.snoc x, B7.out⟩
              case measure => simp [intOf]; omega
            | false =>
              by_cases hless : Op.bytesLess one x = true
              · obtain ⟨i6, hi6, hz06, hz16, hz26⟩ := info_parts infoStr
                have hsz6 := HB.out.size
                have hsrc6 := Lib.hid (str_src wr one)
                go_wp2_with (at_builtin; refine wpList_append_src rfl (.tmp 42) (.tmp 44) 22 rfl w1.heap.size 9 i6 (.string ⟨#[]⟩) 1 16 Tryd.underlying22 hi6 hz06 hz16 hz26 rfl (by decide) _ _ _ rfl (World.ownsRow.alloc HS.out _) _ _ _ rfl hsrc6.out ?_ ?_ ?_ ?_ ?_)
                · simp [Value.oneCell']
                · unfold maxLen; omega
                · omega
                · simp; omega
                intro v6 w6 hown6 hg6
                have S6 : Hid (StrS w6 w1.heap.size v6 (acc ++ [one])) := by
                  show StrS _ _ _ _
                  unfold StrS
                  rw [List.length_append, List.map_append]
                  first | exact hown6 | simpa using hown6
                have B6 : Hid (Below w1.heap.size w1 w6) := (HB.out.alloc HB.out.size _).grown hg6 (by simp; omega) (fun kk hkk => (HS.out.lt kk hkk).1)
                obtain ⟨a6, cap6, rfl, hcf6, hcg6⟩ := S6.out.form
                unfold maxLen at hcg6
                have hlen6 : (acc ++ [one]).length = acc.length + 1 := by rw [List.length_append, List.length_singleton]
                rw [hlen6] at hcf6 S6 ⊢
                clear hown6 hg6 hsrc6 hi6 hz06 hz16 hz26
                have hc2 := HX.out _ B6.out
                obtain ⟨i7, hi7, hz07, hz17, hz27⟩ := info_parts infoStr
                have hsz7 := B6.out.size
                have hsrc7 := Lib.hid (str_src w6 x)
                go_wp2_with (at_builtin; refine wpList_append_src rfl (.tmp 46) (.tmp 51) 22 rfl w1.heap.size 9 i7 (.string ⟨#[]⟩) 1 16 Tryd.underlying22 hi7 hz07 hz17 hz27 rfl (by decide) _ _ _ rfl (World.ownsRow.alloc S6.out _) _ _ _ rfl hsrc7.out ?_ ?_ ?_ ?_ ?_)
                · simp [Value.oneCell']
                · unfold maxLen; omega
                · omega
                · simp; omega
                intro v7 w7 hown7 hg7
                have S7 : Hid (StrS w7 w1.heap.size v7 ((acc ++ [one]) ++ [x])) := by
                  show StrS _ _ _ _
                  unfold StrS
                  rw [List.length_append, List.map_append]
                  first | exact hown7 | simpa using hown7
                have B7 : Hid (Below w1.heap.size w1 w7) := (B6.out.alloc B6.out.size _).grown hg7 (by simp; omega) (fun kk hkk => (S6.out.lt kk hkk).1)
                obtain ⟨a7, cap7, rfl, hcf7, hcg7⟩ := S7.out.form
                unfold maxLen at hcg7
                have hlen7 : ((acc ++ [one]) ++ [x]).length = (acc ++ [one]).length + 1 := by rw [List.length_append, List.length_singleton]
                rw [hlen7] at hcf7 S7 ⊢
                clear hown7 hg7 hsrc7 hi7 hz07 hz17 hz27
                go_wp2
                go_roundw
                case rel => exact ⟨k + 1, true, _, by go_num, by omega, rfl, S7.out, by rw [HTK.out]; exact HI.out.put.snoc x, B7.out⟩
                case measure => simp [intOf]; omega
              · obtain ⟨i7, hi7, hz07, hz17, hz27⟩ := info_parts infoStr
                have hsz7 := HB.out.size
                have hsrc7 := Lib.hid (str_src wr x)
                go_wp2_with (at_builtin; refine wpList_append_src rfl (.tmp 46) (.tmp 51) 22 rfl w1.heap.size 9 i7 (.string ⟨#[]⟩) 1 16 Tryd.underlying22 hi7 hz07 hz17 hz27 rfl (by decide) _ _ _ rfl (World.ownsRow.alloc HS.out _) _ _ _ rfl hsrc7.out ?_ ?_ ?_ ?_ ?_)
                · simp [Value.oneCell']
                · unfold maxLen; omega
                · omega
                · simp; omega
                intro v7 w7 hown7 hg7
                have S7 : Hid (StrS w7 w1.heap.size v7 (acc ++ [x])) := by
                  show StrS _ _ _ _
                  unfold StrS
                  rw [List.length_append, List.map_append]
                  first | exact hown7 | simpa using hown7
                have B7 : Hid (Below w1.heap.size w1 w7) := (HB.out.alloc HB.out.size _).grown hg7 (by simp; omega) (fun kk hkk => (HS.out.lt kk hkk).1)
                obtain ⟨a7, cap7, rfl, hcf7, hcg7⟩ := S7.out.form
                unfold maxLen at hcg7
                have hlen7 : (acc ++ [x]).length = acc.length + 1 := by rw [List.length_append, List.length_singleton]
                rw [hlen7] at hcf7 S7 ⊢
                clear hown7 hg7 hsrc7 hi7 hz07 hz17 hz27
                go_wp2
                go_roundw
                case rel => exact ⟨k + 1, false, _, by go_num, by omega, rfl, S7.out, by rw [HTK.out]; exact HI.out.snoc x, B7.out⟩
                case measure => simp [intOf]; omega
          · obtain rfl : k = ms.length := by omega
            rw [List.take_length] at HI
            cases db with
            | true =>
              obtain ⟨jj, hjj, haccj⟩ : ∃ j, j ≤ ms.length ∧ acc = ms.take j ++ one :: ms.drop j := by simpa [Ins] using HI.out
              have HJ := Lib.hid haccj
              have hmm : acc.length ≤ maxLen := by unfold maxLen; rw [haccj, List.length_append, List.length_cons, List.length_take, List.length_drop]; omega
              have hml : ∀ x ∈ acc, x.length ≤ maxLen := fun x hx => by
                rw [haccj] at hx
                rcases List.mem_append.1 hx with hx | hx
                · exact HL.out x (List.mem_of_mem_take hx)
                · rcases List.mem_cons.1 hx with rfl | hx
                  · exact hone
                  · exact HL.out x (List.mem_of_mem_drop hx)
              have HML := Lib.hid hml
              clear haccj hml
              go_wp2_with fail
              refine (good_any _ acc wr HS.out.txts hmm HML.out).mono ?_
              rintro e w8 ⟨rfl, hb8⟩
              have B8 : Hid (Below w1.heap.size w1 w8) := HB.out.trans (hb8.mono HB.out.size)
              have S8 : Hid (Txts w8 (.slice am acc.length capm) acc) := HS.out.txts.kept hb8
              clear hb8
              cases hgm : Sh.good acc with
              | false =>
                go_wp2
                go_ret
                exact ⟨rfl, B2.out.trans (B8.out.mono B2.out.size)⟩
              | true =>
                have HLE : Hid (∀ i, i < ms.length → (Sh.partsOf (ms.getD i []) 1 (Sh.ass parts acc)).length ≤ (Sh.partsOf (ms.getD i []) 1 (Sh.ass parts ms)).length) := fun i hi => by
                  have h2 := hgm
                  rw [HJ.out] at h2 ⊢
                  exact comes_le hjj HGD.out h2 hi
                have HPL : Hid (∀ (L : List Sh.Nm) (x : Sh.Nm), (Sh.partsOf x 1 (Sh.ass parts L)).length ≤ 3) := fun L x => Nat.le_trans (partsOf_le x _ 1) (ass_len parts L)
                clear hgm
                go_wp2
                go_loopw [10] (fun i wr => ∃ k : Nat, i = .int .i64 k ∧ k ≤ ms.length ∧ Below w8.heap.size w8 wr) (fun i _ => ms.length - (intOf i).toNat)
                case atStart => exact ⟨0, rfl, by omega, Below.refl _ _⟩
                case round =>
                  obtain ⟨k, rfl, hk, hb⟩ := hrel
                  have B9 := Lib.hid hb
                  clear hb
                  by_cases hlt : k < ms.length
                  · obtain ⟨a', cap', he, hcells⟩ := HZ.out
                    injection he with he1 he2 he3
                    subst he1 he3
                    obtain ⟨g, off, rfl, hgg, hd1⟩ := hcells k hlt
                    have hgw := Lib.hid hgg
                    have HD := Lib.hid hd1
                    have HBW : Hid (∀ W, Below w8.heap.size w8 W → Below w.heap.size w W) := fun W hb => B2.out.trans ((B8.out.trans (hb.mono B8.out.size)).mono B2.out.size)
                    have HX : Hid (∀ W, Below w8.heap.size w8 W → W.cell? ⟨g, off + k, none⟩ = some (.string ⟨(ms.getD k []).toArray⟩)) := fun W hb => ((HBW.out W hb).cell (p := ⟨g, off + k, none⟩) hgw.out).trans HD.out
                    have hc1 := HX.out _ B9.out
                    have B9d : Hid (Below w8.heap.size w8 wr.drew) := below_drewN B9.out 1
                    have hle := HLE.out k hlt
                    have hl1 := HPL.out acc (ms.getD k [])
                    have hl2 := HPL.out ms (ms.getD k [])
                    clear hcells he2 hgg hd1
                    generalize ms.getD k [] = x at *
                    have HP1 := Lib.hid (parts_any parts hp0 hp1 _ acc x wr.drew (S8.out.kept B9d.out) hmm HML.out)
                    have HP2 : Hid (∀ W, Below w8.heap.size w8 W → Calls Tryd.prog 9 #[.int .i64 parts, .slice (some ⟨g, off, none⟩) ms.length cap, .string ⟨x.toArray⟩] W (PartsPost W (Sh.partsOf x 1 (Sh.ass parts ms)))) := fun W hb => parts_any parts hp0 hp1 _ ms x W (HZ.out.kept (HBW.out W hb)) hm hl
                    generalize Sh.partsOf x 1 (Sh.ass parts acc) = P1 at *
                    generalize Sh.partsOf x 1 (Sh.ass parts ms) = P2 at *
                    go_wp2_with fail
                    go_region_held3 (fun W => W.cell? ⟨g, off + k, none⟩ = some (.string ⟨x.toArray⟩)) (first | assumption | exact hc1) (first
                      | (go_at_call 9; refine (HP2.out _ B10.out).mono ?_; rintro e w10 ⟨o10, rfl, hi10, hb10⟩; obtain ⟨a10, cap10, rfl, hcc10, hcd10, _⟩ := hi10.read; unfold maxLen at hcd10; have B11 : Hid (Below w8.heap.size w8 w10) := B10.out.trans (hb10.mono B10.out.size); have c10 := HX.out _ B11.out; clear hb10 hi10)
                      | (go_at_call 9; refine HP1.out.mono ?_; rintro e w9 ⟨o9, rfl, hi9, hb9⟩; obtain ⟨a9, cap9, rfl, hcc9, hcd9, _⟩ := hi9.read; unfold maxLen at hcd9; have B10 : Hid (Below w8.heap.size w8 w9) := B9d.out.trans (hb9.mono B9d.out.size); have c9 := HX.out _ B10.out; clear hb9 hi9))
                    go_wp2
                    go_roundw
                    case rel => exact ⟨k + 1, by go_num, by omega, B11.out⟩
                    case measure => simp [intOf]; omega
                  · obtain rfl : k = ms.length := by omega
                    go_wp2
                    go_ret
                    exact ⟨rfl, B2.out.trans ((B8.out.trans (B9.out.mono B8.out.size)).mono B2.out.size)⟩
            | false =>
              obtain ⟨i7, hi7, hz07, hz17, hz27⟩ := info_parts infoStr
              have hsz7 := HB.out.size
              have hsrc7 := Lib.hid (str_src wr one)
              go_wp2_with (at_builtin; refine wpList_append_src rfl (.tmp 55) (.tmp 57) 22 rfl w1.heap.size 9 i7 (.string ⟨#[]⟩) 1 16 Tryd.underlying22 hi7 hz07 hz17 hz27 rfl (by decide) _ _ _ rfl (World.ownsRow.alloc HS.out _) _ _ _ rfl hsrc7.out ?_ ?_ ?_ ?_ ?_)
              · simp [Value.oneCell']
              · unfold maxLen; omega
              · omega
              · simp; omega
              intro v7 w7 hown7 hg7
              have S7 : Hid (StrS w7 w1.heap.size v7 (acc ++ [one])) := by
                show StrS _ _ _ _
                unfold StrS
                rw [List.length_append, List.map_append]
                first | exact hown7 | simpa using hown7
              have B7 : Hid (Below w1.heap.size w1 w7) := (HB.out.alloc HB.out.size _).grown hg7 (by simp; omega) (fun kk hkk => (HS.out.lt kk hkk).1)
              obtain ⟨a7, cap7, rfl, hcf7, hcg7⟩ := S7.out.form
              unfold maxLen at hcg7
              have hlen7 : (acc ++ [one]).length = acc.length + 1 := by rw [List.length_append, List.length_singleton]
              rw [hlen7] at hcf7 S7 ⊢
              clear hown7 hg7 hsrc7 hi7 hz07 hz17 hz27
              obtain ⟨jj, hjj, haccj⟩ : ∃ j, j ≤ ms.length ∧ (acc ++ [one]) = ms.take j ++ one :: ms.drop j := by simpa [Ins] using HI.out.put
              have HJ := Lib.hid haccj
              have hmm : (acc ++ [one]).length ≤ maxLen := by unfold maxLen; rw [haccj, List.length_append, List.length_cons, List.length_take, List.length_drop]; omega
              have hml : ∀ x ∈ (acc ++ [one]), x.length ≤ maxLen := fun x hx => by
                rw [haccj] at hx
                rcases List.mem_append.1 hx with hx | hx
                · exact HL.out x (List.mem_of_mem_take hx)
                · rcases List.mem_cons.1 hx with rfl | hx
                  · exact hone
                  · exact HL.out x (List.mem_of_mem_drop hx)
              have HML := Lib.hid hml
              clear haccj hml
              go_wp2_with fail
              refine (good_any _ (acc ++ [one]) w7 S7.out.txts hmm HML.out).mono ?_
              rintro e w8 ⟨rfl, hb8⟩
              have B8 : Hid (Below w1.heap.size w1 w8) := B7.out.trans (hb8.mono B7.out.size)
              have S8 : Hid (Txts w8 (.slice a7 (acc.length + 1) cap7) (acc ++ [one])) := S7.out.txts.kept hb8
              clear hb8
              cases hgm : Sh.good (acc ++ [one]) with
              | false =>
                go_wp2
                go_ret
                exact ⟨rfl, B2.out.trans (B8.out.mono B2.out.size)⟩
              | true =>
                have HLE : Hid (∀ i, i < ms.length → (Sh.partsOf (ms.getD i []) 1 (Sh.ass parts (acc ++ [one]))).length ≤ (Sh.partsOf (ms.getD i []) 1 (Sh.ass parts ms)).length) := fun i hi => by
                  have h2 := hgm
                  rw [HJ.out] at h2 ⊢
                  exact comes_le hjj HGD.out h2 hi
                have HPL : Hid (∀ (L : List Sh.Nm) (x : Sh.Nm), (Sh.partsOf x 1 (Sh.ass parts L)).length ≤ 3) := fun L x => Nat.le_trans (partsOf_le x _ 1) (ass_len parts L)
                clear hgm
                go_wp2
                go_loopw [10] (fun i wr => ∃ k : Nat, i = .int .i64 k ∧ k ≤ ms.length ∧ Below w8.heap.size w8 wr) (fun i _ => ms.length - (intOf i).toNat)
                case atStart => exact ⟨0, rfl, by omega, Below.refl _ _⟩
                case round =>
                  obtain ⟨k, rfl, hk, hb⟩ := hrel
                  have B9 := Lib.hid hb
                  clear hb
                  by_cases hlt : k < ms.length
                  · obtain ⟨a', cap', he, hcells⟩ := HZ.out
                    injection he with he1 he2 he3
                    subst he1 he3
                    obtain ⟨g, off, rfl, hgg, hd1⟩ := hcells k hlt
                    have hgw := Lib.hid hgg
                    have HD := Lib.hid hd1
                    have HBW : Hid (∀ W, Below w8.heap.size w8 W → Below w.heap.size w W) := fun W hb => B2.out.trans ((B8.out.trans (hb.mono B8.out.size)).mono B2.out.size)
                    have HX : Hid (∀ W, Below w8.heap.size w8 W → W.cell? ⟨g, off + k, none⟩ = some (.string ⟨(ms.getD k []).toArray⟩)) := fun W hb => ((HBW.out W hb).cell (p := ⟨g, off + k, none⟩) hgw.out).trans HD.out
                    have hc1 := HX.out _ B9.out
                    have B9d : Hid (Below w8.heap.size w8 wr.drew) := below_drewN B9.out 1
                    have hle := HLE.out k hlt
                    have hl1 := HPL.out (acc ++ [one]) (ms.getD k [])
                    have hl2 := HPL.out ms (ms.getD k [])
                    clear hcells he2 hgg hd1
                    generalize ms.getD k [] = x at *
                    have HP1 := Lib.hid (parts_any parts hp0 hp1 _ (acc ++ [one]) x wr.drew (S8.out.kept B9d.out) hmm HML.out)
                    have HP2 : Hid (∀ W, Below w8.heap.size w8 W → Calls Tryd.prog 9 #[.int .i64 parts, .slice (some ⟨g, off, none⟩) ms.length cap, .string ⟨x.toArray⟩] W (PartsPost W (Sh.partsOf x 1 (Sh.ass parts ms)))) := fun W hb => parts_any parts hp0 hp1 _ ms x W (HZ.out.kept (HBW.out W hb)) hm hl
                    generalize Sh.partsOf x 1 (Sh.ass parts (acc ++ [one])) = P1 at *
                    generalize Sh.partsOf x 1 (Sh.ass parts ms) = P2 at *
                    go_wp2_with fail
                    go_region_held3 (fun W => W.cell? ⟨g, off + k, none⟩ = some (.string ⟨x.toArray⟩)) (first | assumption | exact hc1) (first
                      | (go_at_call 9; refine (HP2.out _ B10.out).mono ?_; rintro e w10 ⟨o10, rfl, hi10, hb10⟩; obtain ⟨a10, cap10, rfl, hcc10, hcd10, _⟩ := hi10.read; unfold maxLen at hcd10; have B11 : Hid (Below w8.heap.size w8 w10) := B10.out.trans (hb10.mono B10.out.size); have c10 := HX.out _ B11.out; clear hb10 hi10)
                      | (go_at_call 9; refine HP1.out.mono ?_; rintro e w9 ⟨o9, rfl, hi9, hb9⟩; obtain ⟨a9, cap9, rfl, hcc9, hcd9, _⟩ := hi9.read; unfold maxLen at hcd9; have B10 : Hid (Below w8.heap.size w8 w9) := B9d.out.trans (hb9.mono B9d.out.size); have c9 := HX.out _ B10.out; clear hb9 hi9))
                    go_wp2
                    go_roundw
                    case rel => exact ⟨k + 1, by go_num, by omega, B11.out⟩
                    case measure => simp [intOf]; omega
                  · obtain rfl : k = ms.length := by omega
                    go_wp2
                    go_ret
                    exact ⟨rfl, B2.out.trans ((B8.out.trans (B9.out.mono B8.out.size)).mono B2.out.size)⟩
    · go_wp2
      go_ret
      exact ⟨rfl, B1.out⟩

end Go.Proofs.YtckhdnldebdeiaaDoor
