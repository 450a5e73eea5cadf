/-
  Share: a partition's owner, a member's partitions, walked.
  Conditions: the model's longest length.
-/
import Derived.Test.YtckhdnldebdeiaaDoorShx
set_option linter.unusedVariables false
set_option linter.unusedSimpArgs false
namespace Go.Proofs.YtckhdnldebdeiaaDoor
open Go.RowKit

/-- Who owns the partition. -/
def ownerAt (ls : List Sh.Nm) (part : Int) : Sh.Nm × Bool := if 1 ≤ part ∧ part ≤ ls.length then (ls.getD (part.toNat - 1) [], true) else ([], false)
def OwnerPost (w : World) (q : Sh.Nm × Bool) (e : Ending) (w' : World) : Prop := e = .returned (.tuple #[.string ⟨q.1.toArray⟩, .bool q.2]) ∧ Below w.heap.size w w'
theorem ass_len (parts : Int) (ms : List Sh.Nm) : (Sh.ass parts ms).length ≤ 3 := by
  unfold Sh.ass
  split
  · rename_i hf
    simp only [Sh.fits, Bool.and_eq_true, decide_eq_true_eq, Sh.good, Bool.not_eq_true'] at hf
    obtain ⟨⟨⟨⟨_, h4⟩, h0⟩, hp0⟩, hp1⟩ := hf
    have hne : ms ≠ [] := by rintro rfl; simp at h0
    rw [Sh.own_all (by omega) hne h4]
    omega
  · simp
set_option maxHeartbeats 1600000 in
theorem owner_any (parts : Int) (hp0 : -9223372036854775808 ≤ parts) (hp1 : parts ≤ 9223372036854775807) (v : Value) (ms : List Sh.Nm) (part_ : Int) (w : World) (h : Txts w v ms) (hm : ms.length ≤ maxLen) (hl : ∀ l ∈ ms, l.length ≤ maxLen) :
    Calls Tryd.prog 10 #[.int .i64 parts, v, .int .i64 part_] w (OwnerPost w (ownerAt (Sh.ass parts ms) part_)) := by
  have HA := Lib.hid (assign_any parts hp0 hp1 v ms w h hm hl)
  have hln := ass_len parts ms
  clear h hl hm
  generalize Sh.ass parts ms = L at *
  go_enter Tryd.func10, Tryd.ntmps10
  go_wp2_with fail
  refine HA.out.mono ?_
  rintro e w1 ⟨o, rfl, ho, hb⟩
  have HO := Lib.hid ho
  have HB := Lib.hid hb
  obtain ⟨a, cap, rfl, hcap, hcapm, _⟩ := ho.read
  unfold maxLen at hcapm
  clear ho hb
  go_wp2
  go_loopw [14] (fun i wr => ∃ k : Nat, i = .int .i64 k ∧ k ≤ L.length ∧ (part_ < 1 ∨ (k : Int) < part_) ∧ Below w1.heap.size w1 wr) (fun i _ => L.length - (intOf i).toNat)
  case atStart => exact ⟨0, rfl, by omega, by omega, Below.refl _ _⟩
  case round =>
    obtain ⟨k, rfl, hk, hno, hb⟩ := hrel
    have HB2 := Lib.hid hb
    clear hb
    by_cases hlt : k < L.length
    · obtain ⟨a', cap', he, _, _, hcells⟩ := HO.out.read
      injection he with he1 he2 he3
      subst he1 he3
      obtain ⟨g, rfl, hg, hgb, hd1, hd2⟩ := hcells k hlt
      have hc1 := (HB2.out.cell (p := ⟨g, k * 2, none⟩) hg).trans hd1
      have hc2 := (HB2.out.cell (p := ⟨g, k * 2 + 1, none⟩) hg).trans hd2
      have HOW : Hid (part_ = (k : Int) + 1 → ownerAt L part_ = (L.getD k [], true)) := fun hp => by
        rw [ownerAt, if_pos (by omega), hp]
        simp
      clear hcells he2 hd1 hd2
      generalize L.getD k [] = x at *
      by_cases hpk : part_ = (k : Int) + 1
      · have HE := Lib.hid (HOW.out hpk)
        clear HOW
        go_wp2
        go_ret2
        exact ⟨by rw [HE.out]; rfl, HB.out.trans ((HB2.out.alloc HB2.out.size _).mono HB.out.size)⟩
      · clear HOW
        go_wp2
        go_roundw
        case rel => exact ⟨k + 1, by go_num, by omega, by omega, HB2.out.alloc HB2.out.size _⟩
        case measure => simp [intOf]; omega
    · obtain rfl : k = L.length := by omega
      have HE : Hid (ownerAt L part_ = ([], false)) := by
        rw [Hid, ownerAt, if_neg (by omega)]
      go_wp2
      go_ret2
      exact ⟨by rw [HE.out]; rfl, HB.out.trans (HB2.out.mono HB.out.size)⟩

/-- A slice of the call's own that holds these numbers. -/
def IntS (w : World) (base : Nat) (v : Value) (ns : List Nat) : Prop := w.ownsRow base 3 1 v ns.length (ns.map fun (n : Nat) => Value.int .i64 (n : Int))
theorem IntS.read {w : World} {base : Nat} {v : Value} {ls : List Nat} (h : IntS w base v ls) : ∃ a cap, v = .slice a ls.length cap ∧ ls.length ≤ cap ∧ cap ≤ maxLen ∧ ∀ i, i < ls.length → ∃ g, a = some ⟨g, 0, none⟩ ∧ g < w.heap.size ∧ base ≤ g ∧
    w.cell? ⟨g, i, none⟩ = some (.int .i64 ((ls.getD i 0 : Nat) : Int)) := by
  have hh := h
  rcases h.2 with ⟨rfl, h0⟩ | ⟨g, cap, cur, rfl, hB, hg, hn, hm, hs, ht⟩
  · exact ⟨none, 0, by rw [h0], by omega, by unfold maxLen; omega, fun i hi => by omega⟩
  · refine ⟨_, cap, rfl, hn, hm, fun i hi => ⟨g, rfl, (Array.getElem?_eq_some_iff.1 hg).1, hB, ?_⟩⟩
    have := hh.cells (g := g) rfl i (.int .i64 ((ls.getD i 0 : Nat) : Int)) (by simp [List.getD, hi])
    rwa [Addr.add_mid, Nat.zero_add] at this
theorem IntS.below {w w' : World} {base : Nat} {v : Value} {ls : List Nat} (h : IntS w base v ls) (hb : Below w.heap.size w w') : IntS w' base v ls := ownsRow_below h hb
theorem IntS.lower {w : World} {base base' : Nat} {v : Value} {ls : List Nat} (h : IntS w base v ls) (hb : base' ≤ base) : IntS w base' v ls := by
  refine ⟨h.1, ?_⟩
  rcases h.2 with h2 | ⟨g, cap, cur, h1, hB, h3⟩
  · exact .inl h2
  · exact .inr ⟨g, cap, cur, h1, Nat.le_trans hb hB, h3⟩
theorem int_src (w : World) (n : Int) : SrcIs (w.alloc (.cells #[.int .i64 n] 3)) 1 (.slice (some ⟨w.heap.size, 0, none⟩) 1 1) 1 [.int .i64 n] := by
  refine .inr ⟨_, 1, rfl, rfl, fun j u hu => ?_⟩
  rw [Addr.add_mid, Nat.zero_add, cell_of_row (w.alloc _) w.heap.size j _ _ (0, 0) (heap_alloc_new w _)]
  simpa using hu
def PartsPost (w : World) (ns : List Nat) (e : Ending) (w' : World) : Prop := ∃ o, e = .returned o ∧ IntS w' w.heap.size o ns ∧ Below w.heap.size w w'
theorem partsOf_take (a : Sh.Nm) (L : List Sh.Nm) (k : Nat) (h : k < L.length) : Sh.partsOf a 1 (L.take (k + 1)) = Sh.partsOf a 1 (L.take k) ++ if L.getD k [] = a then [k + 1] else [] := by
  rw [List.take_succ_eq_append_getElem h, Sh.partsOf_append, List.length_take, Nat.min_eq_left (by omega), show L.getD k [] = L[k] by simp [List.getD, h]]
  simp only [Sh.partsOf]
  rw [Nat.add_comm 1 k]
theorem partsOf_le (a : Sh.Nm) (L : List Sh.Nm) (k : Nat) : (Sh.partsOf a k L).length ≤ L.length := by
  induction L generalizing k with
  | nil => simp [Sh.partsOf]
  | cons x L ih =>
    rw [Sh.partsOf]
    have := ih (k + 1)
    split <;> simp <;> omega
set_option maxHeartbeats 1600000 in
theorem parts_any (parts : Int) (hp0 : -9223372036854775808 ≤ parts) (hp1 : parts ≤ 9223372036854775807) (v : Value) (ms : List Sh.Nm) (mem : Sh.Nm) (w : World) (h : Txts w v ms) (hm : ms.length ≤ maxLen) (hl : ∀ l ∈ ms, l.length ≤ maxLen) :
    Calls Tryd.prog 9 #[.int .i64 parts, v, .string ⟨mem.toArray⟩] w (PartsPost w (Sh.partsOf mem 1 (Sh.ass parts ms))) := by
  have HA := Lib.hid (assign_any parts hp0 hp1 v ms w h hm hl)
  have hln := ass_len parts ms
  clear h hl hm
  generalize Sh.ass parts ms = L at *
  go_enter Tryd.func9, Tryd.ntmps9
  go_wp2_with fail
  refine HA.out.mono ?_
  rintro e w1 ⟨o, rfl, ho, hb⟩
  have HO := Lib.hid ho
  have HB := Lib.hid hb
  obtain ⟨a, cap, rfl, hcap, hcapm, _⟩ := ho.read
  unfold maxLen at hcapm
  clear ho hb
  go_wp2
  go_loopw [7, 14] (fun u i wr => ∃ k : Nat, i = .int .i64 k ∧ k ≤ L.length ∧ IntS wr w1.heap.size u (Sh.partsOf mem 1 (L.take k)) ∧ Below w1.heap.size w1 wr) (fun u i _ => L.length - (intOf i).toNat)
  case atStart => exact ⟨0, rfl, by omega, ⟨by simp [Sh.partsOf], .inl ⟨rfl, rfl⟩⟩, Below.refl _ _⟩
  case round =>
    obtain ⟨k, rfl, hk, hu, hb⟩ := hrel
    have HB2 := Lib.hid hb
    have HU := Lib.hid hu
    obtain ⟨au, capu, rfl, hcu, hcum, _⟩ := hu.read
    unfold maxLen at hcum
    clear hb hu
    by_cases hlt : k < L.length
    · obtain ⟨a', cap', he, _, _, hcells⟩ := HO.out.read
      injection he with he1 he2 he3
      subst he1 he3
      obtain ⟨g, rfl, hg, hgb, hd1, hd2⟩ := hcells k hlt
      have hc1 := (HB2.out.cell (p := ⟨g, k * 2, none⟩) hg).trans hd1
      have hc2 := (HB2.out.cell (p := ⟨g, k * 2 + 1, none⟩) hg).trans hd2
      have HT := Lib.hid (partsOf_take mem L k hlt)
      have hple := partsOf_le mem (L.take k) 1
      rw [List.length_take] at hple
      clear hcells he2 hd1 hd2
      generalize L.getD k [] = x at *
      generalize Sh.partsOf mem 1 (L.take k) = N at *
      by_cases hx : x = mem
      · subst hx
        rw [if_pos rfl] at HT
        obtain ⟨i0, hi, hz0, hz1, hz2⟩ := info_parts infoInt
        have hsz := HB2.out.size
        have HB3 : Hid (Below w1.heap.size w1 (wr.alloc (.cells #[.int .i64 ((k : Int) + 1), .string ⟨x.toArray⟩] 36))) := HB2.out.alloc HB2.out.size _
        have HU3 : Hid (World.ownsRow (wr.alloc (.cells #[.int .i64 ((k : Int) + 1), .string ⟨x.toArray⟩] 36)) w1.heap.size 3 1 (.slice au N.length capu) N.length (N.map fun (n : Nat) => Value.int .i64 (n : Int))) := World.ownsRow.alloc HU.out _
        have hsrc := Lib.hid (int_src (wr.alloc (.cells #[.int .i64 ((k : Int) + 1), .string ⟨x.toArray⟩] 36)) ((k : Int) + 1))
        rw [World.size_alloc] at hsrc
        go_wp2_with (at_builtin; refine wpList_append_src rfl (.tmp 22) (.tmp 25) 25 rfl w1.heap.size 3 i0 (.int .i64 0) 1 8 Tryd.underlying25 hi hz0 hz1 hz2 rfl (by decide) _ _ _ rfl (World.ownsRow.alloc HU3.out _) _ _ _ rfl hsrc.out ?_ ?_ ?_ ?_ ?_)
        · simp [Value.oneCell']
        · unfold maxLen; omega
        · omega
        · simp; omega
        intro v' w2 hown2 hg2
        have HN2 : Hid (IntS w2 w1.heap.size v' (N ++ [k + 1]) ∧ Below w1.heap.size w1 w2) := by
          refine ⟨?_, (HB3.out.alloc HB3.out.size _).grown hg2 (by simp; omega) (fun kk hkk => (HU3.out.lt kk hkk).1)⟩
          unfold IntS
          rw [List.length_append, List.map_append]
          exact hown2
        clear hown2 hg2 hsrc HU3
        go_wp2
        go_roundw
        case rel => exact ⟨k + 1, by go_num, by omega, by rw [HT.out]; exact HN2.out.1, HN2.out.2⟩
        case measure => simp [intOf]; omega
      · rw [if_neg hx, List.append_nil] at HT
        have hxb : (x == mem) = false := beq_eq_false_iff_ne.2 hx
        go_wp2
        go_roundw
        case rel => exact ⟨k + 1, by go_num, by omega, by rw [HT.out]; exact World.ownsRow.alloc HU.out _, HB2.out.alloc HB2.out.size _⟩
        case measure => simp [intOf]; omega
    · obtain rfl : k = L.length := by omega
      rw [List.take_length] at HU ⊢
      go_wp2
      go_ret
      exact ⟨_, rfl, HU.out.lower HB.out.size, HB.out.trans (HB2.out.mono HB.out.size)⟩

end Go.Proofs.YtckhdnldebdeiaaDoor
