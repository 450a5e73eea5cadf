/-
  Wire: numbers' bytes; the fields of a message of kind 3, its bytes (printed by wip/gen/mkwfields.py).
  Conditions: the numbers are such as a message's; the library's variables hold what they are laid with.
-/
import Derived.Test.YtbljbdjmgogknaaGreatDoorWg3
import Derived.Test.YtbljbdjmgogknaaGreatDoorCwe
import Derived.Test.YtbljbdjmgogknaaGreatDoorWalkb
set_option linter.unusedVariables false
set_option linter.unusedSimpArgs false
namespace Go.Proofs.YtbljbdjmgogknaaGreatDoor
open Go.RowKit

def WStrs (w : World) (ls : List (List UInt8)) (e : Ending) (w' : World) : Prop := ∃ v, e = .returned v ∧ w'.ownsRow w.heap.size 9 1 v ls.length (sv ls) ∧ Below w.heap.size w w'
theorem sv_append (a b : List (List UInt8)) : sv (a ++ b) = sv a ++ sv b := by simp [sv]
theorem sv_len (a : List (List UInt8)) : (sv a).length = a.length := by simp [sv]
theorem ownsRow_weaken {w : World} {b b' : Nat} {e : TypeId} {size : Nat} {v : Value} {n : Nat} {xs : List Value} (h : w.ownsRow b e size v n xs) (hb : b' ≤ b) : w.ownsRow b' e size v n xs := by
  refine ⟨h.1, ?_⟩
  rcases h.2 with h2 | ⟨g, cap, cur, e1, hB, r⟩
  · exact .inl h2
  · exact .inr ⟨g, cap, cur, e1, Nat.le_trans hb hB, r⟩
set_option maxRecDepth 20000 in
set_option maxHeartbeats 1600000 in
theorem wints_any (l : List Int) (hl : l.length ≤ 100000) (hr : ∀ x ∈ l, Bd.inR x) (v : Value) (w : World) (h : Ints w v l) (hw : Lw w) :
    Calls Tryz.prog 80 #[v] w (WStrs w (l.map Bd.bInt)) := by
  have HZ := Lib.hid h
  have HW := Lib.hid hw
  have HR := Lib.hid hr
  obtain ⟨a, cap, rfl⟩ := h.form
  obtain ⟨i0, hi, hz0, hz1, hz2⟩ := info_parts cinfoStr
  clear h hw hr
  go_enter Tryz.func80, Tryz.ntmps80
  go_wp2
  go_loopw [2, 7] (fun tv ti wr => ∃ k : Nat, ti = .int .i64 k ∧ k ≤ l.length ∧ wr.ownsRow w.heap.size 9 1 tv k (sv ((l.map Bd.bInt).take k)) ∧ Below w.heap.size w wr) (fun _ ti _ => l.length - (intOf ti).toNat)
  case atStart => exact ⟨0, rfl, by omega, ⟨by simp [sv], .inl ⟨rfl, rfl⟩⟩, Below.refl _ _⟩
  case round =>
    obtain ⟨k, rfl, hk, ho, hb⟩ := hrel
    have HO := Lib.hid ho
    have HB := Lib.hid hb
    clear ho hb
    by_cases hlt : k < l.length
    · obtain ⟨x, hx⟩ : ∃ x, l[k]? = some x := ⟨l[k], by simp [hlt]⟩
      have HJ := Lib.hid (beadInt_any x (HR.out x (List.mem_of_getElem? hx)) wr (HW.out.below HB.out))
      have HT : Hid (sv ((l.map Bd.bInt).take (k + 1)) = sv ((l.map Bd.bInt).take k) ++ sv [Bd.bInt x]) := by
        rw [Hid, ← sv_append]
        congr 1
        rw [List.take_succ_eq_append_getElem (by simpa using hlt)]
        obtain ⟨_, rfl⟩ := List.getElem?_eq_some_iff.1 hx
        simp
      obtain ⟨g, off, cap', he, hg, p0⟩ := HZ.out.get HB.out hx
      injection he with he1 he2 he3
      subst he1 he3
      clear he2
      generalize Bd.bInt x = bx at *
      go_wp2_with fail
      refine HJ.out.mono ?_
      rintro e w1 ⟨rfl, hb1⟩
      have HO1 := Lib.hid (ownsRow_below HO.out hb1)
      have HB1 := Lib.hid (bt HB.out hb1)
      have hsz := HB1.out.size
      clear hb1 HJ HO p0
      go_wp2_with (at_builtin; refine wpList_append_own _ rfl _ _ 93 rfl w.heap.size 9 i0 (.string ⟨#[]⟩) 1 16 Tryz.underlying93 hi hz0 hz1 hz2 rfl (by decide) _ _ _ rfl (World.ownsRow.alloc HO1.out _) ⟨w1.heap.size, 0, none⟩ 1 1 [.string ⟨bx.toArray⟩] rfl rfl (cell_one_new _ _ _) ?_ ?_ ?_ ?_ ?_)
      · simp [Value.oneCell']
      · unfold maxLen; omega
      · omega
      · simp; omega
      intro v' w2 hown2 hg2 _
      have HN : Hid (w2.ownsRow w.heap.size 9 1 v' (k + 1) (sv ((l.map Bd.bInt).take (k + 1)))) := by rw [Hid, HT.out]; exact hown2
      have HB2 : Hid (Below w.heap.size w w2) := (HB1.out.alloc hsz _).grown hg2 (by simp; omega) (fun kk hkk => (HO1.out.lt kk hkk).1)
      clear hown2 hg2
      go_wp2
      go_roundw
      case rel => exact ⟨k + 1, by go_num, by omega, HN.out, HB2.out⟩
      case measure => simp [intOf]; omega
    · obtain rfl : k = l.length := by omega
      have h9 := HO.out
      rw [List.take_of_length_le (by simp), show l.length = (l.map Bd.bInt).length by simp] at h9
      have HF := Lib.hid h9
      clear h9
      go_wp2
      go_ret
      exact ⟨_, rfl, HF.out, HB.out⟩
theorem ints3_cl {W : World} {g : Nat} {a b c : Int} {t : TypeId} (C : Cl W g [.int .i64 a, .int .i64 b, .int .i64 c] t) : Ints W (.slice (some ⟨g, 0, none⟩) 3 3) [a, b, c] := by
  refine ⟨_, 3, rfl, fun i hi => ⟨g, 0, rfl, C.lt, ?_⟩⟩
  rw [Nat.zero_add, Cl.cell C i]
  rcases (show i = 0 ∨ i = 1 ∨ i = 2 by simp at hi; omega) with rfl | rfl | rfl <;> rfl
theorem WStrs.strs {w w' : World} {ls : List (List UInt8)} {v : Value} (h : w'.ownsRow w.heap.size 9 1 v ls.length (sv ls)) : Strs w' v ls := strs_own h
def beatF (m : Wi.Msg) : List (List UInt8) := [Bd.bInt m.kind, Bd.bInt m.frm, Bd.bInt m.to, Bd.bInt m.life]
set_option maxRecDepth 20000 in
set_option maxHeartbeats 6400000 in
theorem fields_k3 (m : Wi.Msg) (v : MsgV) (w : World) (h : MsgAt w m v) (ok : MsgOk m) (hk : m.kind = 3) (hw : Lw w) :
    Calls Tryz.prog 47 #[msgV m v] w (WStrs w (beatF m)) := by
  have HW := Lib.hid hw
  have hn := ok.n
  simp only [List.mem_cons, List.not_mem_nil, or_false, forall_eq_or_imp, forall_eq] at hn
  obtain ⟨n0, n1, n2, n3, n4, n5, n6, n7, _⟩ := hn
  obtain ⟨i0, hi, hz0, hz1, hz2⟩ := info_parts cinfoStr
  obtain ⟨s0, c0, hh0⟩ := h.chain.form
  obtain ⟨s1, c1, hh1⟩ := h.lives.form
  obtain ⟨s2, c2, hh2⟩ := h.brecs.form
  obtain ⟨s3, c3, hh3⟩ := h.table.form
  obtain ⟨s4, c4, hh4⟩ := h.qrecs.form
  obtain ⟨s5, c5, hh5⟩ := h.parts.form
  obtain ⟨s6, c6, hh6⟩ := h.arecs.form
  obtain ⟨v0, v1, v2, v3, v4, v5, v6⟩ := v
  dsimp only at hh0 hh1 hh2 hh3 hh4 hh5 hh6
  subst hh0 hh1 hh2 hh3 hh4 hh5 hh6
  obtain ⟨x_kind, x_frm, x_to, x_part, x_ep, x_off, x_high, x_life, x_pep, x_chain, x_learner, x_lives, x_batch, x_table, x_req, x_resp⟩ := m
  dsimp only at *
  subst hk
  clear h ok hw n3 n4 n5 n6
  have HFM : Hid (beatF ⟨3, x_frm, x_to, x_part, x_ep, x_off, x_high, x_life, x_pep, x_chain, x_learner, x_lives, x_batch, x_table, x_req, x_resp⟩ = [3, x_frm, x_to].map Bd.bInt ++ [Bd.bInt x_life]) := rfl
  rw [HFM.out]
  unfold msgV msgC
  dsimp only
  go_enter Tryz.func47, Tryz.ntmps47
  obtain ⟨w1, hw1, CA, B1⟩ := oneBox (w := w) (.int .i64 3 :: .int .i64 x_frm :: .int .i64 x_to :: .int .i64 x_part :: .int .i64 x_ep :: .int .i64 x_off :: .int .i64 x_high :: .int .i64 x_life :: .int .i64 x_pep :: .slice s0 x_chain.length c0 :: .int .i64 x_learner :: .slice s1 x_lives.length c1 :: .int .i64 x_batch.base :: .int .i64 x_batch.count :: .int .i64 x_batch.prod :: .int .i64 x_batch.seq :: .int .i64 x_batch.time :: .slice s2 x_batch.recs.length c2 :: .slice s3 x_table.length c3 :: .int .i64 x_req.client :: .int .i64 x_req.n :: .int .i64 x_req.kind :: .int .i64 x_req.part :: .int .i64 x_req.seq :: .int .i64 x_req.off :: .int .i64 x_req.max :: .int .i64 x_req.gen :: .string ⟨x_req.group.toArray⟩ :: .string ⟨x_req.member.toArray⟩ :: .slice s4 x_req.recs.length c4 :: .int .i64 x_resp.client :: .int .i64 x_resp.n :: .int .i64 x_resp.code :: .int .i64 x_resp.off :: .int .i64 x_resp.high :: .int .i64 x_resp.gen :: .slice s5 x_resp.parts.length c5 :: .slice s6 x_resp.recs.length c6 :: []) 44
  have HW1 := Lib.hid hw1
  clear hw1
  go_upto_region 1 with (fail)
  first | rw [HW1.out] | skip
  clear HW1
  have hpa := CA.out.lt
  have HI : Hid (∀ W, Below w1.heap.size w1 W → w.heap.size ≤ W.heap.size) := fun W h => Nat.le_trans B1.out.size h.size
  have BW : Hid (∀ W, Below w1.heap.size w1 W → Below w.heap.size w W) := fun W h => bt B1.out h
  have LW1 := Lib.hid (HW.out.below B1.out)
  have HSW : Hid (w.heap.size ≤ w1.heap.size) := B1.out.size
  obtain ⟨pa, hpa2⟩ : ∃ pa, pa = w.heap.size := ⟨_, rfl⟩
  rw [← hpa2] at CA ⊢
  have HPA := Lib.hid hpa2
  clear hpa2 hpa
  have a0 := CA.out.cell 0
  have a1 := CA.out.cell 1
  have a2 := CA.out.cell 2
  simp only [List.getElem?_cons_zero, List.getElem?_cons_succ] at a0 a1 a2
  have C3 : Hid (Cl (w1.alloc (.cells #[.int .i64 3, .int .i64 x_frm, .int .i64 x_to] 3)) w1.heap.size [.int .i64 3, .int .i64 x_frm, .int .i64 x_to] 3) := Cl.new w1 _ _
  have B3 : Hid (Below w1.heap.size w1 (w1.alloc (.cells #[.int .i64 3, .int .i64 x_frm, .int .i64 x_to] 3))) := (Below.refl _ _).alloc (Nat.le_refl _) _
  have HC := Lib.hid (wints_any [3, x_frm, x_to] (by simp) (by simp only [List.mem_cons, List.not_mem_nil, or_false, forall_eq_or_imp, forall_eq]; exact ⟨n0, n1, n2⟩) _ _ (ints3_cl C3.out) (LW1.out.below B3.out))
  go_wp2_with fail
  refine HC.out.mono ?_
  rintro e w2 ⟨v2, rfl, ho2, hb2⟩
  have B2 := Lib.hid (bt B3.out hb2)
  have HO2 := Lib.hid ho2
  have hz2' : Hid (w1.heap.size + 1 ≤ w2.heap.size) := by have := hb2.size; rw [World.size_alloc] at this; exact this
  have HBA : Hid (w.heap.size ≤ (w1.alloc (.cells #[.int .i64 3, .int .i64 x_frm, .int .i64 x_to] 3)).heap.size) := by have := HSW.out; rw [Hid, World.size_alloc]; omega
  clear hb2 ho2 a0 a1 a2 HC C3 B3
  have CA2 := Lib.hid (CA.out.below B2.out)
  have a0 := CA2.out.cell 0
  have a7 := CA2.out.cell 7
  simp only [List.getElem?_cons_zero, List.getElem?_cons_succ] at a0 a7
  have LW2 := Lib.hid (LW1.out.below B2.out)
  have HJ := Lib.hid (beadInt_any x_life n7 w2 LW2.out)
  generalize hbl : Bd.bInt x_life = bl at *
  clear hbl
  have HOB : Hid (w2.ownsRow w.heap.size 9 1 v2 ([3, x_frm, x_to].map Bd.bInt).length (sv ([3, x_frm, x_to].map Bd.bInt))) := ownsRow_weaken HO2.out HBA.out
  go_wp2_with fail
  refine HJ.out.mono ?_
  rintro e w3 ⟨rfl, hb3⟩
  have HO3 := Lib.hid (ownsRow_below HOB.out hb3)
  have B3 := Lib.hid (bt B2.out hb3)
  have hs3 := HI.out _ B3.out
  clear hb3 HJ a0 a7 CA2 HO2 HOB
  go_wp2_with (at_builtin; refine wpList_append_own _ rfl _ _ 93 rfl w.heap.size 9 i0 (.string ⟨#[]⟩) 1 16 Tryz.underlying93 hi hz0 hz1 hz2 rfl (by decide) _ _ _ rfl (World.ownsRow.alloc HO3.out _) ⟨w3.heap.size, 0, none⟩ 1 1 [.string ⟨bl.toArray⟩] rfl rfl (cell_one_new _ _ _) ?_ ?_ ?_ ?_ ?_)
  · simp [Value.oneCell']
  · unfold maxLen; simp
  · simp
  · simp; omega
  intro v' w4 hown4 hg4 _
  have HF : Hid (w4.ownsRow w.heap.size 9 1 v' ([3, x_frm, x_to].map Bd.bInt ++ [bl]).length (sv ([3, x_frm, x_to].map Bd.bInt ++ [bl]))) := by rw [Hid, sv_append]; exact hown4
  have B4 : Hid (Below w.heap.size w w4) := ((BW.out _ B3.out).alloc hs3 _).grown hg4 (by simp; omega) (fun kk hkk => (HO3.out.lt kk hkk).1)
  clear hown4 hg4
  go_wp2
  go_ret
  exact ⟨_, rfl, HF.out, B4.out⟩
/-- The bytes of a message of kind 3, without their frame. -/
def beatB (m : Wi.Msg) : List UInt8 := 108 :: ((beatF m).flatten ++ [101])
set_option maxRecDepth 20000 in
set_option maxHeartbeats 6400000 in
theorem encode_k3 (m : Wi.Msg) (v : MsgV) (w : World) (h : MsgAt w m v) (ok : MsgOk m) (hk : m.kind = 3) (hf : Wi.first m = true) (hlen : (beatB m).length ≤ 16384) (hw : Lw w) :
    Calls Tryz.prog 23 #[msgV m v] w fun e w' => e = .returned (.tuple #[.string ⟨(Frm.put (beatB m)).toArray⟩, .int .i64 0]) ∧ Below w.heap.size w w' := by
  have HW := Lib.hid hw
  have HM := Lib.hid h
  have HO := Lib.hid ok
  have HF := Lib.hid hf
  have HLN := Lib.hid hlen
  obtain ⟨s0, c0, hh0⟩ := h.chain.form
  obtain ⟨s1, c1, hh1⟩ := h.lives.form
  obtain ⟨s2, c2, hh2⟩ := h.brecs.form
  obtain ⟨s3, c3, hh3⟩ := h.table.form
  obtain ⟨s4, c4, hh4⟩ := h.qrecs.form
  obtain ⟨s5, c5, hh5⟩ := h.parts.form
  obtain ⟨s6, c6, hh6⟩ := h.arecs.form
  obtain ⟨v0, v1, v2, v3, v4, v5, v6⟩ := v
  dsimp only at hh0 hh1 hh2 hh3 hh4 hh5 hh6
  subst hh0 hh1 hh2 hh3 hh4 hh5 hh6
  obtain ⟨x_kind, x_frm, x_to, x_part, x_ep, x_off, x_high, x_life, x_pep, x_chain, x_learner, x_lives, x_batch, x_table, x_req, x_resp⟩ := m
  dsimp only at *
  subst hk
  clear h ok hw hf hlen
  have HI38 := Lib.hid (show (Tryz.prog.info? 44).map (·.size) = some ((.int .i64 3 :: .int .i64 x_frm :: .int .i64 x_to :: .int .i64 x_part :: .int .i64 x_ep :: .int .i64 x_off :: .int .i64 x_high :: .int .i64 x_life :: .int .i64 x_pep :: .slice s0 x_chain.length c0 :: .int .i64 x_learner :: .slice s1 x_lives.length c1 :: .int .i64 x_batch.base :: .int .i64 x_batch.count :: .int .i64 x_batch.prod :: .int .i64 x_batch.seq :: .int .i64 x_batch.time :: .slice s2 x_batch.recs.length c2 :: .slice s3 x_table.length c3 :: .int .i64 x_req.client :: .int .i64 x_req.n :: .int .i64 x_req.kind :: .int .i64 x_req.part :: .int .i64 x_req.seq :: .int .i64 x_req.off :: .int .i64 x_req.max :: .int .i64 x_req.gen :: .string ⟨x_req.group.toArray⟩ :: .string ⟨x_req.member.toArray⟩ :: .slice s4 x_req.recs.length c4 :: .int .i64 x_resp.client :: .int .i64 x_resp.n :: .int .i64 x_resp.code :: .int .i64 x_resp.off :: .int .i64 x_resp.high :: .int .i64 x_resp.gen :: .slice s5 x_resp.parts.length c5 :: .slice s6 x_resp.recs.length c6 :: []) : List Value).length by kernel_rfl)
  have HU := Lib.hid Tryz.underlying44
  have HG := Lib.hid (fun (W : World) (hW : Below w.heap.size w W) => good_k3 ⟨3, x_frm, x_to, x_part, x_ep, x_off, x_high, x_life, x_pep, x_chain, x_learner, x_lives, x_batch, x_table, x_req, x_resp⟩ ⟨.slice s0 x_chain.length c0, .slice s1 x_lives.length c1, .slice s2 x_batch.recs.length c2, .slice s3 x_table.length c3, .slice s4 x_req.recs.length c4, .slice s5 x_resp.parts.length c5, .slice s6 x_resp.recs.length c6⟩ W (HM.out.kept hW) HO.out rfl HF.out)
  have HFD := Lib.hid (fun (W : World) (hW : Below w.heap.size w W) => fields_k3 ⟨3, x_frm, x_to, x_part, x_ep, x_off, x_high, x_life, x_pep, x_chain, x_learner, x_lives, x_batch, x_table, x_req, x_resp⟩ ⟨.slice s0 x_chain.length c0, .slice s1 x_lives.length c1, .slice s2 x_batch.recs.length c2, .slice s3 x_table.length c3, .slice s4 x_req.recs.length c4, .slice s5 x_resp.parts.length c5, .slice s6 x_resp.recs.length c6⟩ W (HM.out.kept hW) HO.out rfl (HW.out.below hW))
  have HBL : Hid (∀ W v, Strs W v (beatF ⟨3, x_frm, x_to, x_part, x_ep, x_off, x_high, x_life, x_pep, x_chain, x_learner, x_lives, x_batch, x_table, x_req, x_resp⟩) → Calls Tryz.prog 46 #[v] W fun e w' => e = .returned (.string ⟨(beatB ⟨3, x_frm, x_to, x_part, x_ep, x_off, x_high, x_life, x_pep, x_chain, x_learner, x_lives, x_batch, x_table, x_req, x_resp⟩).toArray⟩) ∧ Below W.heap.size W w') := fun W v hv => by
    have := HLN.out
    unfold beatB at this
    simp only [List.length_cons, List.length_append] at this
    exact beadList_any v _ W hv (by simp [beatF]) (by omega)
  have HPT := Lib.hid (fun (W : World) => put_any (beatB ⟨3, x_frm, x_to, x_part, x_ep, x_off, x_high, x_life, x_pep, x_chain, x_learner, x_lives, x_batch, x_table, x_req, x_resp⟩) W HLN.out)
  generalize beatB ⟨3, x_frm, x_to, x_part, x_ep, x_off, x_high, x_life, x_pep, x_chain, x_learner, x_lives, x_batch, x_table, x_req, x_resp⟩ = bb at *
  generalize hbf : beatF ⟨3, x_frm, x_to, x_part, x_ep, x_off, x_high, x_life, x_pep, x_chain, x_learner, x_lives, x_batch, x_table, x_req, x_resp⟩ = bf at *
  clear hbf HLN HF
  unfold msgV msgC at HG HFD ⊢
  dsimp only at HG HFD ⊢
  go_enter Tryz.func23, Tryz.ntmps23
  obtain ⟨w1, hw1, CA, B1⟩ := oneBox (w := w) (.int .i64 3 :: .int .i64 x_frm :: .int .i64 x_to :: .int .i64 x_part :: .int .i64 x_ep :: .int .i64 x_off :: .int .i64 x_high :: .int .i64 x_life :: .int .i64 x_pep :: .slice s0 x_chain.length c0 :: .int .i64 x_learner :: .slice s1 x_lives.length c1 :: .int .i64 x_batch.base :: .int .i64 x_batch.count :: .int .i64 x_batch.prod :: .int .i64 x_batch.seq :: .int .i64 x_batch.time :: .slice s2 x_batch.recs.length c2 :: .slice s3 x_table.length c3 :: .int .i64 x_req.client :: .int .i64 x_req.n :: .int .i64 x_req.kind :: .int .i64 x_req.part :: .int .i64 x_req.seq :: .int .i64 x_req.off :: .int .i64 x_req.max :: .int .i64 x_req.gen :: .string ⟨x_req.group.toArray⟩ :: .string ⟨x_req.member.toArray⟩ :: .slice s4 x_req.recs.length c4 :: .int .i64 x_resp.client :: .int .i64 x_resp.n :: .int .i64 x_resp.code :: .int .i64 x_resp.off :: .int .i64 x_resp.high :: .int .i64 x_resp.gen :: .slice s5 x_resp.parts.length c5 :: .slice s6 x_resp.recs.length c6 :: []) 44
  have HW1 := Lib.hid hw1
  clear hw1
  go_upto_region 1 with (fail)
  first | rw [HW1.out] | skip
  clear HW1
  have BW : Hid (∀ W, Below w1.heap.size w1 W → Below w.heap.size w W) := fun W h => bt B1.out h
  obtain ⟨pa, hpa2⟩ : ∃ pa, pa = w.heap.size := ⟨_, rfl⟩
  rw [← hpa2] at CA
  first | rw [← hpa2] | skip
  have HPA := Lib.hid hpa2
  clear hpa2
  have R1 := Lib.hid CA.out.range
  go_wp2_with (refine wpList_load_mid (by rfl) _ _ (by rfl) pa 0 (by rfl) (.int .i64 3 :: .int .i64 x_frm :: .int .i64 x_to :: .int .i64 x_part :: .int .i64 x_ep :: .int .i64 x_off :: .int .i64 x_high :: .int .i64 x_life :: .int .i64 x_pep :: .slice s0 x_chain.length c0 :: .int .i64 x_learner :: .slice s1 x_lives.length c1 :: .int .i64 x_batch.base :: .int .i64 x_batch.count :: .int .i64 x_batch.prod :: .int .i64 x_batch.seq :: .int .i64 x_batch.time :: .slice s2 x_batch.recs.length c2 :: .slice s3 x_table.length c3 :: .int .i64 x_req.client :: .int .i64 x_req.n :: .int .i64 x_req.kind :: .int .i64 x_req.part :: .int .i64 x_req.seq :: .int .i64 x_req.off :: .int .i64 x_req.max :: .int .i64 x_req.gen :: .string ⟨x_req.group.toArray⟩ :: .string ⟨x_req.member.toArray⟩ :: .slice s4 x_req.recs.length c4 :: .int .i64 x_resp.client :: .int .i64 x_resp.n :: .int .i64 x_resp.code :: .int .i64 x_resp.off :: .int .i64 x_resp.high :: .int .i64 x_resp.gen :: .slice s5 x_resp.parts.length c5 :: .slice s6 x_resp.recs.length c6 :: []) _ R1.out HU.out (by rfl) HI38.out ?_)
  refine (HG.out _ B1.out).mono ?_
  rintro e w2 ⟨rfl, hb2⟩
  have B2 := Lib.hid (bt B1.out hb2)
  have R2 := Lib.hid (CA.out.below hb2).range
  clear hb2 R1 HG
  go_wp2_with (refine wpList_load_mid (by rfl) _ _ (by rfl) pa 0 (by rfl) (.int .i64 3 :: .int .i64 x_frm :: .int .i64 x_to :: .int .i64 x_part :: .int .i64 x_ep :: .int .i64 x_off :: .int .i64 x_high :: .int .i64 x_life :: .int .i64 x_pep :: .slice s0 x_chain.length c0 :: .int .i64 x_learner :: .slice s1 x_lives.length c1 :: .int .i64 x_batch.base :: .int .i64 x_batch.count :: .int .i64 x_batch.prod :: .int .i64 x_batch.seq :: .int .i64 x_batch.time :: .slice s2 x_batch.recs.length c2 :: .slice s3 x_table.length c3 :: .int .i64 x_req.client :: .int .i64 x_req.n :: .int .i64 x_req.kind :: .int .i64 x_req.part :: .int .i64 x_req.seq :: .int .i64 x_req.off :: .int .i64 x_req.max :: .int .i64 x_req.gen :: .string ⟨x_req.group.toArray⟩ :: .string ⟨x_req.member.toArray⟩ :: .slice s4 x_req.recs.length c4 :: .int .i64 x_resp.client :: .int .i64 x_resp.n :: .int .i64 x_resp.code :: .int .i64 x_resp.off :: .int .i64 x_resp.high :: .int .i64 x_resp.gen :: .slice s5 x_resp.parts.length c5 :: .slice s6 x_resp.recs.length c6 :: []) _ R2.out HU.out (by rfl) HI38.out ?_)
  refine (HFD.out _ B2.out).mono ?_
  rintro e w3 ⟨v3, rfl, ho3, hb3⟩
  have B3 := Lib.hid (bt B2.out hb3)
  have S3 := Lib.hid (strs_own ho3)
  clear hb3 ho3 R2 HFD
  go_wp2_with fail
  refine (HBL.out _ _ S3.out).mono ?_
  rintro e w4 ⟨rfl, hb4⟩
  have B4 := Lib.hid (bt B3.out hb4)
  clear hb4 S3 HBL
  go_wp2_with fail
  refine (HPT.out _).mono ?_
  rintro e w5 ⟨rfl, hb5⟩
  have B5 := Lib.hid (bt B4.out hb5)
  clear hb5 HPT
  go_wp2
  go_ret2
  exact ⟨rfl, B5.out⟩

end Go.Proofs.YtbljbdjmgogknaaGreatDoor
