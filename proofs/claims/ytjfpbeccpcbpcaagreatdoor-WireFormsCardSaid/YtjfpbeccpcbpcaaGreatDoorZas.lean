/-
  Wqa: texts of one proof, one behind the other.
  Conditions: none of its own.
-/
import Derived.Test.YtjfpbeccpcbpcaaGreatDoorZah
set_option linter.unusedVariables false
set_option linter.unusedSimpArgs false
namespace Go.Proofs.YtjfpbeccpcbpcaaGreatDoor.Wi
open Bd (St bInt bText sInt sText sSign sMore sDone inR)
theorem sInt_shr : Shr sInt := fun q hm => by
  obtain ⟨h1, h2, h3⟩ := more_good hm
  cases h : (sInt q).2.2 with
  | true => exact .inl rfl
  | false =>
    right
    obtain ⟨_, _, e⟩ := Cr.sInt_was h
    conv => rhs; rw [e]
    simp [bInt]
    omega
theorem shr_of {α : Type} {f : St → α × St} (h : ∀ q, (f q).2.2 = false → (f q).2.1.length < q.1.length) : Shr f := fun q _ => by
  cases hb : (f q).2.2 with
  | true => exact .inl rfl
  | false => exact .inr (h q hb)
theorem sInt_lt {q : St} (h : (sInt q).2.2 = false) : (sInt q).2.1.length < q.1.length := by
  obtain ⟨_, _, e⟩ := Cr.sInt_was h
  conv => rhs; rw [e]
  simp [bInt]
  omega
theorem sRec4_shr : Shr sRec4 := shr_of fun q h => by
  have h : (sInt (sText 64 (sText 16 (sInt q).2).2).2).2.2 = false := h
  obtain ⟨a1, _⟩ := Cr.sInt_was h
  obtain ⟨b1, _⟩ := Cr.sText_was a1
  obtain ⟨c1, _⟩ := Cr.sText_was b1
  have l1 := sInt_lt c1
  have l2 := sText_len 16 (sInt q).2
  have l3 := sText_len 64 (sText 16 (sInt q).2).2
  have l4 := sInt_len (sText 64 (sText 16 (sInt q).2).2).2
  show (sInt (sText 64 (sText 16 (sInt q).2).2).2).2.1.length < _
  omega
theorem sSign_lt {c : UInt8} {q : St} (h : (sSign c q).2 = false) : (sSign c q).1.length < q.1.length := by
  obtain ⟨_, e⟩ := Cr.sSign_was h
  rw [e]
  simp
theorem sSlot_len (q : St) : (sSlot q).2.1.length ≤ q.1.length :=
  Nat.le_trans (sSign_len _ _) (Nat.le_trans (sInt_len _) (Nat.le_trans (sInt_len _) (Nat.le_trans (sInt_len _) (sSign_len _ _))))
theorem sSlot_shr : Shr sSlot := shr_of fun q h => by
  have h : (sSign 101 (sInt (sInt (sInt (sSign 108 q)).2).2).2).2 = false := h
  have l5 := sSign_lt h
  have l1 := sSign_len 108 q
  have l2 := sInt_len (sSign 108 q)
  have l3 := sInt_len (sInt (sSign 108 q)).2
  have l4 := sInt_len (sInt (sInt (sSign 108 q)).2).2
  show (sSign 101 (sInt (sInt (sInt (sSign 108 q)).2).2).2).1.length < _
  omega
theorem sAll_len {α : Type} {f : St → α × St} (hl : ∀ q, (f q).2.1.length ≤ q.1.length) (q : St) : (sAll f q).2.1.length ≤ q.1.length := sMany_len hl _ q
theorem sSeen_len (q : St) : (sSeen q).2.1.length ≤ q.1.length :=
  Nat.le_trans (sSign_len _ _) (Nat.le_trans (sAll_len sSlot_len _) (Nat.le_trans (sInt_len _) (sSign_len _ _)))
theorem sSeen_shr : Shr sSeen := shr_of fun q h => by
  have h : (sSign 101 (sAll sSlot (sInt (sSign 108 q)).2).2).2 = false := h
  have l5 := sSign_lt h
  have l1 := sSign_len 108 q
  have l2 := sInt_len (sSign 108 q)
  have l3 := sAll_len sSlot_len (sInt (sSign 108 q)).2
  show (sSign 101 (sAll sSlot (sInt (sSign 108 q)).2).2).1.length < _
  omega
theorem sInts_len (q : St) : (sInts q).2.1.length ≤ q.1.length := Nat.le_trans (sSign_len _ _) (Nat.le_trans (sAll_len sInt_len _) (sSign_len _ _))
/-! ### What was read was so written -/
theorem sInt_was {q : St} (h : (sInt q).2.2 = false) : q.2 = false ∧ q.1 = bInt (sInt q).1 ++ (sInt q).2.1 := ⟨(Cr.sInt_was h).1, (Cr.sInt_was h).2.2⟩
theorem sInts_was {q : St} (h : (sInts q).2.2 = false) : q.2 = false ∧ q.1 = listB (encInts (sInts q).1) ++ (sInts q).2.1 := by
  unfold sInts at h ⊢
  simp only at h ⊢
  obtain ⟨a1, a2⟩ := Cr.sSign_was h
  obtain ⟨b1, b2⟩ := sMany_was (e := bInt) (ok := fun _ => True) (fun q h _ => sInt_was h) _ _ a1 (fun _ _ => trivial)
  obtain ⟨c1, c2⟩ := Cr.sSign_was b1
  refine ⟨c1, ?_⟩
  rw [c2]
  conv => lhs; rw [b2]
  unfold sAll at a2 ⊢
  rw [a2]
  simp [listB, encInts]
theorem sRec4_was {q : St} (h : (sRec4 q).2.2 = false) (hm : (sRec4 q).1.2 = true) : q.2 = false ∧ q.1 = encRec (sRec4 q).1.1 ++ (sRec4 q).2.1 := by
  unfold sRec4 at h hm ⊢
  simp only at h hm ⊢
  obtain ⟨b1, b2⟩ := sInt_was h
  obtain ⟨c1, _, c2⟩ := Cr.sText_was b1
  obtain ⟨d1, _, d2⟩ := Cr.sText_was c1
  obtain ⟨e1, e2⟩ := sInt_was d1
  refine ⟨e1, ?_⟩
  rw [beq_iff_eq] at hm
  rw [e2, d2, c2]
  conv => lhs; rw [b2]
  simp only [encRec]
  rw [← hm]
  simp
theorem sRecs_was {q : St} (h : (sRecs q).2.2 = false) (hm : (sRecs q).1.2 = true) : q.2 = false ∧ q.1 = encRecs (sRecs q).1.1 ++ (sRecs q).2.1 := by
  unfold sRecs at h hm ⊢
  simp only at h hm ⊢
  obtain ⟨a1, a2⟩ := Cr.sSign_was h
  obtain ⟨b1, b2⟩ := sMany_was (e := fun x : Cr.Rec × Bool => encRec x.1) (ok := fun x => x.2 = true) (fun q h hm => sRec4_was h hm) _ _ a1 (List.all_eq_true.1 hm)
  obtain ⟨c1, c2⟩ := Cr.sSign_was b1
  refine ⟨c1, ?_⟩
  rw [c2]
  conv => lhs; rw [b2]
  unfold sAll at a2 ⊢
  rw [a2]
  simp [listB, encRecs, List.map_map, Function.comp_def]
theorem sReq_was {q : St} (h : (sReq q).2.2 = false) (hm : (sReq q).1.2 = true) : q.2 = false ∧ q.1 = ((reqNumsL (sReq q).1.1).map bInt ++ [bText (sReq q).1.1.group, bText (sReq q).1.1.member, encRecs (sReq q).1.1.recs]).flatten ++ (sReq q).2.1 := by
  unfold sReq at h hm ⊢
  simp only at h hm ⊢
  obtain ⟨k1, k2⟩ := sRecs_was h hm
  obtain ⟨j1, _, j2⟩ := Cr.sText_was k1
  obtain ⟨i1, _, i2⟩ := Cr.sText_was j1
  obtain ⟨h1, h2⟩ := sInt_was i1
  obtain ⟨g1, g2⟩ := sInt_was h1
  obtain ⟨f1, f2⟩ := sInt_was g1
  obtain ⟨e1, e2⟩ := sInt_was f1
  obtain ⟨d1, d2⟩ := sInt_was e1
  obtain ⟨c1, c2⟩ := sInt_was d1
  obtain ⟨b1, b2⟩ := sInt_was c1
  obtain ⟨a1, a2⟩ := sInt_was b1
  refine ⟨a1, ?_⟩
  rw [a2, b2, c2, d2, e2, f2, g2, h2, i2, j2]
  conv => lhs; rw [k2]
  simp [reqNumsL]
theorem sResp_was {q : St} (h : (sResp q).2.2 = false) (hm : (sResp q).1.2 = true) : q.2 = false ∧ q.1 = ((respNumsL (sResp q).1.1).map bInt ++ [listB (encInts (sResp q).1.1.parts), encRecs (sResp q).1.1.recs]).flatten ++ (sResp q).2.1 := by
  unfold sResp at h hm ⊢
  simp only at h hm ⊢
  obtain ⟨k1, k2⟩ := sRecs_was h hm
  obtain ⟨j1, j2⟩ := sInts_was k1
  obtain ⟨f1, f2⟩ := sInt_was j1
  obtain ⟨e1, e2⟩ := sInt_was f1
  obtain ⟨d1, d2⟩ := sInt_was e1
  obtain ⟨c1, c2⟩ := sInt_was d1
  obtain ⟨b1, b2⟩ := sInt_was c1
  obtain ⟨a1, a2⟩ := sInt_was b1
  refine ⟨a1, ?_⟩
  rw [a2, b2, c2, d2, e2, f2, j2]
  conv => lhs; rw [k2]
  simp [respNumsL]
theorem pairs_flat : ∀ (l : List Int), evenB l = true → flatLives (pairs l) = l
  | [], _ => rfl
  | [x], h => by simp [evenB] at h
  | x :: y :: r, h => by
    have := pairs_flat r (by simp [evenB] at h ⊢; omega)
    simp only [pairs, flatLives, List.flatMap_cons] at this ⊢
    rw [this]
    rfl
theorem flat_pairs : ∀ (l : List (Int × Int)), pairs (flatLives l) = l ∧ evenB (flatLives l) = true
  | [] => ⟨rfl, rfl⟩
  | x :: r => by
    obtain ⟨h1, h2⟩ := flat_pairs r
    have e : flatLives (x :: r) = x.1 :: x.2 :: flatLives r := by simp [flatLives]
    rw [e]
    refine ⟨by rw [pairs, h1], ?_⟩
    simp [evenB] at h2 ⊢
    omega
theorem sPlace_was {q : St} (h : (sPlace q).2.2 = false) (hm : (sPlace q).1.2 = true) :
    q.2 = false ∧ q.1 = [bInt (sPlace q).1.1.1, listB (encInts (sPlace q).1.1.2.1), bInt (sPlace q).1.1.2.2.1, listB (encInts (flatLives (sPlace q).1.1.2.2.2))].flatten ++ (sPlace q).2.1 := by
  unfold sPlace at h hm ⊢
  simp only at h hm ⊢
  obtain ⟨d1, d2⟩ := sInts_was h
  obtain ⟨c1, c2⟩ := sInt_was d1
  obtain ⟨b1, b2⟩ := sInts_was c1
  obtain ⟨a1, a2⟩ := sInt_was b1
  refine ⟨a1, ?_⟩
  rw [if_pos hm, pairs_flat _ hm, a2, b2, c2]
  conv => lhs; rw [d2]
  simp
theorem sSlot_was {q : St} (h : (sSlot q).2.2 = false) : q.2 = false ∧ q.1 = encSlot (sSlot q).1 ++ (sSlot q).2.1 := by
  unfold sSlot at h ⊢
  simp only at h ⊢
  obtain ⟨e1, e2⟩ := Cr.sSign_was h
  obtain ⟨d1, d2⟩ := sInt_was e1
  obtain ⟨c1, c2⟩ := sInt_was d1
  obtain ⟨b1, b2⟩ := sInt_was c1
  obtain ⟨a1, a2⟩ := Cr.sSign_was b1
  refine ⟨a1, ?_⟩
  rw [a2, b2, c2, d2]
  conv => lhs; rw [e2]
  simp [encSlot, listB]
theorem sSeen_was {q : St} (h : (sSeen q).2.2 = false) : q.2 = false ∧ q.1 = encSeen (sSeen q).1 ++ (sSeen q).2.1 := by
  unfold sSeen at h ⊢
  simp only at h ⊢
  obtain ⟨d1, d2⟩ := Cr.sSign_was h
  obtain ⟨c1, c2⟩ := sMany_was (e := encSlot) (ok := fun _ => True) (fun q h _ => sSlot_was h) _ _ d1 (fun _ _ => trivial)
  obtain ⟨b1, b2⟩ := sInt_was c1
  obtain ⟨a1, a2⟩ := Cr.sSign_was b1
  refine ⟨a1, ?_⟩
  rw [a2, b2]
  conv => lhs; rw [c2]
  unfold sAll at d2 ⊢
  rw [d2]
  simp [encSeen, listB]
theorem decTable_some {s : List UInt8} {t : List Seen} (h : decTable s = some t) : tableB t = true ∧ s = encTable t := by
  unfold decTable at h
  simp only at h
  split at h
  · rename_i hc
    simp only [Bool.and_eq_true, decide_eq_true_eq] at hc
    obtain ⟨hd, hg⟩ := hc
    injection h with h
    subst h
    refine ⟨hg, ?_⟩
    have hz := (Bd.sDone_iff _).1 hd
    have hb : (sSign 101 (sAll sSeen (sSign 108 (s, false))).2).2 = false := by rw [hz]
    obtain ⟨d1, d2⟩ := Cr.sSign_was hb
    obtain ⟨c1, c2⟩ := sMany_was (e := encSeen) (ok := fun _ => True) (fun q h _ => sSeen_was h) _ _ d1 (fun _ _ => trivial)
    obtain ⟨a1, a2⟩ := Cr.sSign_was c1
    have a2 : s = 108 :: (sSign 108 (s, false)).1 := a2
    conv => lhs; rw [a2, c2]
    unfold sAll at d2 hz ⊢
    rw [d2, hz]
    simp [encTable, listB]
  · cases h
theorem sTail_was {m : Msg} {q : St} (h : (sTail m q).2.2 = false) (hm : (sTail m q).1.2 = true) : q.2 = false ∧ q.1 = (tailL (sTail m q).1.1).flatten ++ (sTail m q).2.1 := by
  unfold sTail at h hm ⊢
  by_cases k1 : m.kind = 1 ∨ m.kind = 7
  · simp only [if_pos k1] at h hm ⊢
    have := sReq_was h hm
    simpa only [tailL, if_pos k1] using this
  · simp only [if_neg k1] at h hm ⊢
    by_cases k2 : m.kind = 2
    · simp only [if_pos k2] at h hm ⊢
      have := sResp_was h hm
      simpa only [tailL, if_neg k1, if_pos k2] using this
    · simp only [if_neg k2] at h hm ⊢
      by_cases k3 : m.kind = 3
      · simp only [if_pos k3] at h hm ⊢
        have := sInt_was h
        simpa [tailL, k3] using this
      · simp only [if_neg k3] at h hm ⊢
        by_cases k4 : m.kind = 4
        · simp only [if_pos k4] at h hm ⊢
          have := sPlace_was h hm
          simpa [tailL, k4] using this
        · simp only [if_neg k4] at h hm ⊢
          by_cases k5 : m.kind = 5
          · simp only [if_pos k5] at h hm ⊢
            obtain ⟨a1, _, a2⟩ := Cr.sText_was h
            obtain ⟨b, hb⟩ := Option.isSome_iff_exists.1 hm
            obtain ⟨hg, he⟩ := Cr.dec_some hb
            refine ⟨a1, ?_⟩
            rw [hb]
            simp only [tailL, k5, Option.getD_some]
            conv => lhs; rw [a2, he]
            simp
          · simp only [if_neg k5] at h hm ⊢
            by_cases k6 : m.kind = 6
            · simp only [if_pos k6] at h hm ⊢
              obtain ⟨b1, b2⟩ := sInt_was h
              obtain ⟨a1, a2⟩ := sInt_was b1
              refine ⟨a1, ?_⟩
              simp only [tailL, k6]
              conv => lhs; rw [a2, b2]
              simp
            · simp only [if_neg k6] at h hm ⊢
              by_cases k8 : m.kind = 8
              · simp only [if_pos k8] at h hm ⊢
                obtain ⟨b1, _, b2⟩ := Cr.sText_was h
                obtain ⟨a1, a2⟩ := sInt_was b1
                obtain ⟨b, hb⟩ := Option.isSome_iff_exists.1 hm
                obtain ⟨hg, he⟩ := decTable_some hb
                refine ⟨a1, ?_⟩
                rw [hb]
                simp only [tailL, k8, Option.getD_some]
                conv => lhs; rw [a2, b2, he]
                simp
              · simp only [if_neg k8] at h hm ⊢
                by_cases k9 : m.kind = 9
                · simp only [if_pos k9] at h hm ⊢
                  have := sInt_was h
                  simpa [tailL, k9] using this
                · simp only [if_neg k9] at h hm ⊢
                  refine ⟨h, ?_⟩
                  simp [tailL, k1, k2, k3, k4, k5, k6, k8, k9]
theorem sTail_kind (m : Msg) (q : St) : (sTail m q).1.1.kind = m.kind ∧ (sTail m q).1.1.frm = m.frm ∧ (sTail m q).1.1.to = m.to ∧ (sTail m q).1.1.part = m.part ∧ (sTail m q).1.1.ep = m.ep := by
  unfold sTail
  repeat' split
  all_goals exact ⟨rfl, rfl, rfl, rfl, rfl⟩
theorem sHead_was {q : St} (h : (sHead q).2.2 = false) : q.2 = false ∧ q.1 = (headL (sHead q).1).flatten ++ (sHead q).2.1 := by
  unfold sHead at h ⊢
  simp only at h ⊢
  split at h
  · rename_i h4
    rw [if_pos h4]
    obtain ⟨e1, e2⟩ := sInt_was h
    obtain ⟨d1, d2⟩ := sInt_was e1
    obtain ⟨c1, c2⟩ := sInt_was d1
    obtain ⟨b1, b2⟩ := sInt_was c1
    obtain ⟨a1, a2⟩ := sInt_was b1
    refine ⟨a1, ?_⟩
    rw [a2, b2, c2, d2]
    conv => lhs; rw [e2]
    simp [headL, h4]
  · rename_i h4
    rw [if_neg h4]
    obtain ⟨c1, c2⟩ := sInt_was h
    obtain ⟨b1, b2⟩ := sInt_was c1
    obtain ⟨a1, a2⟩ := sInt_was b1
    refine ⟨a1, ?_⟩
    rw [a2, b2]
    conv => lhs; rw [c2]
    simp [headL, h4]
theorem sMsg_was {q : St} (h : (sMsg q).2.2 = false) (hm : (sMsg q).1.2 = true) : q.2 = false ∧ q.1 = (fieldsL (sMsg q).1.1).flatten ++ (sMsg q).2.1 := by
  unfold sMsg at h hm ⊢
  obtain ⟨b1, b2⟩ := sTail_was h hm
  obtain ⟨a1, a2⟩ := sHead_was b1
  obtain ⟨e1, e2, e3, e4, e5⟩ := sTail_kind (sHead q).1 (sHead q).2
  refine ⟨a1, ?_⟩
  have e : headL (sTail (sHead q).1 (sHead q).2).1.1 = headL (sHead q).1 := by unfold headL; rw [e1, e2, e3, e4, e5]
  rw [a2]
  conv => lhs; rw [b2]
  simp [fieldsL, e]
end Go.Proofs.YtjfpbeccpcbpcaaGreatDoor.Wi
