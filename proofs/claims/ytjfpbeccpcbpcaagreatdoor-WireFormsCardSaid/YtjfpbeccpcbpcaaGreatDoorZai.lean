/-
  Wu / Wo3 / Qs: texts of one proof, one behind the other.
  Conditions: none of its own.
-/
import Derived.Test.YtjfpbeccpcbpcaaGreatDoorZac
import Derived.Test.YtjfpbeccpcbpcaaGreatDoorZad
import Derived.Deep.MidRow
import Derived.Deep.Quiet
set_option linter.unusedVariables false
set_option linter.unusedSimpArgs false
namespace Go.Proofs.YtjfpbeccpcbpcaaGreatDoor
open Go.RowKit
theorem wwithin_any (n low high : Int) (w : World) : Calls Tryz.prog 31 #[.int .i64 n, .int .i64 low, .int .i64 high] w fun e w' => e = .returned (.bool (Wi.inB n low high)) ∧ w' = w := by
  unfold Wi.inB
  by_cases h0 : low ≤ n
  · by_cases h1 : n ≤ high
    · rw [show (decide (low ≤ n) && decide (n ≤ high)) = true by simp [h0, h1]]
      go_enter Tryz.func31, Tryz.ntmps31
      go_wp2
      go_ret
      exact ⟨by simp [h0, h1] <;> omega, rfl⟩
    · rw [show (decide (low ≤ n) && decide (n ≤ high)) = false by simp [h0, h1]]
      go_enter Tryz.func31, Tryz.ntmps31
      go_wp2
      go_ret
      exact ⟨by simp [h0, h1] <;> omega, rfl⟩
  · rw [show (decide (low ≤ n) && decide (n ≤ high)) = false by simp [h0]]
    go_enter Tryz.func31, Tryz.ntmps31
    go_wp2
    go_ret
    exact ⟨rfl, rfl⟩
theorem isUnit_any (n : Int) (w : World) : Calls Tryz.prog 32 #[.int .i64 n] w fun e w' => e = .returned (.bool (Wi.unitB n)) ∧ w' = w := by
  unfold Wi.unitB
  have H1 := Lib.hid (wwithin_any n 0 5 w)
  have H2 := Lib.hid (wwithin_any n 11 14 w)
  generalize Wi.inB n 0 5 = b1 at *
  generalize Wi.inB n 11 14 = b2 at *
  go_enter Tryz.func32, Tryz.ntmps32
  go_wp2_with fail
  refine H1.out.mono ?_
  rintro e w1 ⟨rfl, rfl⟩
  cases b1 with
  | true =>
    go_wp2
    go_ret
    exact ⟨rfl, rfl⟩
  | false =>
    go_wp2_with fail
    refine H2.out.mono ?_
    rintro e w2 ⟨rfl, rfl⟩
    go_wp2
    go_ret
    exact ⟨rfl, rfl⟩
def idxP {α : Type} (p : α → Bool) : Nat → List α → Int
  | _, [] => -1
  | k, x :: r => if p x then (k : Int) else idxP p (k + 1) r
theorem idxP_any {α : Type} (p : α → Bool) : ∀ (l : List α) (k : Nat), decide (0 ≤ idxP p k l) = l.any p
  | [], k => by simp [idxP]
  | x :: r, k => by
    unfold idxP
    cases h : p x with
    | true => simp [h]
    | false => simp only [Bool.false_eq_true, if_false, List.any_cons, h, Bool.false_or]; exact idxP_any p r (k + 1)
theorem idxP_step {α : Type} {p : α → Bool} {l : List α} {k : Nat} {x : α} (hx : l[k]? = some x) : idxP p k (l.drop k) = if p x then (k : Int) else idxP p (k + 1) (l.drop (k + 1)) := by
  obtain ⟨hk, rfl⟩ := List.getElem?_eq_some_iff.1 hx
  rw [List.drop_eq_getElem_cons hk]
  rfl
theorem are1_any (n lo hi : Int) (pl ph : Nat) (w : World) (h1 : Cl w pl [.int .i64 lo] 3) (h2 : Cl w ph [.int .i64 hi] 3) :
    Calls Tryz.prog 90 #[.int .i64 n, .pointer (some ⟨pl, 0, none⟩), .pointer (some ⟨ph, 0, none⟩)] w fun e w' => e = .returned (.bool (!Wi.inB n lo hi)) ∧ w' = w := by
  have H := Lib.hid (wwithin_any n lo hi w)
  have a0 := h1.cell 0
  have b0 := h2.cell 0
  simp only [List.getElem?_cons_zero, List.getElem?_cons_succ] at a0 b0
  generalize Wi.inB n lo hi = b1 at *
  clear h1 h2
  go_enter Tryz.func90, Tryz.ntmps90
  go_wp2_with fail
  refine H.out.mono ?_
  rintro e w1 ⟨rfl, rfl⟩
  cases b1 <;>
  · go_wp2
    go_ret
    exact ⟨rfl, rfl⟩
set_option maxHeartbeats 800000 in
theorem idxInts_any (l : List Int) (hl : l.length ≤ maxLen) (v : Value) (lo hi : Int) (pl ph : Nat) (w : World) (h : Ints w v l) (h1 : Cl w pl [.int .i64 lo] 3) (h2 : Cl w ph [.int .i64 hi] 3) :
    Calls Tryz.prog 128 #[v, .func (.func 90) #[] #[.pointer (some ⟨pl, 0, none⟩), .pointer (some ⟨ph, 0, none⟩)]] w fun e w' => e = .returned (.int .i64 (idxP (fun n => !Wi.inB n lo hi) 0 l)) ∧ w' = w := by
  have HZ := Lib.hid h
  have H1 := Lib.hid h1
  have H2 := Lib.hid h2
  obtain ⟨a, cap, rfl⟩ := h.form
  unfold maxLen at hl
  clear h h1 h2
  go_enter Tryz.func128, Tryz.ntmps128
  go_wp2
  go_loop [8] (fun i => ∃ k : Nat, i = .int .i64 k ∧ k ≤ l.length ∧ idxP (fun n => !Wi.inB n lo hi) 0 l = idxP (fun n => !Wi.inB n lo hi) k (l.drop k)) (fun i => l.length - (intOf i).toNat)
  case atStart => exact ⟨0, rfl, by omega, rfl⟩
  case round =>
    obtain ⟨k, rfl, hk, hq⟩ := hrel
    have HQ := Lib.hid hq
    clear hq
    by_cases hlt : k < l.length
    · obtain ⟨x, hx⟩ : ∃ x, l[k]? = some x := ⟨l[k], by simp [hlt]⟩
      have HS := Lib.hid (idxP_step (p := fun n => !Wi.inB n lo hi) hx)
      have HN := Lib.hid (are1_any x lo hi pl ph w H1.out H2.out)
      obtain ⟨g, off, cap', he, hg, p0⟩ := HZ.out.get (Below.refl _ _) hx
      injection he with he1 he2 he3
      subst he1 he3
      clear he2
      cases hb : Wi.inB x lo hi with
      | true =>
        rw [hb] at HN
        have HX : Hid (idxP (fun n => !Wi.inB n lo hi) 0 l = idxP (fun n => !Wi.inB n lo hi) (k + 1) (l.drop (k + 1))) := by rw [Hid, HQ.out, HS.out, hb]; rfl
        clear hb HS HQ
        go_wp2_with fail
        refine HN.out.mono ?_
        rintro e w5 ⟨rfl, rfl⟩
        go_wp2
        go_round
        case rel => exact ⟨k + 1, by go_num, by omega, HX.out⟩
        case measure => simp [intOf]; omega
      | false =>
        rw [hb] at HN
        have HX : Hid (idxP (fun n => !Wi.inB n lo hi) 0 l = (k : Int)) := by rw [Hid, HQ.out, HS.out, hb]; rfl
        clear hb HS HQ
        go_wp2_with fail
        refine HN.out.mono ?_
        rintro e w5 ⟨rfl, rfl⟩
        go_wp2
        go_ret
        exact ⟨by rw [HX.out]; rfl, rfl⟩
    · obtain rfl : k = l.length := by omega
      have HX : Hid (idxP (fun n => !Wi.inB n lo hi) 0 l = -1) := by rw [Hid, HQ.out, List.drop_length]; rfl
      go_wp2
      go_ret
      exact ⟨by rw [HX.out]; rfl, rfl⟩
theorem any_not (low high : Int) (l : List Int) : (l.any fun n => !Wi.inB n low high) = !Wi.areB low high l := by
  unfold Wi.areB
  induction l with
  | nil => rfl
  | cons x r ih => rw [List.any_cons, List.all_cons, ih]; cases Wi.inB x low high <;> simp
theorem containsInts_any (l : List Int) (hl : l.length ≤ maxLen) (v : Value) (lo hi : Int) (pl ph : Nat) (w : World) (h : Ints w v l) (h1 : Cl w pl [.int .i64 lo] 3) (h2 : Cl w ph [.int .i64 hi] 3) :
    Calls Tryz.prog 89 #[v, .func (.func 90) #[] #[.pointer (some ⟨pl, 0, none⟩), .pointer (some ⟨ph, 0, none⟩)]] w fun e w' => e = .returned (.bool (!Wi.areB lo hi l)) ∧ w' = w := by
  have HI := Lib.hid (idxInts_any l hl v lo hi pl ph w h h1 h2)
  have hd := idxP_any (fun n => !Wi.inB n lo hi) l 0
  rw [any_not] at hd
  generalize idxP (fun n => !Wi.inB n lo hi) 0 l = r at *
  obtain ⟨a, cap, rfl⟩ := h.form
  have HD := Lib.hid hd
  clear h h1 h2 hl hd
  cases hb : Wi.areB lo hi l with
  | true =>
    rw [hb] at HD
    have hr : decide (0 ≤ r) = false := HD.out
    have hr2 : r < 0 := by simpa using hr
    go_enter Tryz.func89, Tryz.ntmps89
    go_wp2_with fail
    refine HI.out.mono ?_
    rintro e w1 ⟨rfl, rfl⟩
    go_wp2
    go_ret
    exact ⟨by simp [hr2], rfl⟩
  | false =>
    rw [hb] at HD
    have hr : decide (0 ≤ r) = true := HD.out
    have hr2 : 0 ≤ r := by simpa using hr
    go_enter Tryz.func89, Tryz.ntmps89
    go_wp2_with fail
    refine HI.out.mono ?_
    rintro e w1 ⟨rfl, rfl⟩
    go_wp2
    go_ret
    exact ⟨by simp [hr2], rfl⟩
theorem are_sz (l : List Int) (hl : l.length ≤ maxLen) (v : Value) (lo hi : Int) (w : World) (h : Ints w v l) :
    Calls Tryz.prog 33 #[.int .i64 lo, .int .i64 hi, v] w fun e w' => e = .returned (.bool (Wi.areB lo hi l)) ∧ Below w.heap.size w w' ∧ w'.heap.size = w.heap.size + 2 := by
  have C1 : Hid (Cl (w.alloc (.cells #[.int .i64 lo] 3)) w.heap.size [.int .i64 lo] 3) := Cl.new w _ _
  have C2 : Hid (Cl ((w.alloc (.cells #[.int .i64 lo] 3)).alloc (.cells #[.int .i64 hi] 3)) (w.heap.size + 1) [.int .i64 hi] 3) := by
    have h := Cl.new (w.alloc (.cells #[.int .i64 lo] 3)) [.int .i64 hi] 3
    rw [World.size_alloc] at h
    exact h
  have C3 : Hid (Cl ((w.alloc (.cells #[.int .i64 lo] 3)).alloc (.cells #[.int .i64 hi] 3)) w.heap.size [.int .i64 lo] 3) := C1.out.alloc _
  have B2 : Hid (Below w.heap.size w ((w.alloc (.cells #[.int .i64 lo] 3)).alloc (.cells #[.int .i64 hi] 3))) := ((Below.refl _ _).alloc (Nat.le_refl _) _).alloc (by simp) _
  have HC := Lib.hid (containsInts_any l hl v lo hi w.heap.size (w.heap.size + 1) _ (h.kept B2.out) C3.out C2.out)
  obtain ⟨a, cap, rfl⟩ := h.form
  generalize Wi.areB lo hi l = b at *
  clear h hl C1 C2 C3
  go_enter Tryz.func33, Tryz.ntmps33
  go_wp2_with fail
  refine HC.out.mono ?_
  rintro e w3 ⟨rfl, rfl⟩
  cases b <;>
  · go_wp2
    go_ret
    exact ⟨rfl, B2.out, by simp⟩
theorem are_any (l : List Int) (hl : l.length ≤ maxLen) (v : Value) (lo hi : Int) (w : World) (h : Ints w v l) :
    Calls Tryz.prog 33 #[.int .i64 lo, .int .i64 hi, v] w fun e w' => e = .returned (.bool (Wi.areB lo hi l)) ∧ Below w.heap.size w w' :=
  (are_sz l hl v lo hi w h).mono fun e w' ⟨he, hb, _⟩ => ⟨he, hb⟩
end Go.Proofs.YtjfpbeccpcbpcaaGreatDoor
namespace Go.Proofs.YtjfpbeccpcbpcaaGreatDoor
open Go.RowKit
def onlyV (m : Wi.Msg) (v : MsgV) : MsgV :=
  { chain := if m.kind = 4 then v.chain else .slice none 0 0
    lives := if m.kind = 4 then v.lives else .slice none 0 0
    brecs := if m.kind = 5 then v.brecs else .slice none 0 0
    table := if m.kind = 8 then v.table else .slice none 0 0
    qrecs := if m.kind = 1 ∨ m.kind = 7 then v.qrecs else .slice none 0 0
    parts := if m.kind = 2 then v.parts else .slice none 0 0
    arecs := if m.kind = 2 then v.arecs else .slice none 0 0 }
theorem recs_nil0 (w : World) : Recs w (.slice none 0 0) [] := ⟨none, 0, rfl, fun i x hx => by simp at hx⟩
theorem MsgAt.only {w : World} {m : Wi.Msg} {v : MsgV} (h : MsgAt w m v) : MsgAt w (Wi.only m) (onlyV m v) := by
  unfold Wi.only onlyV
  constructor <;> dsimp only
  · split; exact h.chain; exact Ints.nil w
  · split; exact h.lives; exact Rw.nil _ _ w
  · split; exact h.brecs; exact recs_nil0 w
  · split; exact h.table; exact Tbl.nil w
  · split; exact h.qrecs; exact recs_nil0 w
  · split; exact h.parts; exact Ints.nil w
  · split; exact h.arecs; exact recs_nil0 w
theorem Cl.row {w : World} {g : Nat} {old : List Value} {t : TypeId} (h : Cl w g old t) (cs : Array Value) : Cl (w.setRow g cs) g cs.toList t := setRow_heap _ _ _ _ _ _ h
theorem Keeps.row {S : Nat → Prop} (w : World) (g : Nat) (cs : Array Value) (h : S g) : Keeps S w (w.setRow g cs) := ⟨rfl, rfl, rfl, by simp, fun k hk hn => setRow_other _ _ _ _ (fun e => hn (by rw [e]; exact h))⟩
theorem Cl.range {w : World} {g : Nat} {cs : List Value} {t : TypeId} (h : Cl w g cs t) : w.rangeAt g 0 cs := fun j v hv => by rw [Nat.zero_add, Cl.cell h j]; exact hv
set_option maxRecDepth 20000 in
set_option maxHeartbeats 12800000 in
theorem only_k3 (m : Wi.Msg) (v : MsgV) (w : World) (h : MsgAt w m v) (hk : m.kind = 3) :
    Calls Tryz.prog 34 #[msgV m v] w fun e w' => e = .returned (msgV (Wi.only m) (onlyV m v)) ∧ Below w.heap.size w w' := by
  obtain ⟨s0, c0, hh0⟩ := h.chain.form
  obtain ⟨s1, c1, hh1⟩ := h.lives.form
  obtain ⟨s2, c2, hh2⟩ := h.brecs.form
  obtain ⟨s3, c3, hh3⟩ := h.table.form
  obtain ⟨s4, c4, hh4⟩ := h.qrecs.form
  obtain ⟨s5, c5, hh5⟩ := h.parts.form
  obtain ⟨s6, c6, hh6⟩ := h.arecs.form
  obtain ⟨v0, v1, v2, v3, v4, v5, v6⟩ := v
  dsimp only at hh0 hh1 hh2 hh3 hh4 hh5 hh6
  subst hh0 hh1 hh2 hh3 hh4 hh5 hh6
  obtain ⟨x_kind, x_frm, x_to, x_part, x_ep, x_off, x_high, x_life, x_pep, x_chain, x_learner, x_lives, x_batch, x_table, x_req, x_resp⟩ := m
  dsimp only at *
  clear h
  subst hk
  obtain ⟨L, hL⟩ : ∃ L, L = msgC (Wi.only ⟨3, x_frm, x_to, x_part, x_ep, x_off, x_high, x_life, x_pep, x_chain, x_learner, x_lives, x_batch, x_table, x_req, x_resp⟩) (onlyV ⟨3, x_frm, x_to, x_part, x_ep, x_off, x_high, x_life, x_pep, x_chain, x_learner, x_lives, x_batch, x_table, x_req, x_resp⟩ ⟨.slice s0 x_chain.length c0, .slice s1 x_lives.length c1, .slice s2 x_batch.recs.length c2, .slice s3 x_table.length c3, .slice s4 x_req.recs.length c4, .slice s5 x_resp.parts.length c5, .slice s6 x_resp.recs.length c6⟩) := ⟨_, rfl⟩
  have HLV : Hid (msgV (Wi.only ⟨3, x_frm, x_to, x_part, x_ep, x_off, x_high, x_life, x_pep, x_chain, x_learner, x_lives, x_batch, x_table, x_req, x_resp⟩) (onlyV ⟨3, x_frm, x_to, x_part, x_ep, x_off, x_high, x_life, x_pep, x_chain, x_learner, x_lives, x_batch, x_table, x_req, x_resp⟩ ⟨.slice s0 x_chain.length c0, .slice s1 x_lives.length c1, .slice s2 x_batch.recs.length c2, .slice s3 x_table.length c3, .slice s4 x_req.recs.length c4, .slice s5 x_resp.parts.length c5, .slice s6 x_resp.recs.length c6⟩) = .agg L.toArray) := by rw [Hid, hL, msgV]
  rw [HLV.out]
  have HL0 := Lib.hid hL
  have HL38 : Hid ((Tryz.prog.info? 36).map (·.size) = some L.length) := by rw [Hid, hL, show ∀ a b, (msgC a b).length = 38 from fun _ _ => rfl]; kernel_rfl
  have HL39 : Hid ((Tryz.prog.info? 36).map (·.size) = some (L.toArray : Array Value).size) := by rw [Hid, List.size_toArray, hL, show ∀ a b, (msgC a b).length = 38 from fun _ _ => rfl]; kernel_rfl
  have HLON : Hid ((L.toArray : Array Value).all (·.oneCell') = true) := by rw [Hid, hL]; simp [msgC, onlyV, Value.oneCell']
  have HLSZ : Hid (((.int .i64 0 :: .int .i64 0 :: .int .i64 0 :: .int .i64 0 :: .int .i64 0 :: .int .i64 0 :: .int .i64 0 :: .int .i64 0 :: .int .i64 0 :: .slice none 0 0 :: .int .i64 0 :: .slice none 0 0 :: .int .i64 0 :: .int .i64 0 :: .int .i64 0 :: .int .i64 0 :: .int .i64 0 :: .slice none 0 0 :: .slice none 0 0 :: .int .i64 0 :: .int .i64 0 :: .int .i64 0 :: .int .i64 0 :: .int .i64 0 :: .int .i64 0 :: .int .i64 0 :: .int .i64 0 :: .string ⟨#[]⟩ :: .string ⟨#[]⟩ :: .slice none 0 0 :: .int .i64 0 :: .int .i64 0 :: .int .i64 0 :: .int .i64 0 :: .int .i64 0 :: .int .i64 0 :: .slice none 0 0 :: .slice none 0 0 :: []).toArray : Array Value).size = (L.toArray : Array Value).size) := by rw [Hid, hL]; rfl
  clear hL HLV
  unfold msgV msgC
  dsimp only
  go_enter Tryz.func34, Tryz.ntmps34
  obtain ⟨w1, hw1, CA, CR, B1⟩ := twoBox (w := w) (.int .i64 3 :: .int .i64 x_frm :: .int .i64 x_to :: .int .i64 x_part :: .int .i64 x_ep :: .int .i64 x_off :: .int .i64 x_high :: .int .i64 x_life :: .int .i64 x_pep :: .slice s0 x_chain.length c0 :: .int .i64 x_learner :: .slice s1 x_lives.length c1 :: .int .i64 x_batch.base :: .int .i64 x_batch.count :: .int .i64 x_batch.prod :: .int .i64 x_batch.seq :: .int .i64 x_batch.time :: .slice s2 x_batch.recs.length c2 :: .slice s3 x_table.length c3 :: .int .i64 x_req.client :: .int .i64 x_req.n :: .int .i64 x_req.kind :: .int .i64 x_req.part :: .int .i64 x_req.seq :: .int .i64 x_req.off :: .int .i64 x_req.max :: .int .i64 x_req.gen :: .string ⟨x_req.group.toArray⟩ :: .string ⟨x_req.member.toArray⟩ :: .slice s4 x_req.recs.length c4 :: .int .i64 x_resp.client :: .int .i64 x_resp.n :: .int .i64 x_resp.code :: .int .i64 x_resp.off :: .int .i64 x_resp.high :: .int .i64 x_resp.gen :: .slice s5 x_resp.parts.length c5 :: .slice s6 x_resp.recs.length c6 :: []) (.int .i64 0 :: .int .i64 0 :: .int .i64 0 :: .int .i64 0 :: .int .i64 0 :: .int .i64 0 :: .int .i64 0 :: .int .i64 0 :: .int .i64 0 :: .slice none 0 0 :: .int .i64 0 :: .slice none 0 0 :: .int .i64 0 :: .int .i64 0 :: .int .i64 0 :: .int .i64 0 :: .int .i64 0 :: .slice none 0 0 :: .slice none 0 0 :: .int .i64 0 :: .int .i64 0 :: .int .i64 0 :: .int .i64 0 :: .int .i64 0 :: .int .i64 0 :: .int .i64 0 :: .int .i64 0 :: .string ⟨#[]⟩ :: .string ⟨#[]⟩ :: .slice none 0 0 :: .int .i64 0 :: .int .i64 0 :: .int .i64 0 :: .int .i64 0 :: .int .i64 0 :: .int .i64 0 :: .slice none 0 0 :: .slice none 0 0 :: []) 36
  go_upto_region 1 with (fail)
  first | rw [hw1] | skip
  clear hw1
  have hs1 : w.heap.size + 2 ≤ w1.heap.size := by have := CR.out.lt; omega
  have hsw : w.heap.size + 1 ≠ w1.heap.size := by omega
  have hsw2 : w.heap.size ≤ w1.heap.size := by omega
  obtain ⟨pr, hpr⟩ : ∃ pr, pr = w.heap.size + 1 := ⟨_, rfl⟩
  rw [← hpr] at CR hsw ⊢
  obtain ⟨pa, hpa⟩ : ∃ pa, pa = w.heap.size := ⟨_, rfl⟩
  rw [← hpa] at CA
  first | rw [← hpa] | skip
  have HPA := Lib.hid hpa
  have hprw : w.heap.size ≤ pr := by omega
  clear hpr hs1 hpa
  have a0 := CA.out.cell 0
  have a1 := CA.out.cell 1
  have a2 := CA.out.cell 2
  simp only [List.getElem?_cons_zero, List.getElem?_cons_succ] at a0 a1 a2
  have HZC : Hid ((w1.alloc (.cells (.int .i64 0 :: .int .i64 0 :: .int .i64 0 :: .int .i64 0 :: .int .i64 0 :: .int .i64 0 :: .int .i64 0 :: .int .i64 0 :: .int .i64 0 :: .slice none 0 0 :: .int .i64 0 :: .slice none 0 0 :: .int .i64 0 :: .int .i64 0 :: .int .i64 0 :: .int .i64 0 :: .int .i64 0 :: .slice none 0 0 :: .slice none 0 0 :: .int .i64 0 :: .int .i64 0 :: .int .i64 0 :: .int .i64 0 :: .int .i64 0 :: .int .i64 0 :: .int .i64 0 :: .int .i64 0 :: .string ⟨#[]⟩ :: .string ⟨#[]⟩ :: .slice none 0 0 :: .int .i64 0 :: .int .i64 0 :: .int .i64 0 :: .int .i64 0 :: .int .i64 0 :: .int .i64 0 :: .slice none 0 0 :: .slice none 0 0 :: []).toArray 36)).heap[w1.heap.size]? = some (.cells (.int .i64 0 :: .int .i64 0 :: .int .i64 0 :: .int .i64 0 :: .int .i64 0 :: .int .i64 0 :: .int .i64 0 :: .int .i64 0 :: .int .i64 0 :: .slice none 0 0 :: .int .i64 0 :: .slice none 0 0 :: .int .i64 0 :: .int .i64 0 :: .int .i64 0 :: .int .i64 0 :: .int .i64 0 :: .slice none 0 0 :: .slice none 0 0 :: .int .i64 0 :: .int .i64 0 :: .int .i64 0 :: .int .i64 0 :: .int .i64 0 :: .int .i64 0 :: .int .i64 0 :: .int .i64 0 :: .string ⟨#[]⟩ :: .string ⟨#[]⟩ :: .slice none 0 0 :: .int .i64 0 :: .int .i64 0 :: .int .i64 0 :: .int .i64 0 :: .int .i64 0 :: .int .i64 0 :: .slice none 0 0 :: .slice none 0 0 :: []).toArray 36 (0, 0))) := Cl.new w1 (.int .i64 0 :: .int .i64 0 :: .int .i64 0 :: .int .i64 0 :: .int .i64 0 :: .int .i64 0 :: .int .i64 0 :: .int .i64 0 :: .int .i64 0 :: .slice none 0 0 :: .int .i64 0 :: .slice none 0 0 :: .int .i64 0 :: .int .i64 0 :: .int .i64 0 :: .int .i64 0 :: .int .i64 0 :: .slice none 0 0 :: .slice none 0 0 :: .int .i64 0 :: .int .i64 0 :: .int .i64 0 :: .int .i64 0 :: .int .i64 0 :: .int .i64 0 :: .int .i64 0 :: .int .i64 0 :: .string ⟨#[]⟩ :: .string ⟨#[]⟩ :: .slice none 0 0 :: .int .i64 0 :: .int .i64 0 :: .int .i64 0 :: .int .i64 0 :: .int .i64 0 :: .int .i64 0 :: .slice none 0 0 :: .slice none 0 0 :: []) _
  have CO : Hid (Cl ((w1.alloc (.cells (.int .i64 0 :: .int .i64 0 :: .int .i64 0 :: .int .i64 0 :: .int .i64 0 :: .int .i64 0 :: .int .i64 0 :: .int .i64 0 :: .int .i64 0 :: .slice none 0 0 :: .int .i64 0 :: .slice none 0 0 :: .int .i64 0 :: .int .i64 0 :: .int .i64 0 :: .int .i64 0 :: .int .i64 0 :: .slice none 0 0 :: .slice none 0 0 :: .int .i64 0 :: .int .i64 0 :: .int .i64 0 :: .int .i64 0 :: .int .i64 0 :: .int .i64 0 :: .int .i64 0 :: .int .i64 0 :: .string ⟨#[]⟩ :: .string ⟨#[]⟩ :: .slice none 0 0 :: .int .i64 0 :: .int .i64 0 :: .int .i64 0 :: .int .i64 0 :: .int .i64 0 :: .int .i64 0 :: .slice none 0 0 :: .slice none 0 0 :: []).toArray 36)).setRow w1.heap.size (.int .i64 3 :: .int .i64 x_frm :: .int .i64 x_to :: .int .i64 0 :: .int .i64 0 :: .int .i64 0 :: .int .i64 0 :: .int .i64 0 :: .int .i64 0 :: .slice none 0 0 :: .int .i64 0 :: .slice none 0 0 :: .int .i64 0 :: .int .i64 0 :: .int .i64 0 :: .int .i64 0 :: .int .i64 0 :: .slice none 0 0 :: .slice none 0 0 :: .int .i64 0 :: .int .i64 0 :: .int .i64 0 :: .int .i64 0 :: .int .i64 0 :: .int .i64 0 :: .int .i64 0 :: .int .i64 0 :: .string ⟨#[]⟩ :: .string ⟨#[]⟩ :: .slice none 0 0 :: .int .i64 0 :: .int .i64 0 :: .int .i64 0 :: .int .i64 0 :: .int .i64 0 :: .int .i64 0 :: .slice none 0 0 :: .slice none 0 0 :: []).toArray) w1.heap.size (.int .i64 3 :: .int .i64 x_frm :: .int .i64 x_to :: .int .i64 0 :: .int .i64 0 :: .int .i64 0 :: .int .i64 0 :: .int .i64 0 :: .int .i64 0 :: .slice none 0 0 :: .int .i64 0 :: .slice none 0 0 :: .int .i64 0 :: .int .i64 0 :: .int .i64 0 :: .int .i64 0 :: .int .i64 0 :: .slice none 0 0 :: .slice none 0 0 :: .int .i64 0 :: .int .i64 0 :: .int .i64 0 :: .int .i64 0 :: .int .i64 0 :: .int .i64 0 :: .int .i64 0 :: .int .i64 0 :: .string ⟨#[]⟩ :: .string ⟨#[]⟩ :: .slice none 0 0 :: .int .i64 0 :: .int .i64 0 :: .int .i64 0 :: .int .i64 0 :: .int .i64 0 :: .int .i64 0 :: .slice none 0 0 :: .slice none 0 0 :: []) 36) := Cl.row (Cl.new w1 (.int .i64 0 :: .int .i64 0 :: .int .i64 0 :: .int .i64 0 :: .int .i64 0 :: .int .i64 0 :: .int .i64 0 :: .int .i64 0 :: .int .i64 0 :: .slice none 0 0 :: .int .i64 0 :: .slice none 0 0 :: .int .i64 0 :: .int .i64 0 :: .int .i64 0 :: .int .i64 0 :: .int .i64 0 :: .slice none 0 0 :: .slice none 0 0 :: .int .i64 0 :: .int .i64 0 :: .int .i64 0 :: .int .i64 0 :: .int .i64 0 :: .int .i64 0 :: .int .i64 0 :: .int .i64 0 :: .string ⟨#[]⟩ :: .string ⟨#[]⟩ :: .slice none 0 0 :: .int .i64 0 :: .int .i64 0 :: .int .i64 0 :: .int .i64 0 :: .int .i64 0 :: .int .i64 0 :: .slice none 0 0 :: .slice none 0 0 :: []) _) _
  have b2 : Hid (Below w1.heap.size w1 ((w1.alloc (.cells (.int .i64 0 :: .int .i64 0 :: .int .i64 0 :: .int .i64 0 :: .int .i64 0 :: .int .i64 0 :: .int .i64 0 :: .int .i64 0 :: .int .i64 0 :: .slice none 0 0 :: .int .i64 0 :: .slice none 0 0 :: .int .i64 0 :: .int .i64 0 :: .int .i64 0 :: .int .i64 0 :: .int .i64 0 :: .slice none 0 0 :: .slice none 0 0 :: .int .i64 0 :: .int .i64 0 :: .int .i64 0 :: .int .i64 0 :: .int .i64 0 :: .int .i64 0 :: .int .i64 0 :: .int .i64 0 :: .string ⟨#[]⟩ :: .string ⟨#[]⟩ :: .slice none 0 0 :: .int .i64 0 :: .int .i64 0 :: .int .i64 0 :: .int .i64 0 :: .int .i64 0 :: .int .i64 0 :: .slice none 0 0 :: .slice none 0 0 :: []).toArray 36)).setRow w1.heap.size (.int .i64 3 :: .int .i64 x_frm :: .int .i64 x_to :: .int .i64 0 :: .int .i64 0 :: .int .i64 0 :: .int .i64 0 :: .int .i64 0 :: .int .i64 0 :: .slice none 0 0 :: .int .i64 0 :: .slice none 0 0 :: .int .i64 0 :: .int .i64 0 :: .int .i64 0 :: .int .i64 0 :: .int .i64 0 :: .slice none 0 0 :: .slice none 0 0 :: .int .i64 0 :: .int .i64 0 :: .int .i64 0 :: .int .i64 0 :: .int .i64 0 :: .int .i64 0 :: .int .i64 0 :: .int .i64 0 :: .string ⟨#[]⟩ :: .string ⟨#[]⟩ :: .slice none 0 0 :: .int .i64 0 :: .int .i64 0 :: .int .i64 0 :: .int .i64 0 :: .int .i64 0 :: .int .i64 0 :: .slice none 0 0 :: .slice none 0 0 :: []).toArray)) := ((Below.refl _ _).alloc (Nat.le_refl _) _).trans ((Keeps.row (S := fun j => j = w1.heap.size) _ w1.heap.size _ rfl).toBelow (by simp) (fun k hk e => by omega))
  have HI38 := Lib.hid (show (Tryz.prog.info? 36).map (·.size) = some ((.int .i64 3 :: .int .i64 x_frm :: .int .i64 x_to :: .int .i64 0 :: .int .i64 0 :: .int .i64 0 :: .int .i64 0 :: .int .i64 0 :: .int .i64 0 :: .slice none 0 0 :: .int .i64 0 :: .slice none 0 0 :: .int .i64 0 :: .int .i64 0 :: .int .i64 0 :: .int .i64 0 :: .int .i64 0 :: .slice none 0 0 :: .slice none 0 0 :: .int .i64 0 :: .int .i64 0 :: .int .i64 0 :: .int .i64 0 :: .int .i64 0 :: .int .i64 0 :: .int .i64 0 :: .int .i64 0 :: .string ⟨#[]⟩ :: .string ⟨#[]⟩ :: .slice none 0 0 :: .int .i64 0 :: .int .i64 0 :: .int .i64 0 :: .int .i64 0 :: .int .i64 0 :: .int .i64 0 :: .slice none 0 0 :: .slice none 0 0 :: []).toArray : Array Value).size by kernel_rfl)
  have HONE : Hid (((.int .i64 3 :: .int .i64 x_frm :: .int .i64 x_to :: .int .i64 0 :: .int .i64 0 :: .int .i64 0 :: .int .i64 0 :: .int .i64 0 :: .int .i64 0 :: .slice none 0 0 :: .int .i64 0 :: .slice none 0 0 :: .int .i64 0 :: .int .i64 0 :: .int .i64 0 :: .int .i64 0 :: .int .i64 0 :: .slice none 0 0 :: .slice none 0 0 :: .int .i64 0 :: .int .i64 0 :: .int .i64 0 :: .int .i64 0 :: .int .i64 0 :: .int .i64 0 :: .int .i64 0 :: .int .i64 0 :: .string ⟨#[]⟩ :: .string ⟨#[]⟩ :: .slice none 0 0 :: .int .i64 0 :: .int .i64 0 :: .int .i64 0 :: .int .i64 0 :: .int .i64 0 :: .int .i64 0 :: .slice none 0 0 :: .slice none 0 0 :: []).toArray : Array Value).all (·.oneCell') = true) := by simp [Hid, Value.oneCell']
  have HSZ : Hid (((.int .i64 0 :: .int .i64 0 :: .int .i64 0 :: .int .i64 0 :: .int .i64 0 :: .int .i64 0 :: .int .i64 0 :: .int .i64 0 :: .int .i64 0 :: .slice none 0 0 :: .int .i64 0 :: .slice none 0 0 :: .int .i64 0 :: .int .i64 0 :: .int .i64 0 :: .int .i64 0 :: .int .i64 0 :: .slice none 0 0 :: .slice none 0 0 :: .int .i64 0 :: .int .i64 0 :: .int .i64 0 :: .int .i64 0 :: .int .i64 0 :: .int .i64 0 :: .int .i64 0 :: .int .i64 0 :: .string ⟨#[]⟩ :: .string ⟨#[]⟩ :: .slice none 0 0 :: .int .i64 0 :: .int .i64 0 :: .int .i64 0 :: .int .i64 0 :: .int .i64 0 :: .int .i64 0 :: .slice none 0 0 :: .slice none 0 0 :: []).toArray : Array Value).size = ((.int .i64 3 :: .int .i64 x_frm :: .int .i64 x_to :: .int .i64 0 :: .int .i64 0 :: .int .i64 0 :: .int .i64 0 :: .int .i64 0 :: .int .i64 0 :: .slice none 0 0 :: .int .i64 0 :: .slice none 0 0 :: .int .i64 0 :: .int .i64 0 :: .int .i64 0 :: .int .i64 0 :: .int .i64 0 :: .slice none 0 0 :: .slice none 0 0 :: .int .i64 0 :: .int .i64 0 :: .int .i64 0 :: .int .i64 0 :: .int .i64 0 :: .int .i64 0 :: .int .i64 0 :: .int .i64 0 :: .string ⟨#[]⟩ :: .string ⟨#[]⟩ :: .slice none 0 0 :: .int .i64 0 :: .int .i64 0 :: .int .i64 0 :: .int .i64 0 :: .int .i64 0 :: .int .i64 0 :: .slice none 0 0 :: .slice none 0 0 :: []).toArray : Array Value).size) := rfl
  go_upto_region 2 with (refine wpList_store_row (by rfl) _ _ _ (by rfl) w1.heap.size (.int .i64 3 :: .int .i64 x_frm :: .int .i64 x_to :: .int .i64 0 :: .int .i64 0 :: .int .i64 0 :: .int .i64 0 :: .int .i64 0 :: .int .i64 0 :: .slice none 0 0 :: .int .i64 0 :: .slice none 0 0 :: .int .i64 0 :: .int .i64 0 :: .int .i64 0 :: .int .i64 0 :: .int .i64 0 :: .slice none 0 0 :: .slice none 0 0 :: .int .i64 0 :: .int .i64 0 :: .int .i64 0 :: .int .i64 0 :: .int .i64 0 :: .int .i64 0 :: .int .i64 0 :: .int .i64 0 :: .string ⟨#[]⟩ :: .string ⟨#[]⟩ :: .slice none 0 0 :: .int .i64 0 :: .int .i64 0 :: .int .i64 0 :: .int .i64 0 :: .int .i64 0 :: .int .i64 0 :: .slice none 0 0 :: .slice none 0 0 :: []).toArray (by rfl) (by rfl) 36 _ HZC.out HI38.out HSZ.out HONE.out ?_)
  generalize (w1.alloc (.cells (.int .i64 0 :: .int .i64 0 :: .int .i64 0 :: .int .i64 0 :: .int .i64 0 :: .int .i64 0 :: .int .i64 0 :: .int .i64 0 :: .int .i64 0 :: .slice none 0 0 :: .int .i64 0 :: .slice none 0 0 :: .int .i64 0 :: .int .i64 0 :: .int .i64 0 :: .int .i64 0 :: .int .i64 0 :: .slice none 0 0 :: .slice none 0 0 :: .int .i64 0 :: .int .i64 0 :: .int .i64 0 :: .int .i64 0 :: .int .i64 0 :: .int .i64 0 :: .int .i64 0 :: .int .i64 0 :: .string ⟨#[]⟩ :: .string ⟨#[]⟩ :: .slice none 0 0 :: .int .i64 0 :: .int .i64 0 :: .int .i64 0 :: .int .i64 0 :: .int .i64 0 :: .int .i64 0 :: .slice none 0 0 :: .slice none 0 0 :: []).toArray 36)).setRow w1.heap.size (.int .i64 3 :: .int .i64 x_frm :: .int .i64 x_to :: .int .i64 0 :: .int .i64 0 :: .int .i64 0 :: .int .i64 0 :: .int .i64 0 :: .int .i64 0 :: .slice none 0 0 :: .int .i64 0 :: .slice none 0 0 :: .int .i64 0 :: .int .i64 0 :: .int .i64 0 :: .int .i64 0 :: .int .i64 0 :: .slice none 0 0 :: .slice none 0 0 :: .int .i64 0 :: .int .i64 0 :: .int .i64 0 :: .int .i64 0 :: .int .i64 0 :: .int .i64 0 :: .int .i64 0 :: .int .i64 0 :: .string ⟨#[]⟩ :: .string ⟨#[]⟩ :: .slice none 0 0 :: .int .i64 0 :: .int .i64 0 :: .int .i64 0 :: .int .i64 0 :: .int .i64 0 :: .int .i64 0 :: .slice none 0 0 :: .slice none 0 0 :: []).toArray = w2 at *
  clear HZC HI38 HONE HSZ a0 a1 a2
  have hpo : ¬ pr = w1.heap.size := hsw
  have hpo2 : ¬ pa = w1.heap.size := by have := CA.out.lt; omega
  have CA2 := Lib.hid (CA.out.below b2.out)
  have CR2 := Lib.hid (CR.out.below b2.out)
  have B2 := Lib.hid (bt B1.out b2.out)
  generalize w1.heap.size = po at *
  clear CA CR B1 b2 hsw
  have a0 := CA2.out.cell 0
  simp only [List.getElem?_cons_zero, List.getElem?_cons_succ] at a0
  go_upto_if 13 with (fail)
  go_cut [] (fun wz => Cl wz po (.int .i64 3 :: .int .i64 x_frm :: .int .i64 x_to :: .int .i64 0 :: .int .i64 0 :: .int .i64 0 :: .int .i64 0 :: .int .i64 0 :: .int .i64 0 :: .slice none 0 0 :: .int .i64 0 :: .slice none 0 0 :: .int .i64 0 :: .int .i64 0 :: .int .i64 0 :: .int .i64 0 :: .int .i64 0 :: .slice none 0 0 :: .slice none 0 0 :: .int .i64 0 :: .int .i64 0 :: .int .i64 0 :: .int .i64 0 :: .int .i64 0 :: .int .i64 0 :: .int .i64 0 :: .int .i64 0 :: .string ⟨#[]⟩ :: .string ⟨#[]⟩ :: .slice none 0 0 :: .int .i64 0 :: .int .i64 0 :: .int .i64 0 :: .int .i64 0 :: .int .i64 0 :: .int .i64 0 :: .slice none 0 0 :: .slice none 0 0 :: []) 36 ∧ Keeps (fun j => j = po) w2 wz)
  case first =>
    have K9 := Keeps.refl (fun j => j = po) w2
    go_wp2
    go_meet
    case rel => exact ⟨CO.out, K9⟩
  case rest =>
    obtain ⟨hC3, hK3⟩ := hcut
    generalize wc = w3 at *
    have CO3 := Lib.hid hC3
    have CA3 := Lib.hid (Cl.keep CA2.out hK3 hpo2)
    have CR3 := Lib.hid (Cl.keep CR2.out hK3 hpo)
    have B3 : Hid (Below w.heap.size w w3) := B2.out.trans (hK3.toBelow B2.out.size (fun k hk e => by omega))
    clear hC3 hK3 CA2 CR2 B2 CO a0
    have a0 := CA3.out.cell 0
    simp only [List.getElem?_cons_zero, List.getElem?_cons_succ] at a0
    go_upto_block 0 with (fail)
    go_cut [] (fun wz => Cl wz po L 36 ∧ Cl wz pr (.int .i64 0 :: .int .i64 0 :: .int .i64 0 :: .int .i64 0 :: .int .i64 0 :: .int .i64 0 :: .int .i64 0 :: .int .i64 0 :: .int .i64 0 :: .slice none 0 0 :: .int .i64 0 :: .slice none 0 0 :: .int .i64 0 :: .int .i64 0 :: .int .i64 0 :: .int .i64 0 :: .int .i64 0 :: .slice none 0 0 :: .slice none 0 0 :: .int .i64 0 :: .int .i64 0 :: .int .i64 0 :: .int .i64 0 :: .int .i64 0 :: .int .i64 0 :: .int .i64 0 :: .int .i64 0 :: .string ⟨#[]⟩ :: .string ⟨#[]⟩ :: .slice none 0 0 :: .int .i64 0 :: .int .i64 0 :: .int .i64 0 :: .int .i64 0 :: .int .i64 0 :: .int .i64 0 :: .slice none 0 0 :: .slice none 0 0 :: []) 36 ∧ Below w.heap.size w wz)
    case first =>
      clear a0 HL38 HL39 HLON HLSZ
      have HL : Hid (L = (.int .i64 3 :: .int .i64 x_frm :: .int .i64 x_to :: .int .i64 0 :: .int .i64 0 :: .int .i64 0 :: .int .i64 0 :: .int .i64 x_life :: .int .i64 0 :: .slice none 0 0 :: .int .i64 0 :: .slice none 0 0 :: .int .i64 0 :: .int .i64 0 :: .int .i64 0 :: .int .i64 0 :: .int .i64 0 :: .slice none 0 0 :: .slice none 0 0 :: .int .i64 0 :: .int .i64 0 :: .int .i64 0 :: .int .i64 0 :: .int .i64 0 :: .int .i64 0 :: .int .i64 0 :: .int .i64 0 :: .string ⟨#[]⟩ :: .string ⟨#[]⟩ :: .slice none 0 0 :: .int .i64 0 :: .int .i64 0 :: .int .i64 0 :: .int .i64 0 :: .int .i64 0 :: .int .i64 0 :: .slice none 0 0 :: .slice none 0 0 :: [])) := by
        rw [Hid, HL0.out]
        rfl
      clear HL0
      have CO := Lib.hid CO3.out
      have a7 := CA3.out.cell 7
      have o7 := CO.out.cell 7
      have f7 := CO.out.free 7
      simp only [List.getElem?_cons_zero, List.getElem?_cons_succ] at a7 o7
      obtain ⟨w9, hw9, C9, K9⟩ : ∃ w9, (w3.setCell ⟨po, 7, none⟩ (.int .i64 x_life)) = w9 ∧ Hid (Cl w9 po (.int .i64 3 :: .int .i64 x_frm :: .int .i64 x_to :: .int .i64 0 :: .int .i64 0 :: .int .i64 0 :: .int .i64 0 :: .int .i64 x_life :: .int .i64 0 :: .slice none 0 0 :: .int .i64 0 :: .slice none 0 0 :: .int .i64 0 :: .int .i64 0 :: .int .i64 0 :: .int .i64 0 :: .int .i64 0 :: .slice none 0 0 :: .slice none 0 0 :: .int .i64 0 :: .int .i64 0 :: .int .i64 0 :: .int .i64 0 :: .int .i64 0 :: .int .i64 0 :: .int .i64 0 :: .int .i64 0 :: .string ⟨#[]⟩ :: .string ⟨#[]⟩ :: .slice none 0 0 :: .int .i64 0 :: .int .i64 0 :: .int .i64 0 :: .int .i64 0 :: .int .i64 0 :: .int .i64 0 :: .slice none 0 0 :: .slice none 0 0 :: []) 36) ∧ Hid (Keeps (fun j => j = po) w3 w9) :=
        ⟨_, rfl, (Cl.set CO.out 7 (.int .i64 x_life)), ((Keeps.refl (fun j => j = po) w3).trans (Keeps.setCell (fun j => j = po) _ ⟨po, 7, none⟩ (.int .i64 x_life) rfl))⟩
      clear CO CO3
      have a0 := CA3.out.cell 0
      simp only [List.getElem?_cons_zero] at a0
      go_wp2
      first | rw [hw9] | skip
      go_meet
      case rel => exact ⟨by rw [HL.out]; exact C9.out, Cl.keep CR3.out K9.out hpo, B3.out.trans (K9.out.toBelow B3.out.size (fun k hk e => by omega))⟩
    case rest =>
      obtain ⟨hC4, hR4, hB4⟩ := hcut
      generalize wc = w4 at *
      have CP := Lib.hid hC4
      have CQ := Lib.hid hR4
      have B4 := Lib.hid hB4
      clear hC4 hR4 hB4 HL0 CO3 CA3 CR3 B3 a0
      have hpr : pr ≠ po := hpo
      have C9 : Hid (Cl (w4.setRow pr L.toArray) pr L 36) := by
        have := CQ.out.row L.toArray
        rwa [List.toList_toArray] at this
      have K9 : Hid (Keeps (fun j => j = pr) w4 (w4.setRow pr L.toArray)) := Keeps.row _ _ _ rfl
      have R4 := Lib.hid CP.out.range
      have HU := Lib.hid Tryz.underlying36
      go_wp2_with (first
        | (refine wpList_load_mid (by rfl) _ _ (by rfl) po 0 (by rfl) L _ R4.out HU.out (by rfl) HL38.out ?_)
        | (refine wpList_store_row (by rfl) _ _ _ (by rfl) pr L.toArray (by rfl) (by rfl) 36 _ CQ.out HL39.out HLSZ.out HLON.out ?_))
      have BF : Below w.heap.size w (w4.setRow pr L.toArray) := B4.out.trans (K9.out.toBelow B4.out.size (fun k hk e => by omega))
      refine bodyPost_ret (results_cl rfl _ _ _ _ _ _ rfl C9.out Tryz.underlying36 rfl HL38.out) rfl ?_
      exact ⟨rfl, BF⟩
end Go.Proofs.YtjfpbeccpcbpcaaGreatDoor
namespace Go.Proofs.YtjfpbeccpcbpcaaGreatDoor
open Go Go.RowKit
section
variable {P : Program} {ops : Array Oper} {md : Region.Mode} {C : Array Bool → World → Prop}
def sUpon (P : Program) (D : World → Prop) (v : Value) : Result Next → Prop
  | .ok (.value u) w' => D w' ∧ u = v
  | .ok .skip w' => D w' ∧ v = undef
  | .ok (.enter f args) w' => Calls P f args w' (fun e w'' => e = .returned v ∧ D w'')
  | _ => False
def listedAll : Nat → Nat → Array Bool → Array Bool
  | 0, _, L => L
  | n + 1, k, L => listedAll n (k + 1) (L.setIfInBounds k true)
theorem no_enter_v (s : Sem Value) (f : FuncId) (args : Array Value) (w w' : World) : (do pure (Next.value (← s)) : Sem Next).run P w ≠ .ok (.enter f args) w' := by
  simp only [Sem.run_bind, Sem.run_pure]
  cases s.run P w <;> simp [Result.andThen]
def AnyOf (C : Array Bool → World → Prop) : Type := {W : World // ∃ L, C L W}
end
def stL (sts : List (Nat × Nat × Value)) (L : Array Bool) (cs : List Value) : List Value := cs.mapIdx fun k c => match sts.find? (fun s => s.2.1 == k) with | some s => if L.getD s.1 false = true then s.2.2 else c | none => c
structure StC (w2 : World) (q : Nat) (t : TypeId) (n : Nat) (cs : List Value) (sts : List (Nat × Nat × Value)) (L : Array Bool) (W : World) : Prop where
  keep : Keeps (fun j => j = q) w2 W
  cl : Cl W q (stL sts L cs) t
  size : L.size = n
theorem StC.store {w2 : World} {q : Nat} {t : TypeId} {n : Nat} {cs : List Value} {sts : List (Nat × Nat × Value)} {L : Array Bool} {W : World} (h : StC w2 q t n cs sts L W) {i off : Nat} {v : Value} (hin : i < n) (hf : sts.find? (fun s => s.2.1 == off) = some (i, off, v)) (hu : ∀ s ∈ sts, s.1 = i → s.2.1 = off) :
    StC w2 q t n cs sts (L.setIfInBounds i true) (W.setCell ⟨q, off, none⟩ v) := by
  refine ⟨h.keep.trans (Keeps.setCell _ _ _ _ rfl), ?_, by rw [Array.size_setIfInBounds]; exact h.size⟩
  have : stL sts (L.setIfInBounds i true) cs = (stL sts L cs).set off v := by
    apply List.ext_getElem?
    intro k
    unfold stL
    rw [List.getElem?_mapIdx, List.getElem?_set]
    by_cases e : off = k
    · subst e
      rw [if_pos rfl, hf]
      have hL : (L.setIfInBounds i true).getD i false = true := by
        have : i < L.size := by rw [h.size]; exact hin
        simp [this]
      simp only [hL, if_true, List.length_mapIdx]
      by_cases hk : off < cs.length
      · rw [if_pos hk, List.getElem?_eq_getElem hk]; rfl
      · rw [if_neg hk, List.getElem?_eq_none (by omega)]; rfl
    · rw [if_neg e, List.getElem?_mapIdx]
      cases cs[k]? with
      | none => rfl
      | some c =>
        simp only [Option.map_some]
        cases hg : sts.find? (fun s => s.2.1 == k) with
        | none => rfl
        | some s =>
          have h1 := List.find?_some hg
          simp only [beq_iff_eq] at h1
          have h2 : s.1 ≠ i := fun e2 => e ((hu s (List.mem_of_find?_eq_some hg) e2).symm.trans h1)
          simp only
          rw [getD_set_ne false (fun e => h2 e.symm)]
  rw [this]
  exact h.cl.set off v
theorem StC.cell {w2 : World} {q : Nat} {t : TypeId} {n : Nat} {cs : List Value} {sts : List (Nat × Nat × Value)} {L : Array Bool} {W : World} (h : StC w2 q t n cs sts L W) {p : Addr} {v : Value} (hp : w2.cell? p = some v) (hq : p.block ≠ q) : W.cell? p = some v :=
  (h.keep.cell (World.block_lt_of_cell? w2 _ hp) hq).trans hp
theorem StC.has {w2 : World} {q : Nat} {t : TypeId} {n : Nat} {cs : List Value} {sts : List (Nat × Nat × Value)} {L : Array Bool} {W : World} (h : StC w2 q t n cs sts L W) {off : Nat} (ho : off < cs.length) : ∃ u, W.cell? ⟨q, off, none⟩ = some u := by
  rw [h.cl.cell off]
  have : off < (stL sts L cs).length := by unfold stL; rw [List.length_mapIdx]; exact ho
  exact ⟨_, List.getElem?_eq_getElem this⟩
theorem StC.free {w2 : World} {q : Nat} {t : TypeId} {n : Nat} {cs : List Value} {sts : List (Nat × Nat × Value)} {L : Array Bool} {W : World} (h : StC w2 q t n cs sts L W) (off : Nat) : W.frozen? ⟨q, off, none⟩ = false := h.cl.free off
end Go.Proofs.YtjfpbeccpcbpcaaGreatDoor
