/-
  Maps from keys to records; cmp.Compare at texts; Fold's two closures; maps.DeleteFunc, walked.
  Conditions: none.
-/
import Derived.Test.YtccndbifnbmddaaWg
import Derived.Sort.Walk0
set_option linter.unusedVariables false
set_option linter.unusedSimpArgs false
namespace Go.Proofs.Ytccndbifnbmddaa
open Go.RowKit Go.ChangeMaps

/-- Keys and their records. -/
abbrev RM := List (List UInt8 × Cr.Rec)
def lookR : RM → List UInt8 → Option Cr.Rec
  | [], _ => none
  | q :: r, k => if q.1 = k then some q.2 else lookR r k
def updR : RM → List UInt8 → Cr.Rec → RM
  | [], k, n => [(k, n)]
  | q :: r, k, n => if q.1 = k then (k, n) :: r else q :: updR r k n
def delR : RM → List UInt8 → RM
  | [], _ => []
  | q :: r, k => if q.1 = k then r else q :: delR r k
def rmap (m : RM) : MapL := m.map fun q => (q.1, recV q.2)
theorem look_rmap (m : RM) (k : List UInt8) : look (rmap m) k = (lookR m k).map recV := by
  induction m with
  | nil => rfl
  | cons q r ih =>
    simp only [rmap, List.map_cons, look, lookR] at ih ⊢
    split
    · rfl
    · exact ih
theorem upd_rmap (m : RM) (k : List UInt8) (n : Cr.Rec) : upd (rmap m) k (recV n) = rmap (updR m k n) := by
  induction m with
  | nil => rfl
  | cons q r ih =>
    simp only [rmap, List.map_cons, upd, updR] at ih ⊢
    split
    · rfl
    · rw [ih]; rfl
theorem del_rmap (m : RM) (k : List UInt8) : del (rmap m) k = rmap (delR m k) := by
  induction m with
  | nil => rfl
  | cons q r ih =>
    simp only [rmap, List.map_cons, del, delR] at ih ⊢
    split
    · rfl
    · rw [ih]; rfl
theorem lookR_same (m : RM) (k : List UInt8) (n : Cr.Rec) : lookR (updR m k n) k = some n := by
  induction m with
  | nil => simp [updR, lookR]
  | cons q r ih =>
    rw [updR]
    split
    · simp [lookR]
    · rename_i e
      rw [lookR, if_neg e]; exact ih
theorem lookR_other (m : RM) {k k' : List UInt8} (n : Cr.Rec) (h : k' ≠ k) : lookR (updR m k n) k' = lookR m k' := by
  induction m with
  | nil => simp [updR, lookR, Ne.symm h]
  | cons q r ih =>
    rw [updR]
    split
    · rename_i e
      rw [lookR, if_neg (Ne.symm h), lookR, if_neg (fun e2 => h (e2.symm.trans e))]
    · rw [lookR, lookR, ih]
theorem keys_rmap (m : RM) : keysL (rmap m) = m.map (·.1) := by simp [keysL, rmap]
theorem rmap_inj {k : List UInt8} {v : Value} {m : RM} (h : (k, v) ∈ rmap m) : ∃ x, (k, x) ∈ m ∧ v = recV x := by
  obtain ⟨q, hq, he⟩ := List.mem_map.1 h
  cases he
  exact ⟨q.2, hq, rfl⟩
theorem recV_inj {x y : Cr.Rec} (h : recV x = recV y) : x = y := by
  obtain ⟨a, b, c, d⟩ := x
  obtain ⟨a', b', c', d'⟩ := y
  simp only [recV, Value.agg.injEq, Array.mk.injEq, List.cons.injEq, Value.int.injEq, Value.string.injEq, Value.bool.injEq, and_true, true_and] at h
  obtain ⟨h1, h2, h3, h4⟩ := h
  rw [h1, bytes_inj h2, bytes_inj h3, h4]
def unV : Value → Cr.Rec
  | .agg ⟨[.int _ o, .string k, .string v, .bool g]⟩ => ⟨o, k.data.toList, v.data.toList, g⟩
  | _ => ⟨0, [], [], false⟩
/-- A row of a map's entries is a row of records. -/
theorem rmap_perm {l : MapL} : ∀ {m : RM}, l.Perm (rmap m) → ∃ m' : RM, l = rmap m' ∧ m'.Perm m := by
  intro m h
  have : ∀ l : MapL, (∀ q ∈ l, ∃ x, q.2 = recV x) → ∃ m' : RM, l = rmap m' := by
    intro l
    induction l with
    | nil => intro _; exact ⟨[], rfl⟩
    | cons q l ih =>
      intro hq
      obtain ⟨m', rfl⟩ := ih (fun p hp => hq p (by simp [hp]))
      obtain ⟨x, hx⟩ := hq q (by simp)
      exact ⟨(q.1, x) :: m', by simp [rmap, ← hx]⟩
  obtain ⟨m', rfl⟩ := this l (fun q hq => by
    obtain ⟨x, _, hx⟩ := rmap_inj (k := q.1) (v := q.2) (h.subset hq)
    exact ⟨x, hx⟩)
  refine ⟨m', rfl, ?_⟩
  have h2 := h.map (fun q : List UInt8 × Value => (q.1, unV q.2))
  have e : ∀ m : RM, (rmap m).map (fun q : List UInt8 × Value => (q.1, unV q.2)) = m := by
    intro m
    simp only [rmap, List.map_map]
    exact List.map_id m
  rwa [e, e] at h2
theorem filter_del {m : RM} (hn : (m.map (·.1)).Nodup) (k : List UInt8) : delR m k = m.filter (fun q => q.1 != k) := by
  induction m with
  | nil => rfl
  | cons q r ih =>
    simp only [List.map_cons, List.nodup_cons] at hn
    rw [delR]
    split
    · rename_i e
      subst e
      rw [List.filter_cons]
      simp only [bne_self_eq_false, Bool.false_eq_true, if_false]
      symm
      rw [List.filter_eq_self]
      intro p hp
      simp only [bne_iff_ne]
      exact fun e => hn.1 (e ▸ List.mem_map_of_mem (f := (·.1)) hp)
    · rename_i e
      rw [List.filter_cons]
      simp only [bne_iff_ne, ne_eq, e, not_false_eq_true, if_true]
      rw [ih hn.2]

def ltK (x y : Cr.Rec) : Bool := decide (x.key < y.key)
def cmpK (x y : List UInt8) : Int := if x < y then -1 else if y < x then 1 else 0
set_option maxHeartbeats 800000 in
theorem nan_any (x : List UInt8) (w : World) : Calls Try.prog 46 #[.string ⟨x.toArray⟩] w fun e w' => e = .returned (.bool false) ∧ w' = w := by
  go_enter Try.func46, Try.ntmps46
  go_wp2
  go_ret
  exact ⟨by simp, rfl⟩
set_option maxHeartbeats 800000 in
theorem compare_any (x y : List UInt8) (w : World) : Calls Try.prog 35 #[.string ⟨x.toArray⟩, .string ⟨y.toArray⟩] w fun e w' => e = .returned (.int .i64 (cmpK x y)) ∧ w' = w := by
  have hx : (⟨x.toArray⟩ : ByteArray).toList = x := by rw [Lib.toList_data]
  have hy : (⟨y.toArray⟩ : ByteArray).toList = y := by rw [Lib.toList_data]
  have HC : Hid (cmpK x y = if x < y then -1 else if y < x then 1 else 0) := rfl
  have hb : Op.bytesLess x y = decide (x < y) := bytesLess_eq x y
  by_cases a : x < y
  · have HX : Hid (cmpK x y = -1) := by rw [Hid, HC.out, if_pos a]
    rw [decide_eq_true a] at hb
    clear HC hx hy a
    go_enter Try.func35, Try.ntmps35
    go_wp2_with (go_at_call 46; refine (nan_any _ _).mono ?_; rintro e w' ⟨rfl, rfl⟩)
    go_ret
    exact ⟨by rw [HX.out]; rfl, rfl⟩
  · rw [decide_eq_false a] at hb
    by_cases b : x = y
    · have HX : Hid (cmpK x y = 0) := by rw [Hid, HC.out, if_neg a, if_neg (by subst b; exact a)]
      have he : (x == y) = true := by simp [b]
      clear HC hx hy a b
      go_enter Try.func35, Try.ntmps35
      go_wp2_with (go_at_call 46; refine (nan_any _ _).mono ?_; rintro e w' ⟨rfl, rfl⟩)
      go_ret
      exact ⟨by rw [HX.out]; rfl, rfl⟩
    · have hyx : y < x := by
        rcases List.le_iff_lt_or_eq.1 (List.not_lt.1 a) with h | h
        · exact h
        · exact absurd h.symm b
      have HX : Hid (cmpK x y = 1) := by rw [Hid, HC.out, if_neg a, if_pos hyx]
      have he : (x == y) = false := by simp [b]
      clear HC hx hy a b hyx
      go_enter Try.func35, Try.ntmps35
      go_wp2_with (go_at_call 46; refine (nan_any _ _).mono ?_; rintro e w' ⟨rfl, rfl⟩)
      go_ret
      exact ⟨by rw [HX.out]; rfl, rfl⟩
set_option maxHeartbeats 800000 in
theorem gone_any (k : List UInt8) (x : Cr.Rec) (w : World) : Calls Try.prog 31 #[.string ⟨k.toArray⟩, recV x] w fun e w' => e = .returned (.bool x.gone) ∧ Below w.heap.size w w' := by
  obtain ⟨xo, xk, xv, xg⟩ := x
  have BA : Hid (Below w.heap.size w (w.alloc (.cells #[.int .i64 xo, .string ⟨xk.toArray⟩, .string ⟨xv.toArray⟩, .bool xg] 44))) := (Below.refl _ _).alloc (Nat.le_refl _) _
  unfold recV
  dsimp only
  go_enter Try.func31, Try.ntmps31
  go_wp2
  go_ret
  exact ⟨rfl, BA.out⟩

/-- delete under a range: an entry that has come. -/
theorem Rg.drop {P : Program} {T K E : TypeId} {w : World} {m r : Nat} {l left : MapL} (h : Rg w m r l left) (hT : P.underlying T = some (.map K E)) (hK : P.underlying K = some .string) (k : List UInt8) (hk : k ∉ keysL left) (K' ty : TypeId) :
    ∃ w', (Builtin.delete_ #[T, K'] ty #[.map (some m), .string ⟨k.toArray⟩]).run P w = .ok (.tuple #[]) w' ∧ Rg w' m r (del l k) left ∧ Keeps (fun j => j = m) w w' ∧ w'.heap.size = w.heap.size := by
  have hlt := h.mp.lt
  have hrm : m ≠ r := by
    obtain ⟨es, clock, since, seen, c0, a1, a2, a3, a4, a5, a6, _⟩ := h
    intro e
    rw [e, a6] at a1
    cases a1
  obtain ⟨es, clock, since, seen, c0, hb, he, h2, h3, h4, h6, h7, h8, h9⟩ := h
  have hrat : ∀ o, (setBlock w m o).heap[r]? = some (.mapIter (some m) since seen c0) := fun o => (keeps_setBlock w m o).block r (Array.getElem?_eq_some_iff.1 h6).1 (Ne.symm hrm) |>.trans h6
  cases hp : posn k l 0 with
  | none =>
    refine ⟨setBlock w m (.map es clock), ?_, ⟨_, _, _, _, _, at_setBlock hlt _, ?_, h2, h3, nodup_del h4 k, hrat _, h7, h8, h9⟩, keeps_setBlock _ _ _, size_setBlock _ _ _⟩
    · simp [Builtin.delete_, Sem.run_bind, Sem.run_pure, run_underlying hT, Result.andThen, getObj, setObj, Sem.run, hb, run_checkKey hK, run_findKey hK he, hp]
      rfl
    · rw [del_none ((posn_none k l 0).1 hp)]; exact he
  | some p =>
    obtain ⟨j, u⟩ := p
    obtain ⟨hd, hj⟩ := del_some k l j u hp
    have hlen := entL_len he
    simp only [Array.length_toList] at hlen
    have hje : j < es.size := by omega
    have herase : (es.eraseIdxIfInBounds j).toList = es.toList.eraseIdx j := by
      simp [Array.eraseIdxIfInBounds, hje]
    refine ⟨setBlock w m (.map (es.eraseIdxIfInBounds j) clock), ?_, ⟨_, _, _, _, _, at_setBlock hlt _, ?_, ?_, ?_, nodup_del h4 k, hrat _, ?_, h8, ?_⟩, keeps_setBlock _ _ _, size_setBlock _ _ _⟩
    · simp [Builtin.delete_, Sem.run_bind, Sem.run_pure, run_underlying hT, Result.andThen, getObj, setObj, Sem.run, hb, run_checkKey hK, run_findKey hK he, hp]
      rfl
    · rw [herase, hd]
      simp only [entL, strL] at he ⊢
      rw [Go.ChangeMaps.map_eraseIdx, Go.ChangeMaps.map_eraseIdx, he]
    · rw [herase]
      exact h2.sublist ((List.eraseIdx_sublist _ _).map _)
    · intro b hb
      rw [herase] at hb
      exact h3 b (((List.eraseIdx_sublist _ _).map _).subset hb)
    · intro e he2
      rw [herase] at he2
      exact h7 e ((List.eraseIdx_sublist _ _).subset he2)
    · -- what is left is as it was: the struck entry had come
      have hnd : (es.toList.map (·.born)).Nodup := h2.imp (fun hh => Nat.ne_of_lt hh)
      have hkey : (es.toList[j]'(by simpa using hje)).key = .string ⟨k.toArray⟩ := by
        have hq : (l[j]?).map (·.1) = some k := (upd_some k u l j u hp).2.2
        have e1 : (entL es.toList)[j]? = (strL l)[j]? := by rw [he]
        have hlj : j < l.length := by omega
        simp only [entL, strL, List.getElem?_map] at e1
        rw [List.getElem?_eq_getElem (by simpa using hje), List.getElem?_eq_getElem hlj] at e1
        rw [List.getElem?_eq_getElem hlj] at hq
        simp only [Option.map_some, Option.some.injEq, Prod.mk.injEq] at e1 hq
        rw [e1.1, hq]
      have hgone : es.toList[j]'(by simpa using hje) ∉ (leftOf es seen).toList := by
        intro hin
        have h10 : ((es.toList[j]'(by simpa using hje)).key, (es.toList[j]'(by simpa using hje)).val) ∈ strL left := h9.subset (List.mem_map.2 ⟨_, hin, rfl⟩)
        obtain ⟨q, hq, hqe⟩ := List.mem_map.1 h10
        simp only [Prod.mk.injEq] at hqe
        rw [hkey] at hqe
        have : q.1 = k := by
          have := hqe.1
          simp only [Value.string.injEq] at this
          exact bytes_inj this
        exact hk (this ▸ List.mem_map_of_mem (f := (·.1)) hq)
      have hleft : (leftOf (es.eraseIdxIfInBounds j) seen).toList = (leftOf es seen).toList := by
        simp only [leftOf, Array.toList_filter] at hgone ⊢
        rw [herase]
        have hsp : es.toList = es.toList.take j ++ es.toList[j]'(by simpa using hje) :: es.toList.drop (j + 1) := by
          rw [← List.drop_eq_getElem_cons, List.take_append_drop]
        rw [List.eraseIdx_eq_take_drop_succ, List.filter_append]
        conv => rhs; rw [hsp, List.filter_append, List.filter_cons]
        rw [if_neg]
        intro hf
        exact hgone (List.mem_filter.2 ⟨List.getElem_mem _, hf⟩)
      rw [hleft]
      exact h9

end Go.Proofs.Ytccndbifnbmddaa
