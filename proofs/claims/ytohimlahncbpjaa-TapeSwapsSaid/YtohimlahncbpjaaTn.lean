/-
  The tape's Names: slices.Sorted(maps.Keys(..)), by the shelf's contracts.
  Conditions: none but the tape's form.
-/
import Derived.Test.YtohimlahncbpjaaTk
import Derived.Shelf.SlIter.Nil
import Derived.Shelf.SortM.Plain
import Derived.Shelf.SortM.SortNone
import Derived.Ground.GgzProg
import Derived.Ground.SlgmProg
set_option linter.unusedVariables false
set_option linter.unusedSimpArgs false
namespace Go.Proofs
open Go.RowKit Go.Maps Go.Sort Go.Shelf

shelf_lay_g SlLaysZ.n7 Ggz 7 at Try 24 as Try.keysA
shelf_lay_g SlLaysZ.n6 Ggz 6 at Try 23 as Try.sortedA
shelf_lay_g SlLaysM.n6 Slgm 6 at Try 30 as Try.sortA
theorem Try.sortsA (m : Nat) : AnyZ.SortsIn Try.prog Try.sortedA_ren Fence.wide m :=
  ⟨fun blk off cap ss W hH hblk hsz => callsIn_wide.2 (AnyM.slices_Sort_string Try.sortA blk off cap ss W hH hblk hsz),
   fun p cap W => callsIn_wide.2 (AnyM.slices_Sort_string_none Try.sortA p cap W)⟩
end Go.Proofs
namespace Go.Proofs.Ytohimlahncbpjaa
open Go.RowKit Go.Maps Go.Sort Go.Shelf
open Go.WideElems (Fit rd rg)

def strOfV : Value → List UInt8
  | .string s => s.data.toList
  | _ => []
/-- Whatever stands in a map's element: read as nothing. -/
def RNil : Value → Option (DataW Unit × List MemPlace) := fun _ => some (.nil, [])
theorem keyOf_string {P : Program} {K : TypeId} (hK : P.underlying K = some .string) (k : List UInt8) (hk : k.length ≤ maxLen) : keyOf P K (.string ⟨k.toArray⟩) = some (.string k) := by
  have hs : (⟨k.toArray⟩ : ByteArray).size ≤ maxLen := by simpa [ByteArray.size] using hk
  simp [keyOf, hK, mapKey, hs]
/-- The library's word for a map of the call's own. -/
theorem Mp.own {P : Program} {K : TypeId} {w : World} {m : Nat} {l : MapL} (h : Mp w m l) (hK : P.underlying K = some .string) (hk : ∀ k ∈ keysL l, k.length ≤ maxLen) (hl : l.length ≤ maxLen) :
    ∃ D0 : DataW Unit, w.ownsMap P K RNil m l.length D0 ∧ (keysL l).Perm (strKeys D0) ∧ Maps.size D0 = l.length := by
  obtain ⟨es, clock, hb, he, h2, h3, h4⟩ := h
  have hlen := entL_len he
  simp only [Array.length_toList] at hlen
  have hkeys : es.toList.map (·.key) = (keysL l).map (fun k => Value.string ⟨k.toArray⟩) := by
    have := congrArg (List.map Prod.fst) he
    simpa [entL, strL, keysL, Function.comp_def] using this
  have hrd : ∀ x ∈ es.toList, ∃ k, k ∈ keysL l ∧ x.key = .string ⟨k.toArray⟩ ∧ rd P K RNil x = some (.string k, .nil) := by
    intro x hx
    have : x.key ∈ (keysL l).map (fun k => Value.string ⟨k.toArray⟩) := hkeys ▸ List.mem_map_of_mem hx
    obtain ⟨k, hkm, hke⟩ := List.mem_map.1 this
    refine ⟨k, hkm, hke.symm, ?_⟩
    unfold Go.WideElems.rd
    rw [← hke, keyOf_string hK k (hk k hkm)]
    rfl
  have hnd : (es.toList.map (·.key)).Nodup := by
    rw [hkeys]
    refine List.Pairwise.map _ (fun a b hab e => hab ?_) h4
    injection e with e
    exact bytes_inj e
  refine ⟨_, ⟨es, clock, hb, ⟨by omega, ⟨fun x hx => h3 _ (List.mem_map_of_mem hx), h2.imp (fun hh => Nat.ne_of_lt hh), hnd⟩, fun x hx => ?_⟩, by omega, rfl⟩, ?_, ?_⟩
  · obtain ⟨k, _, _, h⟩ := hrd x hx
    exact ⟨_, h⟩
  · have hp : (es.toList.map (rg P K RNil)).Perm ((es.toList.map (rg P K RNil)).foldr DataW.insert []) := (Go.WideShapes.sorted_perm _).symm
    have h5 := hp.map (fun p : Lit × DataW Unit => strOf p.1)
    have e1 : (es.toList.map (rg P K RNil)).map (fun p : Lit × DataW Unit => strOf p.1) = keysL l := by
      rw [List.map_map]
      have e2 : es.toList.map ((fun p : Lit × DataW Unit => strOf p.1) ∘ rg P K RNil) = es.toList.map (strOfV ∘ fun x => x.key) := by
        apply List.map_congr_left
        intro x hx
        obtain ⟨k, _, hxk, hr⟩ := hrd x hx
        simp only [Function.comp_apply, rg, hr, Option.getD_some, hxk, strOf, strOfV]
      rw [e2, ← List.map_map, hkeys, List.map_map]
      exact List.map_id _
    rw [e1] at h5
    exact h5
  · show ((es.toList.map (rg P K RNil)).foldr DataW.insert []).length = l.length
    rw [length_sorted, List.length_map, Array.length_toList, hlen]

theorem names_nil (w : World) : Calls Try.prog 11 #[.pointer none] w fun e w' => e = .returned (.slice none 0 0) ∧ w = w' := by
  go_enter Try.func11, Try.ntmps11
  go_wp2
  go_ret
  exact ⟨rfl, rfl⟩
set_option maxRecDepth 20000 in
set_option maxHeartbeats 1600000 in
theorem names_any (O : Nat → Prop) (p m : Nat) (t : Tp) (w : World) (h : TapeW w O p m t) (hok : TapeOk t) :
    Calls Try.prog 11 #[.pointer (some ⟨p, 0, none⟩)] w (NamesPost t w) := by
  have H := Lib.hid h
  obtain ⟨c0, c1, c2, c3, c4, c5⟩ := tape_cells h
  have hlm : (fmap t.files).length ≤ maxLen := by
    have := hok.cnt
    have : (fmap t.files).length = t.files.length := by simp [fmap]
    unfold maxLen; omega
  have hcnt := hok.cnt
  obtain ⟨D0, hown, hperm, hsize⟩ := h.M.own (P := Try.prog) (K := 9) Try.underlying9 (fun k hk => by
    rw [keys_fmap] at hk
    obtain ⟨f, hf, rfl⟩ := List.mem_map.1 hk
    have := hok.nm f hf
    unfold maxLen; omega) hlm
  rw [keys_fmap] at hperm
  have hfl : (fmap t.files).length = t.files.length := by simp [fmap]
  have hbl := hown.lt
  have hmax : Maps.size D0 ≤ maxLen := by rw [hsize]; exact hlm
  have hbytes : Maps.size D0 * 16 ≤ 140737488355328 := by rw [hsize]; omega
  have hseq : SeqGives Fence.wide 2 Try.prog 31 #[.pointer (some ⟨w.heap.size, 0, none⟩)] encStr (fun ss => ss.Perm (strKeys D0)) (Maps.size D0) (w.alloc (.cells #[.map (some m)] 48)) :=
    AnyZ.keys_gives (ρ := Try.keysA_ren) { Try.keysA with } Fence.wide _ trivial rfl (by omega) w.heap.size m (fmap t.files).length D0 _ (by simp) (by simp) (by
      obtain ⟨es, clock, hb, Ft, hs, hD⟩ := hown
      exact ⟨es, clock, (Below.heap_alloc _ _ m hbl).trans hb, Ft, hs, hD⟩)
  have cK : ∀ mb W, Calls Try.prog 24 #[.map mb] W fun e w' => e = .returned (.func (.func 31) #[] #[.pointer (some ⟨W.heap.size, 0, none⟩)]) ∧ w' = W.alloc (.cells #[.map mb] 48) := fun mb W => (callsIn_wide (n := 5)).1 (AnyZ.keys_in Try.keysA Fence.wide 5 trivial rfl mb W)
  have cS := (callsIn_wide (n := 5)).1 (AnyZ.sorted_in Try.sortedA Fence.wide 5 trivial trivial trivial trivial rfl (by omega) (Try.sortsA _) (enters_of Try.func30 (by kernel_rfl) rfl) 31 #[.pointer (some ⟨w.heap.size, 0, none⟩)] trivial (enters_of Try.func31 (by kernel_rfl) rfl) _ _ hmax hbytes _ hseq)
  change Calls Try.prog 23 _ _ _ at cS
  have CK := Lib.hid cK
  have CS := Lib.hid cS
  have HPM := Lib.hid hperm
  clear h hok hseq cK cS hperm hown
  go_enter Try.func11, Try.ntmps11
  go_wp2_with fail
  refine (CK.out _ _).mono ?_
  rintro e w1 ⟨rfl, rfl⟩
  go_wp2_with fail
  refine CS.out.mono ?_
  rintro e w2 ⟨v, ss, rfl, hS, hrow, hnil, hb⟩
  have HR := Lib.hid hrow
  have HB := Lib.hid hb
  clear hrow hb hnil
  go_wp2
  go_ret
  refine ⟨v, ss.mergeSort (fun x y => decide (x ≤ y)), rfl, ((List.mergeSort_perm _ _).trans hS).trans HPM.out.symm, ?_, ((Below.refl _ w).alloc (Nat.le_refl _) _).trans (HB.out.mono (by simp))⟩
  rw [List.length_mergeSort]
  exact ownsRow_base_a HR.out (by simp)

end Go.Proofs.Ytohimlahncbpjaa
