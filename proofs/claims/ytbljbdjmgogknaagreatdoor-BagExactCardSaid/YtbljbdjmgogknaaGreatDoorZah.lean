/-
  Cwe / Crc / Num / Walka / Frm / Walkb / Wf3 / Ast / Frma: texts of one proof, one behind the other.
  Conditions: none of its own.
-/
import Derived.Test.YtbljbdjmgogknaaGreatDoorZag
import Derived.OwnWalk
import Derived.Maps.AppendAt
import Derived.Deep.RegionHeld3
import Derived.Deep.AppendLies
import Derived.Deep.QuietTactic
import Derived.Deep.RegionWith
set_option linter.unusedVariables false
set_option linter.unusedSimpArgs false
set_option maxHeartbeats 6400000
set_option maxRecDepth 20000
namespace Go.Proofs.YtbljbdjmgogknaaGreatDoor
open Go.RowKit
theorem cinfoStr : (Tryz.prog.info? 9).map (fun i => (i.zero,i.size,i.bytes)) = some (some (.string ⟨#[]⟩),1,16) := by kernel_rfl
def sv (ls : List (List UInt8)) : List Value := ls.map fun l => .string ⟨l.toArray⟩
theorem strs_own {w : World} {base : Nat} {v : Value} {n : Nat} {ls : List (List UInt8)} (h : w.ownsRow base 9 1 v n (sv ls)) : Strs w v ls := by
 have hn : ls.length = n := by simpa [sv] using h.1
 subst hn
 have hh := h
 rcases h.2 with ⟨rfl,hn⟩ | ⟨g,cap,cur,rfl,hB,hg,hn,hm,hs,ht⟩
 ·exact .inl ⟨rfl,List.eq_nil_of_length_eq_zero (by simpa using hn)⟩
 ·refine .inr ⟨g,0,cap,rfl,(Array.getElem?_eq_some_iff.1 hg).1,hn,fun j x hx => ?_⟩
  have := hh.cells (g := g) rfl j (.string ⟨x.toArray⟩) (by simp [sv,hx])
  rwa [Addr.add_mid] at this
theorem row_cells (w : World) (xs : List Value) (t : TypeId) (W : World) (hb : Below (w.alloc (.cells xs.toArray t)).heap.size (w.alloc (.cells xs.toArray t)) W) (k : Nat) : W.cell? ⟨w.heap.size,k,none⟩ = xs[k]? := by
 have e1 := (hb.block w.heap.size (by simp)).trans (heap_alloc_new w _)
 simp [World.cell?,e1]
theorem strs_row (w : World) (ls : List (List UInt8)) (W : World) (hb : Below (w.alloc (.cells (sv ls).toArray 9)).heap.size (w.alloc (.cells (sv ls).toArray 9)) W) : Strs W (.slice (some ⟨w.heap.size,0,none⟩) ls.length ls.length) ls :=
 .inr ⟨w.heap.size,0,ls.length,rfl,Nat.lt_of_lt_of_le (by rw [World.size_alloc]; omega) hb.size,Nat.le_refl _,fun j x hx => by
  rw [Nat.zero_add,row_cells w (sv ls) 9 W hb j]
  simp [sv,hx]⟩
def encR (b : Cr.Batch) : Value := if Cr.good b then .tuple #[.string ⟨(Cr.enc b).toArray⟩,.int .i64 0] else .tuple #[.string ⟨#[]⟩,.int .i64 1]
def five (b : Cr.Batch) : List Int := [b.base,b.count,b.prod,b.seq,b.time]
def parts (b : Cr.Batch) (k : Nat) : List (List UInt8) := (five b).map Bd.bInt ++ (b.recs.take k).map Cr.encRec
theorem flat5 (a b c d e : List UInt8) (l : List (List UInt8)) : ([a,b,c,d,e] ++ l).flatten = (a ++ (b ++ (c ++ (d ++ e)))) ++ l.flatten := by simp
theorem parts_flat (b : Cr.Batch) : (parts b b.recs.length).flatten = Cr.nums b ++ Cr.encRecs b.recs := by
 rw [parts,List.take_length]
 exact flat5 _ _ _ _ _ _
theorem parts_succ (b : Cr.Batch) (k : Nat) (x : Cr.Rec) (h : b.recs[k]? = some x) : parts b (k + 1) = parts b k ++ [Cr.encRec x] := by
 obtain ⟨hk,rfl⟩ := List.getElem?_eq_some_iff.1 h
 rw [parts,parts,List.take_succ_eq_append_getElem hk,List.map_append,List.append_assoc]
 rfl
theorem five_succ (b : Cr.Batch) (k : Nat) (n : Int) (h : (five b)[k]? = some n) : ((five b).take (k + 1)).map Bd.bInt = ((five b).take k).map Bd.bInt ++ [Bd.bInt n] := by
 obtain ⟨hk,rfl⟩ := List.getElem?_eq_some_iff.1 h
 rw [List.take_succ_eq_append_getElem hk,List.map_append]
 rfl
theorem encode_any (b : Cr.Batch) (hok : BatOk b) (rv : Value) (w : World) (h : Recs w rv b.recs) (hw : Lw w) :
  Calls Tryz.prog 84 #[batV b rv] w fun e w' => e = .returned (encR b) ∧ Below w.heap.size w w' := by
 have HL := hq' hw
 have HZ := hq' h
 have HR := hq' hok.2.2.2.2.2.2
 have HQ := hq' hok
 have HI := hq' (show ∀ n ∈ five b,Bd.inR n from by
  obtain ⟨h1,h2,h3,h4,h5,_⟩ := hok
  intro n hn
  simp only [five,List.mem_cons,List.not_mem_nil,or_false] at hn
  rcases hn with rfl | rfl | rfl | rfl | rfl <;> assumption)
 obtain ⟨a,cap,rfl⟩ := h.form
 obtain ⟨o1,o2,o3,o4,o5,o11,-⟩ := hok
 have HE : Hid (encR b = if Cr.good b then .tuple #[.string ⟨(Cr.enc b).toArray⟩,.int .i64 0] else .tuple #[.string ⟨#[]⟩,.int .i64 1]) := rfl
 have C0 := bat_cells w b (.slice a b.recs.length cap)
 have HB0 : Hid (Below w.heap.size w (w.alloc (.cells (batCells b (.slice a b.recs.length cap)) 36))) := (Below.refl _ _).alloc (Nat.le_refl _) _
 have HG0 := hq' (fun W (hW : Below w.heap.size w W) => good_any b HQ.out (.slice a b.recs.length cap) W (HZ.out.kept hW))
 unfold maxLen at o11
 unfold batV batCells at *
 obtain ⟨c0,c1,c2,c3,c4,c5⟩ := C0 _ (Below.refl _ _)
 clear h hw
 cases hg : Cr.good b with
 | false =>
  rw [hg] at HE HG0
  go_enter Tryz.func84,Tryz.ntmps84
  go_wp2_with fail
  refine (HG0.out _ HB0.out).mono ?_
  rintro e w3 ⟨rfl,hb3⟩
  have B3 := hq' (bt HB0.out hb3)
  clear hb3
  go_wp2
  go_ret2
  exact ⟨by rw [HE.out]; rfl,B3.out⟩
 | true =>
  rw [hg] at HE HG0
  have HRG := hq' (Cr.good_recs hg)
  have HLN := hq' (Cr.enc_len hg)
  clear hg
  go_enter Tryz.func84,Tryz.ntmps84
  go_wp2_with fail
  refine (HG0.out _ HB0.out).mono ?_
  rintro e w3 ⟨rfl,hb3⟩
  have B3 := hq' (bt HB0.out hb3)
  have C3 := hq' (fun W (hW : Below w3.heap.size w3 W) => C0 W (bt hb3 hW))
  obtain ⟨c0,c1,c2,c3,c4,c5⟩ := C3.out _ (Below.refl _ _)
  clear hb3 C0
  go_wp2_with fail
  have F4 := hq' (row_cells w3 ((five b).map fun n => .int .i64 n) 3)
  have B4 : Hid (Below w3.heap.size w3 (w3.alloc (.cells #[.int .i64 b.base,.int .i64 b.count,.int .i64 b.prod,.int .i64 b.seq,.int .i64 b.time] 3))) := (Below.refl _ _).alloc (Nat.le_refl _) _
  have e4 : w3.alloc (.cells ((five b).map fun n => Value.int .i64 n).toArray 3) = w3.alloc (.cells #[.int .i64 b.base,.int .i64 b.count,.int .i64 b.prod,.int .i64 b.seq,.int .i64 b.time] 3) := rfl
  rw [e4] at F4
  have hB3 := B3.out.size
  clear e4
  generalize w3.alloc (.cells #[.int .i64 b.base,.int .i64 b.count,.int .i64 b.prod,.int .i64 b.seq,.int .i64 b.time] 3) = w4 at *
  obtain ⟨i0,hi,hz0,hz1,hz2⟩ := info_parts cinfoStr
  go_loopw [24,4] (fun i sv' wr => ∃ (k : Nat) (v : Value),i = .int .i64 k ∧ v = sv' ∧ k ≤ 5 ∧ wr.ownsRow w4.heap.size 9 1 v k (sv (((five b).take k).map Bd.bInt)) ∧ Below w4.heap.size w4 wr) (fun i _ _ => 5 - (intOf i).toNat)
  case atStart => exact ⟨0,_,rfl,rfl,by omega,⟨rfl,.inl ⟨rfl,rfl⟩⟩,Below.refl _ _⟩
  case round =>
   obtain ⟨k,v,rfl,rfl,hk,hown,hb⟩ := hrel
   have HO := hq' hown
   have HB := hq' hb
   have hszr := hb.size
   have BW : Hid (Below w.heap.size w wr) := bt B3.out (bt B4.out hb)
   clear hown hb
   by_cases hlt : k < 5
   ·obtain ⟨n,hn⟩ : ∃ n,(five b)[k]? = some n := ⟨(five b)[k]'(by simpa [five] using hlt),by simp⟩
    have hc1 := F4.out _ HB.out k
    rw [List.getElem?_map,hn,Option.map_some] at hc1
    have HS := hq' (five_succ b k n hn)
    have HN := hq' (beadInt_any n (HI.out n (List.mem_of_getElem? hn)) wr (HL.out.below BW.out))
    generalize Bd.bInt n = t at HS HN
    clear hn
    go_wp2_with fail
    refine HN.out.mono ?_
    rintro e w5 ⟨rfl,hb5⟩
    have HO5 := hq' (ownsRow_below HO.out hb5)
    have B5 := hq' (bt HB.out hb5)
    have hsz5 := B5.out.size
    clear hb5 HN HO HB
    go_wp2_with (at_builtin; refine wpList_append_own _ rfl (.tmp 28) (.tmp 31) 93 rfl w4.heap.size 9 i0 (.string ⟨#[]⟩) 1 16 Tryz.underlying93 hi hz0 hz1 hz2 rfl (by decide) _ _ _ rfl (World.ownsRow.alloc HO5.out _) ⟨w5.heap.size,0,none⟩ 1 1 [.string ⟨t.toArray⟩] rfl rfl (cell_one_new _ _ _) ?_ ?_ ?_ ?_ ?_)
    ·simp [Value.oneCell']
    ·unfold maxLen; omega
    ·omega
    ·simp; omega
    intro v' w6 hown6 hg6 _
    have H6 : Hid (w6.ownsRow w4.heap.size 9 1 v' (k + 1) (sv (((five b).take (k + 1)).map Bd.bInt))) := by
     rw [Hid,HS.out]
     simpa [sv] using hown6
    have B6 : Hid (Below w4.heap.size w4 w6) := (B5.out.alloc B5.out.size _).grown hg6 (by simp; omega) (fun kk hkk => (HO5.out.lt kk hkk).1)
    clear hown6 hg6
    go_wp2
    go_roundw
    case rel => exact ⟨k + 1,_,by go_num,rfl,by omega,H6.out,B6.out⟩
    case measure => simp [intOf]; omega
   ·obtain rfl : k = 5 := by omega
    have HP : Hid (wr.ownsRow w4.heap.size 9 1 v (5 + 0) (sv (parts b 0))) := by
     have e : ((five b).take 5).map Bd.bInt = parts b 0 := by simp [parts,five]
     rw [← e]
     exact HO.out
    obtain ⟨c0,c1,c2,c3,c4,c5⟩ := C3.out _ (bt B4.out HB.out)
    have BWL : Hid (Below w4.heap.size w4 wr) := HB.out
    clear HO HB F4 c0 c1 c2 c3 c4 HI
    generalize wr = w7 at *
    rw [show ((5 : Nat) : Int) = 5 from rfl]
    go_wp2_with fail
    go_loopw [37,4] (fun i sv' wr => ∃ (k : Nat) (v : Value),i = .int .i64 k ∧ v = sv' ∧ k ≤ b.recs.length ∧ wr.ownsRow w4.heap.size 9 1 v (5 + k) (sv (parts b k)) ∧ Below w4.heap.size w4 wr) (fun i _ _ => b.recs.length - (intOf i).toNat)
    case atStart => exact ⟨0,_,rfl,rfl,by omega,HP.out,BWL.out⟩
    case round =>
     obtain ⟨k,v,rfl,rfl,hk,hown,hb⟩ := hrel
     have HO := hq' hown
     have HB := hq' hb
     have hszr := hb.size
     have BW : Hid (Below w.heap.size w wr) := bt B3.out (bt B4.out hb)
     clear hown hb
     by_cases hlt : k < b.recs.length
     ·obtain ⟨x,hx⟩ : ∃ x,b.recs[k]? = some x := ⟨b.recs[k],by simp [hlt]⟩
      have HS := hq' (parts_succ b k x hx)
      have hxm := List.mem_of_getElem? hx
      have hxg := HRG.out x hxm
      have hxr := hxg.1
      simp only [Cr.isRec,Bool.and_eq_true,decide_eq_true_eq] at hxr
      have HXL := hq' (Cr.encRec_len hxg.1 hxg.2.1 hxg.2.2)
      obtain ⟨g,off,cap',he,hg,p0,p1,p2,p3⟩ := HZ.out.get BW.out hx
      injection he with he1 he2 he3
      subst he1 he3
      have HCX := hq' (rec_cells wr x)
      have HEX : Hid (Cr.encRec x = 108::([Bd.bInt x.off,Bd.bText x.key,Bd.bText x.val,Bd.bInt (Cr.flag x.gone)].flatten ++ [101])) := by simp [Hid,Cr.encRec]
      obtain ⟨x0,xk,xv,xg⟩ := x
      have hxo := HR.out _ hxm
      obtain ⟨xo,xkl,xvl⟩ := hxo
      dsimp only at *
      obtain ⟨hk16,hv64,-⟩ := hxr
      have BA : Hid (Below wr.heap.size wr (wr.alloc (.cells #[.int .i64 x0,.string ⟨xk.toArray⟩,.string ⟨xv.toArray⟩,.bool xg] 67))) := (Below.refl _ _).alloc (Nat.le_refl _) _
      clear he2 hxm hxg
      go_wp2
      generalize hw8 : wr.alloc (.cells #[.int .i64 x0,.string ⟨xk.toArray⟩,.string ⟨xv.toArray⟩,.bool xg] 67) = w8 at *
      clear hw8
      have HLW : Hid (∀ W,Below w8.heap.size w8 W → Lw W) := fun W hW => HL.out.below (bt BW.out (bt BA.out hW))
      have hm0 := hq' (fun W (hW : Below w8.heap.size w8 W) => HCX.out W hW)
      have J1 := hq' (fun W (hW : Below w8.heap.size w8 W) => beadInt_any x0 xo W (HLW.out W hW))
      have J2 := hq' (fun W (hW : Below w8.heap.size w8 W) => beadText_any xk (by omega) W (HLW.out W hW))
      have J3 := hq' (fun W (hW : Below w8.heap.size w8 W) => beadText_any xv (by omega) W (HLW.out W hW))
      have J5 := hq' (fun W (hW : Below w8.heap.size w8 W) => beadInt_any (Cr.flag xg) (Cr.inR_flag xg) W (HLW.out W hW))
      have hlen4 : [Bd.bInt x0,Bd.bText xk,Bd.bText xv,Bd.bInt (Cr.flag xg)].flatten.length ≤ 130 := by
       have := HXL.out
       rw [HEX.out] at this
       simp only [List.length_cons,List.length_append] at this
       omega
      generalize Bd.bInt x0 = t1 at *
      generalize Bd.bText xk = t2 at *
      generalize Bd.bText xv = t3 at *
      generalize Bd.bInt (Cr.flag xg) = t4 at *
      have J6 := hq' (fun (W : World) => beadList_any _ _ _ (strs_row W [t1,t2,t3,t4] _ (Below.refl _ _)) (by simp) (by omega))
      rw [← HEX.out] at J6
      have T0 : Hid (Below w8.heap.size w8 w8.drew) := (Below.refl _ _).drew
      obtain ⟨q0,q1,q2,q3⟩ := HCX.out _ (Below.refl _ _)
      have HO8 : Hid (w8.ownsRow w4.heap.size 9 1 v (5 + k) (sv (parts b k))) := ownsRow_below HO.out BA.out
      have hs8 := (bt HB.out BA.out).size
      have hne : some wr.heap.size ≠ v.ownBlock := fun h => by have := (HO.out.lt _ h.symm).2; omega
      have hone : ∀ u ∈ [Value.string ⟨(Cr.encRec ⟨x0,xk,xv,xg⟩).toArray⟩],u.oneCell' = true := by simp [Value.oneCell']
      have hk8 : k < 8 := by have := HLN.out.2.2; omega
      have h63 : 5 + k + 1 ≤ maxLen := by unfold maxLen; omega
      have hby : (5 + k + 1) * 16 ≤ 140737488355328 := by omega
      clear p0 p1 p2 p3
      go_region_held3 (fun W => W.cell? ⟨wr.heap.size,0,none⟩ = some (.int .i64 x0) ∧ W.cell? ⟨wr.heap.size,1,none⟩ = some (.string ⟨xk.toArray⟩) ∧ W.cell? ⟨wr.heap.size,2,none⟩ = some (.string ⟨xv.toArray⟩) ∧ W.cell? ⟨wr.heap.size,3,none⟩ = some (.bool xg)) (first | assumption | exact ⟨q0,q1,q2,q3⟩ | exact S1.out | exact S2.out | exact S3.out | exact S5.out | exact hm0.out _ U5.out | exact S6.out | exact hm0.out _ U6.out | exact S7.out) (first
       | (go_at_call 83; refine (J1.out _ T0.out).mono ?_; rintro e w91 ⟨rfl,hb91⟩; have T1 := hq' (bt T0.out hb91); have S1 := hq' (hm0.out _ T1.out); clear hb91)
       | (go_at_call 81; refine (J2.out _ T1.out).mono ?_; rintro e w92 ⟨rfl,hb92⟩; have T2 := hq' (bt T1.out hb92); have S2 := hq' (hm0.out _ T2.out); clear hb92)
       | (go_at_call 81; refine (J3.out _ T2.out).mono ?_; rintro e w93 ⟨rfl,hb93⟩; have T3 := hq' (bt T2.out hb93); have S3 := hq' (hm0.out _ T3.out); clear hb93)
       | (go_at_call 114; refine (flag_any _ _).mono ?_; rintro e w94 ⟨rfl,rfl⟩)
       | (go_at_call 83; refine (J5.out _ T3.out).mono ?_; rintro e w95 ⟨rfl,hb95⟩; have T5 := hq' (bt T3.out hb95); have S5 := hq' (hm0.out _ T5.out); clear hb95; have U5 := hq' (T5.out.alloc T5.out.size (.cells #[.string ⟨t1.toArray⟩,.string ⟨t2.toArray⟩,.string ⟨t3.toArray⟩,.string ⟨t4.toArray⟩] 9)))
       | (go_at_call 46; refine (J6.out _).mono ?_; rintro e w96 ⟨rfl,hb96⟩; have T6 := hq' (bt U5.out hb96); have S6 := hq' (hm0.out _ T6.out); clear hb96; have U6 := hq' (T6.out.alloc T6.out.size (.cells #[.string ⟨(Cr.encRec ⟨x0,xk,xv,xg⟩).toArray⟩] 9)); have HO6 := hq' (ownsRow_below HO8.out T6.out))
       | (refine step_append_lies _ (by rfl) _ _ _ (by rfl) w4.heap.size 9 i0 _ 1 16 Tryz.underlying93 hi hz0 hz1 hz2 rfl Nat.one_pos v (5 + k) (sv (parts b k)) (by rfl) (World.ownsRow.alloc HO6.out _) ⟨w96.heap.size,0,none⟩ 1 1 [.string ⟨(Cr.encRec ⟨x0,xk,xv,xg⟩).toArray⟩] (by rfl) (by rfl) (cell_one_new _ _ _) hone Nat.one_pos h63 hby (Nat.le_trans hs8 U6.out.size) (w96.heap.size + 1) (World.size_alloc _ _) ?_; intro g11 cap11 w11 hown11 hg11 hat11 hlt11; have S7 := hq' (And.intro (hg11.cell (hm0.out _ U6.out).1 hne) (And.intro (hg11.cell (hm0.out _ U6.out).2.1 hne) (And.intro (hg11.cell (hm0.out _ U6.out).2.2.1 hne) (hg11.cell (hm0.out _ U6.out).2.2.2 hne))))))
      have H11 : Hid (w11.ownsRow w4.heap.size 9 1 (.slice (some ⟨g11,0,none⟩) (5 + k + 1) cap11) (5 + (k + 1)) (sv (parts b (k + 1)))) := by
       rw [Hid,HS.out]
       simpa [sv,Nat.add_assoc] using hown11
      have BC : Hid (Below w4.heap.size w4 (w96.alloc (.cells #[.string ⟨(Cr.encRec ⟨x0,xk,xv,xg⟩).toArray⟩] 9))) := bt HB.out (bt BA.out U6.out)
      have B11 : Hid (Below w4.heap.size w4 w11) := BC.out.grown hg11 BC.out.size (fun kk hkk => (HO6.out.lt kk hkk).1)
      clear hown11 hg11
      go_wp2
      go_roundw
      case rel => exact ⟨k + 1,_,by go_num,rfl,by omega,H11.out,B11.out⟩
      case measure => simp [intOf]; omega
     ·obtain rfl : k = b.recs.length := by omega
      have HSO := hq' (strs_own HO.out)
      have HLN2 := HLN.out
      have HFL : Hid (108::((parts b b.recs.length).flatten ++ [101]) = Cr.enc b) := by
       rw [Hid,parts_flat,Cr.enc]
       simp
      have hfl : (parts b b.recs.length).flatten.length ≤ 2000 := by
       have := congrArg List.length HFL.out
       simp only [List.length_cons,List.length_append,List.length_nil] at this
       omega
      have HLI := hq' (beadList_any _ _ _ HSO.out (by simp [parts,five]; omega) (by omega))
      rw [HFL.out] at HLI
      clear HFL hfl HSO HLN2
      go_wp2_with fail
      refine HLI.out.mono ?_
      rintro e w10 ⟨rfl,hb10⟩
      have B10 := hq' (bt BW.out hb10)
      clear hb10
      go_wp2
      go_ret2
      exact ⟨by rw [HE.out]; rfl,B10.out⟩
end Go.Proofs.YtbljbdjmgogknaaGreatDoor
/-
 The check of a text (CRC-32, bit by bit), in plain Lean: no program in sight.
 Conditions: none. What is used above: linearity, injectivity, four bytes at once.
-/
namespace Go.Proofs.YtbljbdjmgogknaaGreatDoor.Crc
def poly : BitVec 32 := 0xedb88320#32
def stp (r : BitVec 32) : BitVec 32 := (r >>> 1) ^^^ (if r.getLsbD 0 then poly else 0#32)
def stps : Nat → BitVec 32 → BitVec 32
 | 0,r => r
 | k + 1,r => stp (stps k r)
def z (b : UInt8) : BitVec 32 := b.toBitVec.setWidth 32
def upd (r : BitVec 32) (b : UInt8) : BitVec 32 := stps 8 (r ^^^ z b)
def fold (r : BitVec 32) (l : List UInt8) : BitVec 32 := l.foldl upd r
def ones : BitVec 32 := 0xffffffff#32
def sum (l : List UInt8) : BitVec 32 := fold ones l ^^^ ones
def four (n : BitVec 32) : List UInt8 := [⟨n.setWidth 8⟩,⟨(n >>> 8).setWidth 8⟩,⟨(n >>> 16).setWidth 8⟩,⟨(n >>> 24).setWidth 8⟩]
def num (l : List UInt8) : BitVec 32 := z (l.getD 0 0) ^^^ z (l.getD 1 0) <<< 8 ^^^ z (l.getD 2 0) <<< 16 ^^^ z (l.getD 3 0) <<< 24
theorem z_high (b : UInt8) (i : Nat) (h : 8 ≤ i) : (z b).getLsbD i = false := by
 unfold z
 rw [BitVec.getLsbD_setWidth]
 simp
 intro _
 exact BitVec.getLsbD_of_ge _ _ h
theorem fold_append (r : BitVec 32) (a b : List UInt8) : fold r (a ++ b) = fold (fold r a) b := List.foldl_append ..
theorem num_getLsbD (a b c d : UInt8) (i : Nat) : (num [a,b,c,d]).getLsbD i =
  (if i < 8 then a.toBitVec.getLsbD i else if i < 16 then b.toBitVec.getLsbD (i - 8) else if i < 24 then c.toBitVec.getLsbD (i - 16) else if i < 32 then d.toBitVec.getLsbD (i - 24) else false) := by
 have hz : ∀ (x : UInt8) (j : Nat),(z x).getLsbD j = (decide (j < 8) && x.toBitVec.getLsbD j) := by
  intro x j
  by_cases h : j < 8
  ·unfold z; rw [BitVec.getLsbD_setWidth]; simp [h]; omega
  ·simp [h,z_high x j (by omega)]
 simp only [num,List.getD_cons_zero,List.getD_cons_succ,BitVec.getLsbD_xor,BitVec.getLsbD_shiftLeft,hz]
 by_cases h1 : i < 8
 ·simp [h1,show i < 16 by omega,show i < 24 by omega]
 ·by_cases h2 : i < 16
  ·simp [h1,h2,show i < 24 by omega,show i < 32 by omega,show i - 8 < 8 by omega]
  ·by_cases h3 : i < 24
   ·simp [h1,h2,h3,show i < 32 by omega,show i - 16 < 8 by omega,show ¬ i - 8 < 8 by omega]
   ·by_cases h4 : i < 32
    ·simp [h1,h2,h3,h4,show i - 24 < 8 by omega,show ¬ i - 8 < 8 by omega,show ¬ i - 16 < 8 by omega]
    ·simp [h1,h2,h3,h4]
theorem num_four (n : BitVec 32) : num (four n) = n := by
 apply BitVec.eq_of_getLsbD_eq
 intro i hi
 unfold four
 rw [num_getLsbD]
 simp only [BitVec.getLsbD_setWidth,BitVec.getLsbD_ushiftRight]
 by_cases h1 : i < 8
 ·simp [h1]
 ·by_cases h2 : i < 16
  ·simp [h1,h2,show 8 + (i - 8) = i by omega]; omega
  ·by_cases h3 : i < 24
   ·simp [h1,h2,h3,show 16 + (i - 16) = i by omega]; omega
   ·simp [h1,h2,h3,hi,show 24 + (i - 24) = i by omega]; omega
theorem four_length (n : BitVec 32) : (four n).length = 4 := rfl
end Go.Proofs.YtbljbdjmgogknaaGreatDoor.Crc
namespace Go.Proofs.YtbljbdjmgogknaaGreatDoor
open Go.RowKit Crc
theorem bits_xor_bv (a b : BitVec 32) : bits .xor .u32 (a.toNat : Int) (b.toNat : Int) = ((a ^^^ b).toNat : Int) := by
 rw [u32_xor_nat _ _ a.isLt b.isLt,BitVec.toNat_xor]
theorem z_toNat (b : UInt8) : (z b).toNat = b.toNat := by
 unfold z
 rw [BitVec.toNat_setWidth]
 have := b.toNat_lt
 show b.toNat % 2 ^ 32 = b.toNat
 omega
theorem half_bv (r : BitVec 32) : ((r.toNat : Int) / (2 : Int)) = ((r >>> 1).toNat : Int) := by
 rw [BitVec.toNat_ushiftRight,Nat.shiftRight_eq_div_pow]; omega
theorem low_bv (r : BitVec 32) : r.getLsbD 0 = decide (r.toNat % 2 = 1) := by
 simp [BitVec.getLsbD,Nat.testBit_zero]
theorem step_num (r : BitVec 32) :
  bits .xor .u32 ((r.toNat : Int) / 2) (bits .and .u32 3988292384 (-bits .and .u32 (r.toNat : Int) 1 % 4294967296)) = ((stp r).toNat : Int) := by
 have h1 : bits .and .u32 (r.toNat : Int) 1 = ((r.toNat % 2 : Nat) : Int) := by
  have := u32_and_nat r.toNat 1 r.isLt (by omega)
  rw [nat_mask1] at this
  exact this
 have hx := low_bv r
 rw [h1,half_bv]
 unfold stp
 rw [hx]
 by_cases h : r.toNat % 2 = 1
 ·have e1 : (-((r.toNat % 2 : Nat) : Int)) % 4294967296 = 4294967295 := by rw [h]; rfl
  have e2 : bits .and .u32 3988292384 4294967295 = ((poly).toNat : Int) := by decide +kernel
  rw [e1,e2,bits_xor_bv]
  simp [h]
 ·have h0 : r.toNat % 2 = 0 := by omega
  have e1 : (-((r.toNat % 2 : Nat) : Int)) % 4294967296 = 0 := by rw [h0]; rfl
  have e2 : bits .and .u32 3988292384 0 = ((0#32).toNat : Int) := by decide +kernel
  rw [e1,e2,bits_xor_bv]
  simp [h]
theorem enter_num (r : BitVec 32) (b : UInt8) : bits .xor .u32 (r.toNat : Int) ((b.toNat : Int) % 4294967296) = ((r ^^^ z b).toNat : Int) := by
 have e : ((b.toNat : Int) % 4294967296) = ((z b).toNat : Int) := by rw [z_toNat]; have := b.toNat_lt; omega
 rw [e,bits_xor_bv]
theorem not_num (r : BitVec 32) : bits .xor .u32 IntKind.u32.max (r.toNat : Int) = ((r ^^^ ones).toNat : Int) := by
 have e : IntKind.u32.max = ((ones).toNat : Int) := by decide +kernel
 rw [e,bits_xor_bv,BitVec.xor_comm]
theorem num_toNat (a b c d : UInt8) : (num [a,b,c,d]).toNat = a.toNat + b.toNat * 256 + c.toNat * 65536 + d.toNat * 16777216 := by
 have ha := a.toNat_lt; have hb := b.toNat_lt; have hc := c.toNat_lt; have hd := d.toNat_lt
 have e : a.toNat + b.toNat * 256 + c.toNat * 65536 + d.toNat * 16777216 = 2 ^ 8 * (2 ^ 8 * (2 ^ 8 * d.toNat + c.toNat) + b.toNat) + a.toNat := by omega
 rw [e]
 apply Nat.eq_of_testBit_eq
 intro i
 have h := num_getLsbD a b c d i
 rw [BitVec.getLsbD] at h
 rw [h,Nat.testBit_two_pow_mul_add _ ha,Nat.testBit_two_pow_mul_add _ hb,Nat.testBit_two_pow_mul_add _ hc]
 have g : ∀ (x : UInt8) (j : Nat),x.toBitVec.getLsbD j = x.toNat.testBit j := fun _ _ => rfl
 simp only [g]
 by_cases h1 : i < 8
 ·simp [h1]
 ·by_cases h2 : i < 16
  ·simp [h1,h2,show i - 8 < 8 by omega]
  ·by_cases h3 : i < 24
   ·have e3 : i - 8 - 8 = i - 16 := by omega
    have e4 : ¬ 8 ≤ i - 16 := by omega
    simp [h1,h2,h3,show ¬ i - 8 < 8 by omega,e3,e4]
   ·have e3 : i - 8 - 8 - 8 = i - 24 := by omega
    by_cases h4 : i < 32
    ·simp [h1,h2,h3,h4,show ¬ i - 8 < 8 by omega,show ¬ i - 8 - 8 < 8 by omega,e3]
    ·have : d.toNat.testBit (i - 24) = false := Nat.testBit_lt_two_pow (Nat.lt_of_lt_of_le hd (Nat.pow_le_pow_right (by omega) (show 8 ≤ i - 24 by omega)))
     simp [h1,h2,h3,h4,show ¬ i - 8 < 8 by omega,show ¬ i - 8 - 8 < 8 by omega,e3,this]
theorem or_num (a b c d : UInt8) :
  bits .or .u32 (bits .or .u32 (bits .or .u32 (bits .or .u32 0 ((a.toNat : Int) % 4294967296)) ((b.toNat : Int) % 4294967296 * 256 % 4294967296)) ((c.toNat : Int) % 4294967296 * 65536 % 4294967296)) ((d.toNat : Int) % 4294967296 * 16777216 % 4294967296) = ((num [a,b,c,d]).toNat : Int) := by
 have ha := a.toNat_lt; have hb := b.toNat_lt; have hc := c.toNat_lt; have hd := d.toNat_lt
 have e1 : ((a.toNat : Int) % 4294967296) = ((a.toNat : Nat) : Int) := by omega
 have e2 : ((b.toNat : Int) % 4294967296 * 256 % 4294967296) = ((b.toNat * 256 : Nat) : Int) := by omega
 have e3 : ((c.toNat : Int) % 4294967296 * 65536 % 4294967296) = ((c.toNat * 65536 : Nat) : Int) := by omega
 have e4 : ((d.toNat : Int) % 4294967296 * 16777216 % 4294967296) = ((d.toNat * 16777216 : Nat) : Int) := by omega
 have e0 : (0 : Int) = ((0 : Nat) : Int) := rfl
 rw [e1,e2,e3,e4,e0,u32_or_nat 0 _ (by omega) (by omega),Nat.zero_or,u32_or_nat _ _ (by omega) (by omega),Nat.or_comm a.toNat,
  nat_join 8 _ _ (by omega) (by omega),u32_or_nat _ _ (by omega) (by omega),Nat.or_comm _ (c.toNat * 65536),nat_join 16 _ _ (by omega) (by omega),
  u32_or_nat _ _ (by omega) (by omega),Nat.or_comm _ (d.toNat * 16777216),nat_join 24 _ _ (by omega) (by omega),num_toNat]
 omega
theorem byte_num (n : BitVec 32) (k : Nat) : UInt8.ofNat (((n.toNat : Int) / ((2 ^ k : Nat) : Int) % 256).toNat) = (⟨(n >>> k).setWidth 8⟩ : UInt8) := by
 apply UInt8.eq_of_toBitVec_eq
 apply BitVec.eq_of_toNat_eq
 have e : ((n.toNat : Int) / ((2 ^ k : Nat) : Int) % 256).toNat = n.toNat / 2 ^ k % 256 := by
  rw [← Int.natCast_ediv]; omega
 rw [e]
 simp [BitVec.toNat_setWidth,BitVec.toNat_ushiftRight,Nat.shiftRight_eq_div_pow]
def part (r : BitVec 32) (b : UInt8) (j : Nat) : BitVec 32 := stps j (r ^^^ z b) ^^^ (z b >>> j)
theorem getD_four (l : List UInt8) : num l = num [l.getD 0 0,l.getD 1 0,l.getD 2 0,l.getD 3 0] := rfl
theorem str_four (n : BitVec 32) : strOfNums [(n.toNat : Int) % 256,(n.toNat : Int) / 256 % 256,(n.toNat : Int) / 65536 % 256,(n.toNat : Int) / 16777216] = ⟨(four n).toArray⟩ := by
 have e0 := byte_num n 0
 have e1 := byte_num n 8
 have e2 := byte_num n 16
 have e3 := byte_num n 24
 have h3 : (n.toNat : Int) / 16777216 = (n.toNat : Int) / 16777216 % 256 := by have := n.isLt; omega
 rw [h3]
 unfold strOfNums four
 simp only [List.map_cons,List.map_nil]
 simp at e0
 rw [← e1,← e2,← e3,← e0]
 rfl
open Go.RowKit
theorem fold_take (r : BitVec 32) (l : List UInt8) (k : Nat) (h : k < l.length) : Crc.fold r (l.take (k + 1)) = Crc.upd (Crc.fold r (l.take k)) (l.getD k 0) := by
 rw [List.take_succ_eq_append_getElem h,Crc.fold_append]
 simp [Crc.fold,List.getD,h]
theorem sum_any (l : List UInt8) (w : World) (hs : l.length ≤ maxLen) :
  Calls Tryz.prog 78 #[.string ⟨l.toArray⟩] w fun e w' => e = .returned (.int .u32 (Crc.sum l).toNat) ∧ Below w.heap.size w w' := by
 unfold maxLen at hs
 have hconv := Lib.run_convert_string_bytes (P := Tryz.prog) w 9 146 5 ⟨l.toArray⟩ Tryz.underlying9 Tryz.underlying146 Tryz.underlying5
 have hcell := Lib.bytesWorld_cell w 5 ⟨l.toArray⟩
 have hb := hq' (below_bytesWorld w 5 ⟨l.toArray⟩)
 generalize hW1 : Lib.bytesWorld w 5 ⟨l.toArray⟩ = W1 at hconv hcell hb
 clear hW1
 have HC : ∀ k,k < l.length → W1.cell? ⟨w.heap.size,k,none⟩ = some (.int .u8 (l.getD k 0).toNat) := fun k hk => hcell k hk
 have HD := hq' HC
 clear hcell HC
 go_enter Tryz.func78,Tryz.ntmps78
 go_wp2
 clear hconv
 go_loop [3,9] (fun r i => ∃ k : Nat,k ≤ l.length ∧ i = .int .i64 k ∧ r = .int .u32 (Crc.fold Crc.ones (l.take k)).toNat) (fun _ i => l.length - (intOf i).toNat)
 case atStart => exact ⟨0,by omega,rfl,rfl⟩
 case round =>
  obtain ⟨k,hk,rfl,rfl⟩ := hrel
  by_cases hlt : k < l.length
  ·have hck := HD.out k hlt
   have HF := hq' (fold_take Crc.ones l k hlt)
   generalize l.getD k 0 = b at hck HF
   generalize Crc.fold Crc.ones (l.take k) = r0 at HF
   go_wp2
   go_loop [3,17] (fun r i => ∃ j : Nat,j ≤ 8 ∧ i = .int .i64 j ∧ r = .int .u32 (Crc.stps j (r0 ^^^ Crc.z b)).toNat) (fun _ i => 8 - (intOf i).toNat)
   case atStart => exact ⟨0,by omega,rfl,by rw [enter_num]; rfl⟩
   case round =>
    obtain ⟨j,hj,rfl,rfl⟩ := hrel
    by_cases hj8 : j < 8
    ·go_wp2
     go_round
     case rel => exact ⟨j + 1,by omega,by go_num,by rw [step_num]; rfl⟩
     case measure => simp [intOf]; omega
    ·obtain rfl : j = 8 := by omega
     go_wp2
     go_round
     case rel => exact ⟨k + 1,by omega,by go_num,by rw [HF.out]; rfl⟩
     case measure => simp [intOf]; omega
  ·obtain rfl : k = l.length := by omega
   go_wp2
   go_ret
   exact ⟨ret_int (by rw [not_num]; rfl),hb.out⟩
theorem number_any (l : List UInt8) (w : World) (h4 : 4 ≤ l.length) (hs : l.length ≤ maxLen) :
  Calls Tryz.prog 90 #[.string ⟨l.toArray⟩] w fun e w' => e = .returned (.int .u32 (Crc.num l).toNat) ∧ w = w' := by
 unfold maxLen at hs
 have HG := hq' (or_num (l.getD 0 0) (l.getD 1 0) (l.getD 2 0) (l.getD 3 0))
 go_enter Tryz.func90,Tryz.ntmps90
 go_wp2
 go_rounds 5 <;> go_wp2
 go_ret
 refine ⟨ret_int ?_,rfl⟩
 rw [bs_getD,bs_getD,bs_getD,bs_getD,HG.out,← getD_four]
theorem four_any (n : BitVec 32) (w : World) :
  Calls Tryz.prog 77 #[.int .u32 n.toNat] w fun e w' => e = .returned (.string ⟨(Crc.four n).toArray⟩) ∧ Below w.heap.size w w' := by
 have hconv := fun (a b c d : Int) => run_convert_bytes_arg (P := Tryz.prog) (w.alloc (.cells #[.int .u8 a,.int .u8 b,.int .u8 c,.int .u8 d] 145)) 146 5 Tryz.underlying146 Tryz.underlying5 w.heap.size 0 4 4 [a,b,c,d] rfl
  (fun i hi => by match i,hi with | 0,_ => simp [go_sem] | 1,_ => simp [go_sem] | 2,_ => simp [go_sem] | 3,_ => simp [go_sem]) 9 Tryz.underlying9
 go_enter Tryz.func77,Tryz.ntmps77
 go_wp2
 refine wp_loop_rounds 5 ?_
 rw [rounds_succ]; go_wp2
 rw [rounds_succ]; go_wp2
 rw [rounds_succ]; go_wp2
 rw [rounds_succ]; go_wp2
 rw [rounds_succ]; go_wp2
 go_ret
 exact ⟨ret_str (str_four n),by go_grown⟩
end Go.Proofs.YtbljbdjmgogknaaGreatDoor
namespace Go.Proofs.YtbljbdjmgogknaaGreatDoor.Frm
open Crc
def put (l : List UInt8) : List UInt8 := four (BitVec.ofNat 32 l.length) ++ (four (sum l) ++ l)
def next (l : List UInt8) (k : Int) : List UInt8 × Int × Int :=
 if k < 0 ∨ (l.length : Int) < k then ([],0,1) else
 let r := l.drop k.toNat
 if r.length < 8 then ([],0,5) else
 let n := (num r).toNat
 if 16384 < n then ([],0,4) else
 if r.length - 8 < n then ([],0,5) else
 let b := (r.take (8 + n)).drop 8
 if sum b ≠ num (r.drop 4) then ([],0,6) else (b,k + 8 + n,0)
theorem next_arg {l : List UInt8} {k : Int} (h : k < 0 ∨ (l.length : Int) < k) : next l k = ([],0,1) := by unfold next; rw [if_pos h]
theorem next_short {l : List UInt8} {k : Nat} (h : k ≤ l.length) (h8 : l.length - k < 8) : next l k = ([],0,5) := by
 unfold next
 rw [if_neg (by omega)]
 simp only [Int.toNat_natCast]
 rw [if_pos (by simp; omega)]
theorem next_long {l : List UInt8} {k : Nat} (h : k ≤ l.length) (h8 : 8 ≤ l.length - k) (hn : 16384 < (num (l.drop k)).toNat) : next l k = ([],0,4) := by
 unfold next
 rw [if_neg (by omega)]
 simp only [Int.toNat_natCast]
 rw [if_neg (by simp; omega),if_pos hn]
theorem next_short2 {l : List UInt8} {k : Nat} (h : k ≤ l.length) (h8 : 8 ≤ l.length - k) (hn : (num (l.drop k)).toNat ≤ 16384) (hs : l.length - k - 8 < (num (l.drop k)).toNat) : next l k = ([],0,5) := by
 unfold next
 rw [if_neg (by omega)]
 simp only [Int.toNat_natCast]
 rw [if_neg (by simp; omega),if_neg (by omega),if_pos (by simp; omega)]
theorem next_sum {l : List UInt8} {k : Nat} (h : k ≤ l.length) (h8 : 8 ≤ l.length - k) (hn : (num (l.drop k)).toNat ≤ 16384) (hs : (num (l.drop k)).toNat ≤ l.length - k - 8)
  (hc : sum (((l.drop k).take (8 + (num (l.drop k)).toNat)).drop 8) ≠ num ((l.drop k).drop 4)) : next l k = ([],0,6) := by
 unfold next
 rw [if_neg (by omega)]
 simp only [Int.toNat_natCast]
 rw [if_neg (by simp; omega),if_neg (by omega),if_neg (by simp; omega),if_pos hc]
theorem next_ok {l : List UInt8} {k : Nat} (h : k ≤ l.length) (h8 : 8 ≤ l.length - k) (hn : (num (l.drop k)).toNat ≤ 16384) (hs : (num (l.drop k)).toNat ≤ l.length - k - 8)
  (hc : sum (((l.drop k).take (8 + (num (l.drop k)).toNat)).drop 8) = num ((l.drop k).drop 4)) :
  next l k = (((l.drop k).take (8 + (num (l.drop k)).toNat)).drop 8,(k : Int) + 8 + (num (l.drop k)).toNat,0) := by
 unfold next
 rw [if_neg (by omega)]
 simp only [Int.toNat_natCast]
 rw [if_neg (by simp; omega),if_neg (by omega),if_neg (by simp; omega),if_neg (by simpa using hc)]
theorem next_zero {l : List UInt8} {k : Nat} (h : (next l k).2.2 = 0) :
  k + 8 + (num (l.drop k)).toNat ≤ l.length ∧ (num (l.drop k)).toNat ≤ 16384 ∧ (next l k).1 = ((l.drop k).take (8 + (num (l.drop k)).toNat)).drop 8 ∧
   (next l k).2.1 = (k : Int) + 8 + (num (l.drop k)).toNat ∧ sum (next l k).1 = num ((l.drop k).drop 4) ∧ (next l k).1.length = (num (l.drop k)).toNat := by
 by_cases h0 : (k : Int) < 0 ∨ (l.length : Int) < k
 ·rw [next_arg h0] at h; cases h
 ·have hk : k ≤ l.length := by omega
  by_cases h8 : l.length - k < 8
  ·rw [next_short hk h8] at h; cases h
  ·by_cases h1 : 16384 < (num (l.drop k)).toNat
   ·rw [next_long hk (by omega) h1] at h; cases h
   ·by_cases h2 : l.length - k - 8 < (num (l.drop k)).toNat
    ·rw [next_short2 hk (by omega) (by omega) h2] at h; cases h
    ·by_cases h3 : sum (((l.drop k).take (8 + (num (l.drop k)).toNat)).drop 8) = num ((l.drop k).drop 4)
     ·rw [next_ok hk (by omega) (by omega) (by omega) h3]
      refine ⟨by omega,by omega,rfl,rfl,h3,?_⟩
      simp only [List.length_drop,List.length_take]
      omega
     ·rw [next_sum hk (by omega) (by omega) (by omega) h3] at h; cases h
end Go.Proofs.YtbljbdjmgogknaaGreatDoor.Frm
namespace Go.Proofs.YtbljbdjmgogknaaGreatDoor
open Go.RowKit
attribute [local go_sem] Crc.four_length
theorem ne_no {a b : BitVec 32} (h : a = b) : ((a.toNat : Int) != (b.toNat : Int)) = false := by rw [h]; simp
theorem ne_yes {a b : BitVec 32} (h : a ≠ b) : ((a.toNat : Int) != (b.toNat : Int)) = true := by
 rw [bne_iff_ne]
 intro e
 exact h (BitVec.eq_of_toNat_eq (by omega))
theorem four_int (n : Int) (w : World) (h0 : 0 ≤ n) (h1 : n < 4294967296) :
  Calls Tryz.prog 77 #[.int .u32 n] w fun e w' => e = .returned (.string ⟨(Crc.four (BitVec.ofNat 32 n.toNat)).toArray⟩) ∧ Below w.heap.size w w' := by
 have e : n = ((BitVec.ofNat 32 n.toNat).toNat : Int) := by rw [BitVec.toNat_ofNat]; omega
 have h := four_any (BitVec.ofNat 32 n.toNat) w
 rwa [← e] at h
theorem put_any (l : List UInt8) (w : World) (hs : l.length ≤ 16384) :
  Calls Tryz.prog 45 #[.string ⟨l.toArray⟩] w fun e w' => e = .returned (.tuple #[.string ⟨(Frm.put l).toArray⟩,.int .i64 0]) ∧ Below w.heap.size w w' := by
 go_enter Tryz.func45,Tryz.ntmps45
 go_wp2_with fail
 refine (four_int _ _ (by omega) (by omega)).mono ?_
 rintro e w1 ⟨rfl,hb1⟩
 have HB1 := hq' hb1
 clear hb1
 go_wp2_with fail
 refine (sum_any _ _ (by unfold maxLen; omega)).mono ?_
 rintro e w2 ⟨rfl,hb2⟩
 have HB2 := hq' hb2
 clear hb2
 go_wp2_with fail
 refine (four_any _ _).mono ?_
 rintro e w3 ⟨rfl,hb3⟩
 have HB3 := hq' hb3
 clear hb3
 go_wp2
 go_ret2
 exact ⟨rfl,bt (bt HB1.out HB2.out) HB3.out⟩
theorem next_arg (l : List UInt8) (k : Int) (w : World) (h : k < 0 ∨ (l.length : Int) < k) (hm : l.length ≤ maxLen) :
  Calls Tryz.prog 56 #[.string ⟨l.toArray⟩,.int .i64 k] w fun e w' => e = .returned (.tuple #[.string ⟨#[]⟩,.int .i64 0,.int .i64 1]) ∧ w = w' := by
 unfold maxLen at hm
 by_cases h0 : k < 0
 ·go_enter Tryz.func56,Tryz.ntmps56
  go_wp2
  go_ret3
  exact ⟨rfl,rfl⟩
 ·have h1 : (l.length : Int) < k := by omega
  clear h
  go_enter Tryz.func56,Tryz.ntmps56
  go_wp2
  go_ret3
  exact ⟨rfl,rfl⟩
theorem next_short (l : List UInt8) (k : Nat) (w : World) (h : k ≤ l.length) (h8 : l.length - k < 8) (hm : l.length ≤ maxLen) :
  Calls Tryz.prog 56 #[.string ⟨l.toArray⟩,.int .i64 k] w fun e w' => e = .returned (.tuple #[.string ⟨#[]⟩,.int .i64 0,.int .i64 5]) ∧ w = w' := by
 unfold maxLen at hm
 have hs := str_from (P := Tryz.prog) l k k rfl h 9 .i64 Tryz.underlying9
 have hl : (l.drop k).length < 8 := by simp; omega
 generalize l.drop k = r at hs hl
 go_enter Tryz.func56,Tryz.ntmps56
 go_wp2
 go_ret3
 exact ⟨rfl,rfl⟩
theorem next_rest (l : List UInt8) (k : Nat) (w : World) (h : k ≤ l.length) (h8 : 8 ≤ l.length - k) (hm : l.length ≤ maxLen) :
  Calls Tryz.prog 56 #[.string ⟨l.toArray⟩,.int .i64 k] w fun e w' => e = .returned (.tuple #[.string ⟨(Frm.next l k).1.toArray⟩,.int .i64 (Frm.next l k).2.1,.int .i64 (Frm.next l k).2.2]) ∧ Below w.heap.size w w' := by
 unfold maxLen at hm
 have hs := str_from (P := Tryz.prog) l k k rfl h 9 .i64 Tryz.underlying9
 have hl : 8 ≤ (l.drop k).length := by simp; omega
 have hl2 : (l.drop k).length + k ≤ 9223372036854775807 := by simp; omega
 have H1 := hq' (@Frm.next_long l k h h8)
 have H2 := hq' (@Frm.next_short2 l k h h8)
 have H3 := hq' (@Frm.next_sum l k h h8)
 have H4 := hq' (@Frm.next_ok l k h h8)
 have hlen : l.length - k - 8 = (l.drop k).length - 8 := by simp
 rw [hlen] at H2 H3 H4
 clear hlen
 generalize l.drop k = r at hs hl hl2 H1 H2 H3 H4
 generalize Frm.next l k = q at H1 H2 H3 H4
 obtain ⟨q1,q2,q3⟩ := q
 have hn := (Crc.num r).isLt
 go_enter Tryz.func56,Tryz.ntmps56
 go_wp2_with fail
 refine (number_any _ _ (by omega) (by unfold maxLen; omega)).mono ?_
 rintro e w1 ⟨rfl,rfl⟩
 by_cases c1 : 16384 < (Crc.num r).toNat
 ·have e1 := H1.out c1
  injection e1 with e1 e2
  injection e2 with e2 e3
  subst e1 e2 e3
  go_wp2
  go_ret3
  exact ⟨rfl,Below.refl _ _⟩
 ·by_cases c2 : r.length - 8 < (Crc.num r).toNat
  ·have e1 := H2.out (by omega) c2
   injection e1 with e1 e2
   injection e2 with e2 e3
   subst e1 e2 e3
   go_wp2
   go_ret3
   exact ⟨rfl,Below.refl _ _⟩
  ·have hc := str_cut (P := Tryz.prog) r 8 (8 + (Crc.num r).toNat) 8 (8 + (Crc.num r).toNat) .i64 .u32 rfl (by omega) (by omega) (by omega) 9 Tryz.underlying9
   have h4 := str_from (P := Tryz.prog) r 4 4 rfl (by omega) 9 .i64 Tryz.underlying9
   have hb : ((r.take (8 + (Crc.num r).toNat)).drop 8).length ≤ 16384 := by simp; omega
   have h4l : 4 ≤ (r.drop 4).length := by simp; omega
   have h4m : (r.drop 4).length ≤ 9223372036854775807 := by simp; omega
   generalize (r.take (8 + (Crc.num r).toNat)).drop 8 = b at hc hb H3 H4
   generalize r.drop 4 = r4 at h4 h4l h4m H3 H4
   by_cases c3 : Crc.sum b = Crc.num r4
   ·have e1 := H4.out (by omega) (by omega) c3
    injection e1 with e1 e2
    injection e2 with e2 e3
    subst e1 e2 e3
    have ht := ne_no c3
    clear hn c3
    go_wp2_with fail
    go_region_with (first | (go_at_call 78; refine (sum_any _ _ (by unfold maxLen; omega)).mono ?_; rintro e w2 ⟨rfl,hb2⟩) | (go_at_call 90; refine (number_any _ _ h4l (by unfold maxLen; omega)).mono ?_; rintro e w3 ⟨rfl,rfl⟩))
    all_goals
     have HB2 := hq' hb2
     clear hb2
     go_wp2
     go_ret3
     exact ⟨rfl,bd HB2.out⟩
   ·have e1 := H3.out (by omega) (by omega) c3
    injection e1 with e1 e2
    injection e2 with e2 e3
    subst e1 e2 e3
    have ht := ne_yes c3
    clear hn c3
    go_wp2_with fail
    go_region_with (first | (go_at_call 78; refine (sum_any _ _ (by unfold maxLen; omega)).mono ?_; rintro e w2 ⟨rfl,hb2⟩) | (go_at_call 90; refine (number_any _ _ h4l (by unfold maxLen; omega)).mono ?_; rintro e w3 ⟨rfl,rfl⟩))
    all_goals
     have HB2 := hq' hb2
     clear hb2
     go_wp2
     go_ret3
     exact ⟨rfl,bd HB2.out⟩
theorem next_any (l : List UInt8) (k : Int) (w : World) (hm : l.length ≤ maxLen) :
  Calls Tryz.prog 56 #[.string ⟨l.toArray⟩,.int .i64 k] w fun e w' => e = .returned (.tuple #[.string ⟨(Frm.next l k).1.toArray⟩,.int .i64 (Frm.next l k).2.1,.int .i64 (Frm.next l k).2.2]) ∧ Below w.heap.size w w' := by
 by_cases h : k < 0 ∨ (l.length : Int) < k
 ·rw [Frm.next_arg h]
  exact (next_arg l k w h hm).mono fun e w' ⟨he,hw⟩ => ⟨he,hw ▸ Below.refl _ _⟩
 ·obtain ⟨n,rfl⟩ := Int.eq_ofNat_of_zero_le (show 0 ≤ k by omega)
  by_cases h8 : l.length - n < 8
  ·rw [Frm.next_short (by omega) h8]
   exact (next_short l n w (by omega) h8 hm).mono fun e w' ⟨he,hw⟩ => ⟨he,hw ▸ Below.refl _ _⟩
  ·exact next_rest l n w (by omega) (by omega) hm
/- The reference's. -/
open Go.RowKit
def WStrs (w : World) (ls : List (List UInt8)) (e : Ending) (w' : World) : Prop := ∃ v,e = .returned v ∧ w'.ownsRow w.heap.size 9 1 v ls.length (sv ls) ∧ Below w.heap.size w w'
theorem sv_append (a b : List (List UInt8)) : sv (a ++ b) = sv a ++ sv b := by simp [sv]
theorem ownsRow_weaken {w : World} {b b' : Nat} {e : TypeId} {size : Nat} {v : Value} {n : Nat} {xs : List Value} (h : w.ownsRow b e size v n xs) (hb : b' ≤ b) : w.ownsRow b' e size v n xs := by
 refine ⟨h.1,?_⟩
 rcases h.2 with h2 | ⟨g,cap,cur,e1,hB,r⟩
 ·exact .inl h2
 ·exact .inr ⟨g,cap,cur,e1,Nat.le_trans hb hB,r⟩
theorem wints_any (l : List Int) (hl : l.length ≤ 100000) (hr : ∀ x ∈ l,Bd.inR x) (v : Value) (w : World) (h : Ints w v l) (hw : Lw w) :
  Calls Tryz.prog 80 #[v] w (WStrs w (l.map Bd.bInt)) := by
 have HZ := hq' h
 have HW := hq' hw
 have HR := hq' hr
 obtain ⟨a,cap,rfl⟩ := h.form
 obtain ⟨i0,hi,hz0,hz1,hz2⟩ := info_parts cinfoStr
 clear h hw hr
 go_enter Tryz.func80,Tryz.ntmps80
 go_wp2
 go_loopw [2,7] (fun tv ti wr => ∃ k : Nat,ti = .int .i64 k ∧ k ≤ l.length ∧ wr.ownsRow w.heap.size 9 1 tv k (sv ((l.map Bd.bInt).take k)) ∧ Below w.heap.size w wr) (fun _ ti _ => l.length - (intOf ti).toNat)
 case atStart => exact ⟨0,rfl,by omega,⟨by simp [sv],.inl ⟨rfl,rfl⟩⟩,Below.refl _ _⟩
 case round =>
  obtain ⟨k,rfl,hk,ho,hb⟩ := hrel
  have HO := hq' ho
  have HB := hq' hb
  clear ho hb
  by_cases hlt : k < l.length
  ·obtain ⟨x,hx⟩ : ∃ x,l[k]? = some x := ⟨l[k],by simp [hlt]⟩
   have HJ := hq' (beadInt_any x (HR.out x (List.mem_of_getElem? hx)) wr (HW.out.below HB.out))
   have HT : Hid (sv ((l.map Bd.bInt).take (k + 1)) = sv ((l.map Bd.bInt).take k) ++ sv [Bd.bInt x]) := by
    rw [Hid,← sv_append]
    congr 1
    rw [List.take_succ_eq_append_getElem (by simpa using hlt)]
    obtain ⟨_,rfl⟩ := List.getElem?_eq_some_iff.1 hx
    simp
   obtain ⟨g,off,cap',he,hg,p0⟩ := HZ.out.get HB.out hx
   injection he with he1 he2 he3
   subst he1 he3
   clear he2
   generalize Bd.bInt x = bx at *
   go_wp2_with fail
   refine HJ.out.mono ?_
   rintro e w1 ⟨rfl,hb1⟩
   have HO1 := hq' (ownsRow_below HO.out hb1)
   have HB1 := hq' (bt HB.out hb1)
   have hsz := HB1.out.size
   clear hb1 HJ HO p0
   go_wp2_with (at_builtin; refine wpList_append_own _ rfl _ _ 93 rfl w.heap.size 9 i0 (.string ⟨#[]⟩) 1 16 Tryz.underlying93 hi hz0 hz1 hz2 rfl (by decide) _ _ _ rfl (World.ownsRow.alloc HO1.out _) ⟨w1.heap.size,0,none⟩ 1 1 [.string ⟨bx.toArray⟩] rfl rfl (cell_one_new _ _ _) ?_ ?_ ?_ ?_ ?_)
   ·simp [Value.oneCell']
   ·unfold maxLen; omega
   ·omega
   ·simp; omega
   intro v' w2 hown2 hg2 _
   have HN : Hid (w2.ownsRow w.heap.size 9 1 v' (k + 1) (sv ((l.map Bd.bInt).take (k + 1)))) := by rw [Hid,HT.out]; exact hown2
   have HB2 : Hid (Below w.heap.size w w2) := (HB1.out.alloc hsz _).grown hg2 (by simp; omega) (fun kk hkk => (HO1.out.lt kk hkk).1)
   clear hown2 hg2
   go_wp2
   go_roundw
   case rel => exact ⟨k + 1,by go_num,by omega,HN.out,HB2.out⟩
   case measure => simp [intOf]; omega
  ·obtain rfl : k = l.length := by omega
   have h9 := HO.out
   rw [List.take_of_length_le (by simp),show l.length = (l.map Bd.bInt).length by simp] at h9
   have HF := hq' h9
   clear h9
   go_wp2
   go_ret
   exact ⟨_,rfl,HF.out,HB.out⟩
theorem ints3_cl {W : World} {g : Nat} {a b c : Int} {t : TypeId} (C : Cl W g [.int .i64 a,.int .i64 b,.int .i64 c] t) : Ints W (.slice (some ⟨g,0,none⟩) 3 3) [a,b,c] := by
 refine ⟨_,3,rfl,fun i hi => ⟨g,0,rfl,C.lt,?_⟩⟩
 rw [Nat.zero_add,Cl.cell C i]
 rcases (show i = 0 ∨ i = 1 ∨ i = 2 by simp at hi; omega) with rfl | rfl | rfl <;> rfl
open Go.RowKit
theorem Keeps.fresh {S T : Nat → Prop} {a b c : World} (h : Keeps S a b) (k : Keeps T b c) (hT : ∀ k,k < a.heap.size → T k → S k) : Keeps S a c :=
 ⟨k.os.trans h.os,k.tape.trans h.tape,k.output.trans h.output,Nat.le_trans h.size k.size,fun i hi hs => (k.block i (Nat.lt_of_lt_of_le hi h.size) (fun ht => hs (hT i hi ht))).trans (h.block i hi hs)⟩
theorem step_append_sl {P : Program} (w : World) {ops : Array Oper} {o : Oper} {a : Act} {K : Act → World → Prop} {Q : Exit → Act → World → Prop} {E : Prop} (hgd : o.guard = none) (s x : Operand) (t : TypeId)
  (ho : o.op = .call { callee := .builtin .append,args := #[s,x],argTypes := #[t,t] })
  (base : Nat) (e : TypeId) (i : TypeInfo) (z : Value) (size bytes : Nat) (ht : P.underlying t = some (.slice e)) (hi : P.info? e = some i) (hz : i.zero = some z)
  (hsize : i.size = size) (hby : i.bytes = bytes) (hzs : z.cells.size = size) (hsz : 0 < size)
  (v : Value) (n : Nat) (xs : List Value) (hs : a.eval s = v) (hown : Sl w base size v n xs) (sv : Value) (m : Nat) (ys : List Value) (hx : a.eval x = sv) (hsrc : SrcIs w size sv m ys) (h1 : ∀ u ∈ ys,u.oneCell' = true)
  (h63 : n + m ≤ maxLen) (hbytes : (n + m) * bytes ≤ 140737488355328) (hbase : base ≤ w.heap.size) (hm : 0 < m)
  (h : ∀ g off cap w',Sl w' base size (.slice (some ⟨g,off,none⟩) (n + m) cap) (n + m) (xs ++ ys) → w.grownBy w' v.ownBlock → (v.ownBlock = some g ∨ w.heap.size ≤ g) → K (a.put o.dst (.slice (some ⟨g,off,none⟩) (n + m) cap)) w') :
  if Region.wanted o (yielded ops a.tmps) = true then Oper.wp P o a w K Q else E := by
 have hw : Region.wanted o (yielded ops a.tmps) = true := by simp [Region.wanted,hgd]
 rw [if_pos hw]
 obtain ⟨v',w',hr,h2,h3,h4⟩ := run_append_sl (P := P) w t o.type e i z size bytes ht hi hz hsize hby hzs hsz base v n xs hown sv m ys hsrc h1 h63 hbytes hbase
 have h2' := h2
 rcases h2.2 with ⟨_,h0⟩ | ⟨g,off,cap,rfl,_⟩
 ·omega
 unfold Oper.wp execOp
 simp only [ho,resolve,invoke,builtin,Sem.run_bind,Sem.run_pure,Result.andThen_ok,List.map_toArray,List.map_cons,List.map_nil,hs,hx,hr]
 refine h g off cap w' h2' h3 ?_
 rcases h4 with h4 | h4
 ·exact .inl (by rw [← h4]; rfl)
 ·exact .inr (h4 g rfl)
end Go.Proofs.YtbljbdjmgogknaaGreatDoor
namespace Go.Proofs.YtbljbdjmgogknaaGreatDoor.Frm
open Crc
theorem put_length (l : List UInt8) : (put l).length = 8 + l.length := by simp [put,four_length]; omega
theorem put_head (l : List UInt8) (h : l.length ≤ 16384) (r : List UInt8) : num (put l ++ r) = BitVec.ofNat 32 l.length := by
 have := num_four (BitVec.ofNat 32 l.length)
 unfold put
 unfold four at this ⊢
 simpa [num] using this
theorem put_check (l r : List UInt8) : num ((put l ++ r).drop 4) = sum l := by
 have := num_four (sum l)
 unfold put
 unfold four at this ⊢
 simpa [num] using this
theorem put_body (l r : List UInt8) : ((put l ++ r).take (8 + l.length)).drop 8 = l := by
 have : (put l ++ r).take (8 + l.length) = put l := by
  rw [List.take_append_of_le_length (by rw [put_length]; omega),List.take_of_length_le (by rw [put_length]; omega)]
 rw [this]
 rfl
theorem next_put (l r : List UInt8) (h : l.length ≤ 16384) : next (put l ++ r) ((0 : Nat) : Int) = (l,((8 + l.length : Nat) : Int),0) := by
 have hn : (num ((put l ++ r).drop 0)).toNat = l.length := by
  rw [List.drop_zero,put_head l h r,BitVec.toNat_ofNat]; omega
 have hl : (put l ++ r).length = 8 + l.length + r.length := by rw [List.length_append,put_length]
 have hb : (((put l ++ r).drop 0).take (8 + (num ((put l ++ r).drop 0)).toNat)).drop 8 = l := by rw [hn,List.drop_zero]; exact put_body l r
 rw [next_ok (l := put l ++ r) (k := 0) (by omega) (by omega) (by omega) (by omega) (by rw [hb]; rw [List.drop_zero]; exact (put_check l r).symm),hb,hn]
 simp
def puts (ts : List (List UInt8)) : List UInt8 := (ts.map put).flatten
end Go.Proofs.YtbljbdjmgogknaaGreatDoor.Frm
