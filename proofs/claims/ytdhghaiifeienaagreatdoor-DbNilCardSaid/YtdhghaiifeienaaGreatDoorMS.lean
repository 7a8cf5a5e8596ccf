/- slices.Sorted(maps.Keys(m)) at the program's maps: the keys, rising. -/
import Derived.Test.YtdhghaiifeienaaGreatDoorShelf
import Derived.Test.YtdhghaiifeienaaGreatDoorMA
import Derived.Test.YtdhghaiifeienaaGreatDoorMH
import Derived.WalkSpells

/- slices.Sorted(maps.Keys(m)) at the program's maps: the keys, rising. -/
set_option linter.unusedVariables false
set_option linter.unusedSimpArgs false
namespace Go.Proofs.YtdhghaiifeienaaGreatDoor
open Go.RowKit Go.Proofs.YtdhghaiifeienaaGreatDoorW.PrintWords Go.Maps Go.Sort Go.Shelf Go.WideElems

/-- Strings, rising. -/
def srt (xs : List ByteArray) : List ByteArray := ((xs.map (fun s => s.data.toList)).mergeSort leB).map (fun l => ⟨l.toArray⟩)
theorem srt_perm {xs ys : List ByteArray} (h : xs.Perm ys) : srt xs = srt ys := by
  unfold srt
  rw [mergeSort_of_perm (h.map _)]
theorem srt_isPerm (xs : List ByteArray) : (srt xs).Perm xs := by
  have h1 : (srt xs).Perm ((xs.map (fun s => s.data.toList)).map (fun l => (⟨l.toArray⟩ : ByteArray))) := (List.mergeSort_perm _ _).map _
  have h2 : (xs.map (fun s => s.data.toList)).map (fun l => (⟨l.toArray⟩ : ByteArray)) = xs := by
    rw [List.map_map]
    conv => rhs; rw [← List.map_id xs]
    exact List.map_congr_left (fun x _ => by cases x; rfl)
  rwa [h2] at h1

theorem size_foldr (l : List (Lit × DataW Unit)) : Maps.size (.map (l.foldr DataW.insert [])) = l.length := Go.length_sorted l

/-- Any map whose keys are strings, as the shelf sees it. -/
theorem owns_of_map {α : Type} {R : α → Value → Prop} {w : World} {b : Nat} {m : List (ByteArray × α)} (h : MapAt Value.string R w b m) (hk : ∀ k ∈ mkeys m, k.size ≤ maxLen) (hn : m.length ≤ maxLen) :
    ∃ D0 : DataW Unit, w.ownsMap Tryz.prog 9 (fun _ => some (.nil, [])) b m.length D0 ∧ (strKeys D0).Perm ((mkeys m).map (fun s => s.data.toList)) ∧ Maps.size D0 = m.length := by
  obtain ⟨es, clock, hb, hl, hnd, hst⟩ := h
  have hsz : es.size = m.length := by rw [hl.len]; simp
  have hrd : ∀ x ∈ es.toList, ∀ k, x.key = .string k → k.size ≤ maxLen → WideElems.rd (H := Unit) Tryz.prog 9 (fun _ => some (.nil, [])) x = some (.string k.data.toList, .nil) := by
    intro x hx k hk hs
    simp [WideElems.rd, hk, Go.WideMaps.keyOf_string_mk und_str hs]
  have hkeys : es.toList.map (fun x => strOf (rg (H := Unit) Tryz.prog 9 (fun _ => some (.nil, [])) x).1) = (mkeys m).map (fun s => s.data.toList) := by
    clear hb hsz hst hn hnd
    generalize es.toList = L at hl hrd ⊢
    induction hl with
    | nil => rfl
    | cons hr hl ih =>
      rename_i p e l es'
      have h1 := hrd e (.head _) p.1 hr.1 (hk _ (.head _))
      simp only [List.map_cons, mkeys]
      rw [show rg (H := Unit) Tryz.prog 9 (fun _ => some (.nil, [])) e = (.string p.1.data.toList, .nil) from by simp [rg, h1]]
      rw [ih (fun k hk' => hk k (.tail _ hk')) (fun x hx => hrd x (.tail _ hx))]
      rfl
  refine ⟨_, ⟨es, clock, hb, ⟨by omega, hst, fun x hx => ?_⟩, by omega, rfl⟩, ?_, ?_⟩
  · have : ∃ p ∈ m, x.key = .string p.1 := by
      clear hb hsz hst hn hnd hkeys hrd
      generalize es.toList = L at hl hx
      induction hl with
      | nil => cases hx
      | cons hr hl ih =>
        rename_i p e l es'
        rcases List.mem_cons.1 hx with rfl | hx
        · exact ⟨p, .head _, hr.1⟩
        · obtain ⟨q, hq, e1⟩ := ih (fun k hk' => hk k (.tail _ hk')) hx
          exact ⟨q, .tail _ hq, e1⟩
    obtain ⟨p, hp, e1⟩ := this
    exact ⟨_, hrd x hx p.1 e1 (hk _ (List.mem_map.2 ⟨p, hp, rfl⟩))⟩
  · have hp := WideShapes.sorted_perm (es.toList.map (rg (H := Unit) Tryz.prog 9 (fun _ => some (.nil, []))))
    have := hp.map (fun p => strOf p.1)
    simp only [List.map_map, Function.comp_def] at this
    rw [hkeys] at this
    unfold strKeys
    exact this
  · rw [size_foldr, List.length_map, Array.length_toList, hsz]

theorem sorts_S (m : Nat) : AnyZ.SortsIn Tryz.prog Tryz.sortedS_ren Fence.wide m :=
  ⟨fun blk off cap ss W hH hblk hsz => callsIn_wide.2 (AnyM.slices_Sort_string Tryz.sortS blk off cap ss W hH hblk hsz),
   fun p cap W => callsIn_wide.2 (AnyM.slices_Sort_string_none Tryz.sortS p cap W)⟩

theorem own_srt {w : World} {base : Nat} {v : Value} {ss : List (List UInt8)} {xs : List ByteArray} (h : w.ownsRow base 9 1 v ss.length ((ss.mergeSort (fun x y => decide (x ≤ y))).map Go.Proofs.encStr)) (hp : ss.Perm (xs.map (fun s => s.data.toList))) : Kd.string.R 9 w base tr v (srt xs) := by
  have e1 : (ss.mergeSort (fun x y => decide (x ≤ y))) = (xs.map (fun s => s.data.toList)).mergeSort leB := mergeSort_of_perm hp
  rw [e1] at h
  have e2 : ((xs.map (fun s => s.data.toList)).mergeSort leB).map Go.Proofs.encStr = encs Value.string (srt xs) := by
    unfold encs srt
    rw [List.map_map]
    rfl
  rw [e2] at h
  have e3 : ss.length = (srt xs).length := by rw [hp.length_eq]; unfold srt; simp [List.length_mergeSort]
  rw [e3] at h
  exact Kd.R_of_own h (fun _ _ => trivial)

set_option maxHeartbeats 1000000 in
theorem db_sorted (w : World) (b : Nat) (m : List (ByteArray × Unit)) (h : SetAt w b m) (hk : ∀ k ∈ mkeys m, k.size ≤ maxLen) (hn : m.length ≤ 1000000) :
    Calls Tryz.prog 100 #[.map (some b)] w fun e w' => ∃ v, e = .returned v ∧ Kd.string.R 9 w' w.heap.size tr v (srt (mkeys m)) ∧ Below w.heap.size w w' := by
  obtain ⟨D0, hown, hperm, hsz⟩ := owns_of_map h hk (by unfold maxLen; omega)
  have hbl := hown.lt
  have hseq : SeqGives Fence.wide 2 Tryz.prog 155 #[.pointer (some ⟨w.heap.size, 0, none⟩)] Go.Proofs.encStr (fun ss => ss.Perm (strKeys D0)) (Maps.size D0) (w.alloc (.cells #[.map (some b)] 114)) :=
    AnyZ.keys_gives (ρ := Tryz.keysSet_ren) { Tryz.keysSet with } Fence.wide _ trivial rfl (by omega) w.heap.size b m.length D0 _ (by simp) (by simp) (by
      obtain ⟨es, clock, hb, Ft, hs, hD⟩ := hown
      exact ⟨es, clock, (Below.heap_alloc _ _ b hbl).trans hb, Ft, hs, hD⟩)
  have cK : ∀ mb W, Calls Tryz.prog 130 #[.map mb] W fun e w' => e = .returned (.func (.func 155) #[] #[.pointer (some ⟨W.heap.size, 0, none⟩)]) ∧ w' = W.alloc (.cells #[.map mb] 114) := fun mb W => callsIn_wide.1 (AnyZ.keys_in Tryz.keysSet Fence.wide 5 trivial rfl mb W)
  have cS := callsIn_wide.1 (AnyZ.sorted_in Tryz.sortedS Fence.wide 5 trivial trivial trivial trivial rfl (by omega) (sorts_S _) (enters_of Tryz.func145 (by kernel_rfl) rfl) 155 #[.pointer (some ⟨w.heap.size, 0, none⟩)] trivial (enters_of Tryz.func155 (by kernel_rfl) rfl) _ _ (by rw [hsz]; unfold maxLen; omega) (by rw [hsz]; omega) _ hseq)
  change Calls Tryz.prog 124 _ _ _ at cS
  have CK := Lib.hid cK
  have CS := Lib.hid cS
  have HP := Lib.hid hperm
  clear cK cS hseq hown hsz hbl hperm
  go_enter Tryz.func100, Tryz.ntmps100
  go_wp2_with (first
    | (go_at_call 130; (with_reducible refine (CK.out _ _).mono ?_); rintro e w' ⟨rfl, rfl⟩)
    | (go_at_call 124; (with_reducible refine CS.out.mono ?_); rintro e w' ⟨v, ss, rfl, hS, hrow, hnil, hb⟩))
  go_returns
  exact ⟨v, rfl, Kd.R_lower (own_srt hrow (hS.trans HP.out)) (by simp), ((Below.refl _ w).alloc (Nat.le_refl _) _).trans (hb.mono (by simp))⟩
end Go.Proofs.YtdhghaiifeienaaGreatDoor

/- The sorted lists of a table and a store. -/
set_option linter.unusedVariables false
set_option linter.unusedSimpArgs false
namespace Go.Proofs.YtdhghaiifeienaaGreatDoor
open Go.RowKit Go.Proofs.YtdhghaiifeienaaGreatDoorW.PrintWords Go.Maps Go.Sort Go.Shelf Go.WideElems

set_option maxHeartbeats 1000000 in
theorem db_sorted_nil (w : World) :
    Calls Tryz.prog 100 #[.map none] w fun e w' => e = .returned (.slice none 0 0) ∧ Below w.heap.size w w' := by
  have hseq : SeqGives Fence.wide 2 Tryz.prog 155 #[.pointer (some ⟨w.heap.size, 0, none⟩)] Go.Proofs.encStr (fun ss : List (List UInt8) => ss = []) 0 (w.alloc (.cells #[.map none] 114)) :=
    AnyZ.keys_gives_nil (ρ := Tryz.keysSet_ren) { Tryz.keysSet with } Fence.wide _ trivial rfl w.heap.size _ (by simp) (by simp)
  have cK : ∀ mb W, Calls Tryz.prog 130 #[.map mb] W fun e w' => e = .returned (.func (.func 155) #[] #[.pointer (some ⟨W.heap.size, 0, none⟩)]) ∧ w' = W.alloc (.cells #[.map mb] 114) := fun mb W => callsIn_wide.1 (AnyZ.keys_in Tryz.keysSet Fence.wide 5 trivial rfl mb W)
  have cS := callsIn_wide.1 (AnyZ.sorted_in Tryz.sortedS Fence.wide 5 trivial trivial trivial trivial rfl (by omega) (sorts_S _) (enters_of Tryz.func145 (by kernel_rfl) rfl) 155 #[.pointer (some ⟨w.heap.size, 0, none⟩)] trivial (enters_of Tryz.func155 (by kernel_rfl) rfl) _ 0 (Nat.zero_le _) (by omega) _ hseq)
  change Calls Tryz.prog 124 _ _ _ at cS
  have CK := Lib.hid cK
  have CS := Lib.hid cS
  clear cK cS hseq
  go_enter Tryz.func100, Tryz.ntmps100
  go_wp2_with (first
    | (go_at_call 130; (with_reducible refine (CK.out _ _).mono ?_); rintro e w' ⟨rfl, rfl⟩)
    | (go_at_call 124; (with_reducible refine CS.out.mono ?_); rintro e w' ⟨v, ss, rfl, rfl, hrow, hnil, hb⟩; obtain rfl : v = .slice none 0 0 := hnil.2 rfl))
  go_returns
  exact ⟨rfl, ((Below.refl _ w).alloc (Nat.le_refl _) _).trans (hb.mono (by simp))⟩

set_option maxHeartbeats 1000000 in
theorem table_keys (w : World) (tb lb : Nat) (jv : Value) (rows : List (ByteArray × Row)) (J : List Was) (h : TableAt w tb lb jv rows J) (hk : ∀ k ∈ mkeys rows, k.size ≤ maxLen) (hn : rows.length ≤ 1000000) :
    Calls Tryz.prog 90 #[.pointer (some ⟨tb, 0, none⟩)] w fun e w' => ∃ v, e = .returned v ∧ Kd.string.R 9 w' w.heap.size tr v (srt (mkeys rows)) ∧ Below w.heap.size w w' := by
  obtain ⟨D0, hown, hperm, hsz⟩ := owns_of_map h.map hk (by unfold maxLen; omega)
  have hbl := hown.lt
  have d0 := h.cell0
  have hseq : SeqGives Fence.wide 2 Tryz.prog 146 #[.pointer (some ⟨w.heap.size, 0, none⟩)] Go.Proofs.encStr (fun ss => ss.Perm (strKeys D0)) (Maps.size D0) (w.alloc (.cells #[.map (some lb)] 168)) :=
    AnyZ.keys_gives (ρ := Tryz.keysRow_ren) { Tryz.keysRow with } Fence.wide _ trivial rfl (by omega) w.heap.size lb rows.length D0 _ (by simp) (by simp) (by
      obtain ⟨es, clock, hb, Ft, hs, hD⟩ := hown
      exact ⟨es, clock, (Below.heap_alloc _ _ lb hbl).trans hb, Ft, hs, hD⟩)
  have cK : ∀ mb W, Calls Tryz.prog 125 #[.map mb] W fun e w' => e = .returned (.func (.func 146) #[] #[.pointer (some ⟨W.heap.size, 0, none⟩)]) ∧ w' = W.alloc (.cells #[.map mb] 168) := fun mb W => callsIn_wide.1 (AnyZ.keys_in Tryz.keysRow Fence.wide 5 trivial rfl mb W)
  have cS := callsIn_wide.1 (AnyZ.sorted_in Tryz.sortedS Fence.wide 5 trivial trivial trivial trivial rfl (by omega) (sorts_S _) (enters_of Tryz.func145 (by kernel_rfl) rfl) 146 #[.pointer (some ⟨w.heap.size, 0, none⟩)] trivial (enters_of Tryz.func146 (by kernel_rfl) rfl) _ _ (by rw [hsz]; unfold maxLen; omega) (by rw [hsz]; omega) _ hseq)
  change Calls Tryz.prog 124 _ _ _ at cS
  have CK := Lib.hid cK
  have CS := Lib.hid cS
  have HP := Lib.hid hperm
  clear cK cS hseq hown hsz hbl hperm
  go_enter Tryz.func90, Tryz.ntmps90
  go_wp2_with (first
    | (go_at_call 125; (with_reducible refine (CK.out _ _).mono ?_); rintro e w' ⟨rfl, rfl⟩)
    | (go_at_call 124; (with_reducible refine CS.out.mono ?_); rintro e w' ⟨v, ss, rfl, hS, hrow, hnil, hb⟩))
  go_returns
  exact ⟨v, rfl, Kd.R_lower (own_srt hrow (hS.trans HP.out)) (by simp), ((Below.refl _ w).alloc (Nat.le_refl _) _).trans (hb.mono (by simp))⟩

/-- What is small about a store: no string too long, not too many of anything. -/
structure StSm (S : St) : Prop where
  rk : ∀ k ∈ mkeys S.rows, k.size ≤ maxLen
  rn : S.rows.length ≤ 1000000
  ok : ∀ k ∈ mkeys S.roots, k.size ≤ maxLen
  on : S.roots.length ≤ 1000000
  bk : ∀ p ∈ S.back, ∀ k ∈ mkeys p.2.2, k.size ≤ maxLen
  bn : ∀ p ∈ S.back, p.2.2.length ≤ 1000000
  fn : ∀ p ∈ S.rows, p.2.refs.length < 1000000

theorem store_paths (w : World) (B : Bl) (S : St) (h : StoreAt w B S) (hs : StSm S) :
    Calls Tryz.prog 40 #[B.ptr] w fun e w' => ∃ v, e = .returned v ∧ Kd.string.R 9 w' w.heap.size tr v (srt (mkeys S.rows)) ∧ Below w.heap.size w w' := by
  obtain ⟨c0, c1, c2, c3, c4⟩ := h.cells
  go_enter Tryz.func40, Tryz.ntmps40
  go_wp2_with (go_at_call 90; (with_reducible refine (table_keys w B.tb B.lb B.jv S.rows [] h.tab hs.rk hs.rn).mono ?_); rintro e w' ⟨v, rfl, hR, hb⟩)
  go_returns
  exact ⟨v, rfl, hR, hb⟩
theorem store_roots (w : World) (B : Bl) (S : St) (h : StoreAt w B S) (hs : StSm S) :
    Calls Tryz.prog 60 #[B.ptr] w fun e w' => ∃ v, e = .returned v ∧ Kd.string.R 9 w' w.heap.size tr v (srt (mkeys S.roots)) ∧ Below w.heap.size w w' := by
  obtain ⟨c0, c1, c2, c3, c4⟩ := h.cells
  go_enter Tryz.func60, Tryz.ntmps60
  go_wp2_with (go_at_call 100; (with_reducible refine (db_sorted w B.rb S.roots h.roots hs.ok hs.on).mono ?_); rintro e w' ⟨v, rfl, hR, hb⟩)
  go_returns
  exact ⟨v, rfl, hR, hb⟩
/-- Who refers to a path. -/
def St.refd (S : St) (p : ByteArray) : List ByteArray := match mlook S.back p with
  | some x => mkeys x.2
  | none => []
theorem store_referrers (w : World) (B : Bl) (S : St) (p : ByteArray) (h : StoreAt w B S) (hs : StSm S) :
    Calls Tryz.prog 51 #[B.ptr, .string p] w fun e w' => ∃ v, e = .returned v ∧ Kd.string.R 9 w' w.heap.size tr v (srt (S.refd p)) ∧ Below w.heap.size w w' := by
  obtain ⟨c0, c1, c2, c3, c4⟩ := h.cells
  rcases MapAt.run_lookup strK h.back und_back zero_set p with ⟨h1, h2⟩ | ⟨x, v, h1, rfl, h2⟩
  · have h3 := h2 false w rfl
    unfold St.refd
    rw [h1]
    clear h2 h1
    simp only [Bool.false_eq_true, if_false] at h3
    change (Instr.lookup _ (.map (some B.bb)) (.string p) false).run _ _ = _ at h3
    go_enter Tryz.func51, Tryz.ntmps51
    go_wp2_with (go_at_call 100; (with_reducible refine (db_sorted_nil w).mono ?_); rintro e w' ⟨rfl, hb⟩)
    go_returns
    exact ⟨.slice none 0 0, rfl, by rw [show srt [] = [] from by simp [srt]]; exact Kd.R_nil _ _ _ _ _, hb⟩
  · have h3 := h2 false w rfl
    have hx := mlook_mem h1
    unfold St.refd
    rw [h1]
    clear h2 h1
    simp only [Bool.false_eq_true, if_false] at h3
    change (Instr.lookup _ (.map (some B.bb)) (.string p) false).run _ _ = _ at h3
    go_enter Tryz.func51, Tryz.ntmps51
    go_wp2_with (go_at_call 100; (with_reducible refine (db_sorted w x.1 x.2 (h.sets _ hx) (hs.bk _ hx) (hs.bn _ hx)).mono ?_); rintro e w' ⟨v, rfl, hR, hb⟩)
    go_returns
    exact ⟨v, rfl, hR, hb⟩
end Go.Proofs.YtdhghaiifeienaaGreatDoor

/- The store (package db): a row that shares nothing; paths touched. -/
set_option linter.unusedVariables false
set_option linter.unusedSimpArgs false
namespace Go.Proofs.YtdhghaiifeienaaGreatDoor
open Go.RowKit Go.Proofs.YtdhghaiifeienaaGreatDoorW.PrintWords

theorem RowV.set1 {w : World} {x : Row} {v : Value} {g : Nat} {C : Array Value} (h : RowV w x v) (hb : w.heap[g]? = some (.cells C 44 (0, 0))) (i : Nat) (u : Value) : RowV (w.setCell ⟨g, i, none⟩ u) x v := by
  obtain ⟨u2, u3, rfl, h2, h3⟩ := h
  exact ⟨u2, u3, rfl, Kd.R_mono (Kd.R_set h2 hb (by decide) i u) (fun _ _ => trivial), Kd.R_mono (Kd.R_set h3 hb (by decide) i u) (fun _ _ => trivial)⟩
theorem copied_end {w w3 w5 : World} {x : Row} {b : Nat} {v7 v8 : Value} {C : Array Value} {a0 a1 a2 a3 : Value} (h7 : (Kd.int .u8).R 5 w3 b tr v7 x.arch) (h8 : Kd.string.R 9 w5 w3.heap.size tr v8 x.refs) (hb : Below w3.heap.size w3 w5) (hw : Below w.heap.size w w3)
    (e5 : w5.heap[w.heap.size]? = some (.cells C 44 (0, 0))) (g5 : w5.heap[w.heap.size + 1]? = some (.cells #[a0, a1, a2, a3] 44 (0, 0))) :
    (set4 ((w5.setCell ⟨w.heap.size, 2, none⟩ v7).setCell ⟨w.heap.size, 3, none⟩ v8) (w.heap.size + 1) (.string x.path) (.string x.name) v7 v8).heap[w.heap.size + 1]? = some (.cells #[.string x.path, .string x.name, v7, v8] 44 (0, 0)) ∧
    RowV (set4 ((w5.setCell ⟨w.heap.size, 2, none⟩ v7).setCell ⟨w.heap.size, 3, none⟩ v8) (w.heap.size + 1) (.string x.path) (.string x.name) v7 v8) x (.agg #[.string x.path, .string x.name, v7, v8]) ∧
    Below w.heap.size w (set4 ((w5.setCell ⟨w.heap.size, 2, none⟩ v7).setCell ⟨w.heap.size, 3, none⟩ v8) (w.heap.size + 1) (.string x.path) (.string x.name) v7 v8) := by
  have g6 : ((w5.setCell ⟨w.heap.size, 2, none⟩ v7).setCell ⟨w.heap.size, 3, none⟩ v8).heap[w.heap.size + 1]? = some (.cells #[a0, a1, a2, a3] 44 (0, 0)) := blk_far (blk_far g5 (by simp) _) (by simp) _
  have hR : RowV w5 x (.agg #[.string x.path, .string x.name, v7, v8]) := RowV.mk (Kd.R_lower (Kd.R_below h7 hb) (Nat.zero_le _)) (Kd.R_lower h8 (Nat.zero_le _))
  have hR6 := (hR.set1 e5 2 v7).set1 (blk_set e5 2 v7) 3 v8
  have hB5 : Below w.heap.size w w5 := hw.trans (hb.mono hw.size)
  have hB6 : Below w.heap.size w ((w5.setCell ⟨w.heap.size, 2, none⟩ v7).setCell ⟨w.heap.size, 3, none⟩ v8) := (hB5.setCell (Nat.le_refl _) _).setCell (Nat.le_refl _) _
  refine ⟨set4_blk g6 _ _ _ _, hR6.set4 g6 _ _ _ _, hB6.trans ((set4_mut _ _ _ _ _ _).below hB6.size (fun k _ hk => by omega))⟩
set_option maxRecDepth 20000 in
set_option maxHeartbeats 4000000 in
theorem db_copied (w : World) (x : Row) (v : Value) (hv : RowV w x v) (ha : x.arch.length ≤ 1000000) (hr : x.refs.length ≤ 1000000) :
    Calls Tryz.prog 93 #[v] w fun e w' => ∃ v', e = .returned v' ∧ RowV w' x v' ∧ Below w.heap.size w w' := by
  obtain ⟨A2, c2, A3, c3, rfl, h2, h3⟩ := hv.open_
  obtain ⟨_, _, e2, _, C2⟩ := R_CT (D := D) h2 (by decide)
  obtain ⟨_, _, e3, _, C3⟩ := R_CT (D := D) h3 (by decide)
  injection e2 with e2 _ e2c
  injection e3 with e3 _ e3c
  subst e2 e3 e2c e3c
  have HC2 := Lib.hid C2
  have HC3 := Lib.hid C3
  have HL := Lib.hid (And.intro ha hr)
  obtain ⟨w2, hw2⟩ : ∃ w2, w2 = (w.alloc (.cells #[.string x.path, .string x.name, .slice A2 x.arch.length c2, .slice A3 x.refs.length c3] 44)).alloc (.cells #[(.string ⟨#[]⟩), (.string ⟨#[]⟩), (.slice none 0 0), (.slice none 0 0)] 44) := ⟨_, rfl⟩
  have hB2 : Below w.heap.size w w2 := by rw [hw2]; go_grown
  have g1 : w2.heap[w.heap.size]? = some (.cells #[.string x.path, .string x.name, .slice A2 x.arch.length c2, .slice A3 x.refs.length c3] 44 (0, 0)) := by
    rw [hw2]; exact blk_alloc (heap_alloc_new w _) _
  have g2 : w2.heap[w.heap.size + 1]? = some (.cells #[(.string ⟨#[]⟩), (.string ⟨#[]⟩), (.slice none 0 0), (.slice none 0 0)] 44 (0, 0)) := by
    rw [hw2]
    have := heap_alloc_new (w.alloc (.cells #[.string x.path, .string x.name, .slice A2 x.arch.length c2, .slice A3 x.refs.length c3] 44)) (.cells #[(.string ⟨#[]⟩), (.string ⟨#[]⟩), (.slice none 0 0), (.slice none 0 0)] 44)
    simpa using this
  have HG := Lib.hid (And.intro hB2 (And.intro g1 g2))
  clear h2 h3 C2 C3 ha hr hv
  go_enter Tryz.func93, Tryz.ntmps93
  go_wp2_with fail
  rw [← hw2]
  obtain ⟨q0, q1, q2, q3⟩ := cells4 g1
  have hsz : w2.heap.size = w.heap.size + 2 := by rw [hw2]; simp
  have HS := Lib.hid hsz
  clear hw2 hB2 g1 g2 hsz
  go_region_with (first
    | (go_at_call 127; (with_reducible refine (clone_bytes _ A2 x.arch c2 ?k1 (by have := HL.out.1; omega)).mono ?_); (case k1 => exact HC2.out _ (KeepT.of_below (below_drew HG.out.1))); rintro e w3 ⟨v3, rfl, hR3, hb3⟩; obtain ⟨A7, c7, rfl⟩ := Kd.R_slice hR3; have hl3 : w.heap.size + 2 ≤ w3.heap.size := Nat.le_trans (Nat.le_of_eq HS.out.symm) hb3.size; have e3 := (hb3.block w.heap.size (Nat.lt_of_lt_of_eq (by omega) HS.out.symm)).trans HG.out.2.1; have g3 := (hb3.block (w.heap.size + 1) (Nat.lt_of_lt_of_eq (by omega) HS.out.symm)).trans HG.out.2.2; have hB3 : Below w.heap.size w w3 := (below_drew HG.out.1).trans (hb3.mono (Nat.le_trans (Nat.le_add_right _ 2) (Nat.le_of_eq HS.out.symm))); clear q0 q1 q2 q3; obtain ⟨q0, q1, q2, q3⟩ := cells4 e3; have H3 := Lib.hid (And.intro hR3 (And.intro e3 (And.intro g3 (And.intro hB3 hb3)))); clear hR3 e3 g3 hB3 hb3)
    | (go_at_call 102; (with_reducible refine (clone_str _ A3 x.refs c3 ?k2 (by have := HL.out.2; omega)).mono ?_); (case k2 => exact HC3.out _ (KeepT.of_below (by first | exact H3.out.2.2.2.1 | exact below_drew H3.out.2.2.2.1))); rintro e w5 ⟨v5, rfl, hR5, hb5⟩; obtain ⟨A8, c8, rfl⟩ := Kd.R_slice hR5; have hl5 : w.heap.size + 2 ≤ w5.heap.size := Nat.le_trans hl3 hb5.size; have e5 := (hb5.block w.heap.size (Nat.lt_of_lt_of_le (by omega) hl3)).trans H3.out.2.1; have g5 := (hb5.block (w.heap.size + 1) (Nat.lt_of_lt_of_le (by omega) hl3)).trans H3.out.2.2.1; clear q0 q1 q2 q3; obtain ⟨q0, q1, q2, q3⟩ := cells4 e5; have f2 := blk_frozen e5 2; have f3 := blk_frozen e5 3; have k0 := blk_frozen g5 0; have k1 := blk_frozen g5 1; have k2 := blk_frozen g5 2; have k3 := blk_frozen g5 3; obtain ⟨p0, p1, p2, p3⟩ := cells4 g5; have H5 := Lib.hid (And.intro hR5 (And.intro e5 (And.intro g5 hb5))); clear hR5 e5 g5 hb5))
  all_goals
    go_wp2
    have h := H5.out.2.2.2
    obtain ⟨z1, z2, z3⟩ := copied_end H3.out.1 H5.out.1 ⟨h.os, h.tape, h.output, h.size, h.block⟩ H3.out.2.2.2.1 H5.out.2.1 H5.out.2.2.1
    exact bodyPost_ret (results_row rfl _ _ (w.heap.size + 1) _ _ _ _ _ rfl z1) rfl ⟨_, rfl, z2, z3⟩
end Go.Proofs.YtdhghaiifeienaaGreatDoor

/- The store (package db): paths touched; a row's references linked. -/
set_option linter.unusedVariables false
set_option linter.unusedSimpArgs false
namespace Go.Proofs.YtdhghaiifeienaaGreatDoor
open Go.RowKit Go.Proofs.YtdhghaiifeienaaGreatDoorW.PrintWords

theorem mem_mset' {κ α : Type} [DecidableEq κ] {m : List (κ × α)} {k : κ} {v : α} {p : κ × α} (hn : (mkeys m).Nodup) (h : p ∈ mset m k v) : p = (k, v) ∨ (p ∈ m ∧ p.1 ≠ k) := by
  have h1 : mlook (mset m k v) p.1 = some p.2 := mem_mlook (nodup_set k v hn) h
  rw [mlook_set] at h1
  by_cases e : k = p.1
  · rw [if_pos e] at h1
    injection h1 with h1
    exact .inl (by rw [e, h1])
  · rw [if_neg e] at h1
    exact .inr ⟨mlook_mem h1, fun e' => e e'.symm⟩
theorem List.inj_on_of_nodup_map' {α β : Type} {f : α → β} {l : List α} (h : (l.map f).Nodup) {a b : α} (ha : a ∈ l) (hb : b ∈ l) (e : f a = f b) : a = b := by
  induction l with
  | nil => cases ha
  | cons x l ih =>
    rw [List.map_cons, List.nodup_cons] at h
    rcases List.mem_cons.1 ha with ha' | ha'
    · rcases List.mem_cons.1 hb with hb' | hb'
      · rw [ha', hb']
      · exact absurd (List.mem_map.2 ⟨b, hb', by rw [← e, ha']⟩) h.1
    · rcases List.mem_cons.1 hb with hb' | hb'
      · exact absurd (List.mem_map.2 ⟨a, ha', by rw [e, hb']⟩) h.1
      · exact ih h.2 ha' hb'
section
variable {w w1 w2 : World} {B : Bl} {S : St}
theorem St.sep (h : ([B.lb, B.bb, B.rb, B.stb] ++ S.back.map (fun p => p.2.1)).Nodup) : (B.lb ≠ B.bb ∧ B.lb ≠ B.rb ∧ B.lb ≠ B.stb ∧ B.bb ≠ B.rb ∧ B.bb ≠ B.stb ∧ B.rb ≠ B.stb) ∧ (∀ p ∈ S.back, p.2.1 ≠ B.lb ∧ p.2.1 ≠ B.bb ∧ p.2.1 ≠ B.rb ∧ p.2.1 ≠ B.stb) ∧ (S.back.map (fun p => p.2.1)).Nodup := by
  obtain ⟨h1, h2, h3⟩ := List.nodup_append.1 h
  simp only [List.nodup_cons, List.mem_cons, List.not_mem_nil, or_false, not_or] at h1
  obtain ⟨⟨a, b, c⟩, ⟨d, e⟩, f, _⟩ := h1
  refine ⟨⟨a, b, c, d, e, f⟩, fun p hp => ?_, h2⟩
  have hm : p.2.1 ∈ S.back.map (fun p => p.2.1) := List.mem_map.2 ⟨p, hp, rfl⟩
  exact ⟨fun e => h3 B.lb (by simp) _ hm e.symm, fun e => h3 B.bb (by simp) _ hm e.symm, fun e => h3 B.rb (by simp) _ hm e.symm, fun e => h3 B.stb (by simp) _ hm e.symm⟩
/-- One of the store's maps has been written: what stays. -/
theorem StoreAt.mapw (h : StoreAt w B S) {b : Nat} (hb : b ∈ [B.lb, B.bb, B.rb, B.stb] ++ S.back.map (fun p => p.2.1)) (hg : w.grownBy w2 (some b)) :
    w2.heap[B.sb]? = some (.cells #[.pointer (some ⟨B.tb, 0, none⟩), .map (some B.bb), .map (some B.rb), .map (some B.stb), .int .u64 S.ver] 117 (0, 0)) ∧
    KeepT D w w2 ∧ Mut (fun k => k = b) w w2 ∧ (∀ k, k ∈ [B.lb, B.bb, B.rb, B.stb] ++ S.back.map (fun p => p.2.1) → k ≠ b → w2.heap[k]? = w.heap[k]?) ∧
    (b ≠ B.lb → TableAt w2 B.tb B.lb B.jv S.rows []) := by
  have hnc := (h.maps hb).2
  have hM := grown_mut hg
  have hK : KeepT D w w2 := hM.keepT (fun k C t fr hk hc => absurd hc (by subst hk; exact hnc C t fr))
  have hsb : B.sb ≠ b := fun e => hnc _ _ _ (e ▸ h.blk)
  have htb : B.tb ≠ b := fun e => hnc _ _ _ (e ▸ h.tab.blk)
  refine ⟨hM.at_ h.blk hsb, hK, hM, fun k hk hne => hM.block k (h.maps hk).1 hne, fun hne => ⟨hM.at_ h.tab.blk htb, rows_move h.tab.map (hM.block _ h.tab.map.lt (fun e => hne e.symm)) hK, R_map h.tab.jour hnc hg⟩⟩
theorem StoreAt.setStamps (h : StoreAt w B S) {m : List (ByteArray × Int)} (hm : MapAt Value.string (fun (x : Int) v => v = .int .u64 x) w2 B.stb m) (hg : w.grownBy w2 (some B.stb)) : StoreAt w2 B { S with stamps := m } := by
  obtain ⟨⟨s1, s2, s3, s4, s5, s6⟩, s7, s8⟩ := St.sep h.nd
  obtain ⟨h1, h2, h3, h4, h5⟩ := h.mapw (b := B.stb) (by simp) hg
  exact ⟨h1, h5 (fun e => s3 e.symm), h.back.same (h4 _ (by simp) s5), fun p hp => (h.sets p hp).same (h4 _ (List.mem_append_right _ (List.mem_map.2 ⟨p, hp, rfl⟩)) (s7 p hp).2.2.2), h.roots.same (h4 _ (by simp) s6), hm, h.nd⟩
theorem StoreAt.setRoots (h : StoreAt w B S) {m : List (ByteArray × Unit)} (hm : SetAt w2 B.rb m) (hg : w.grownBy w2 (some B.rb)) : StoreAt w2 B { S with roots := m } := by
  obtain ⟨⟨s1, s2, s3, s4, s5, s6⟩, s7, s8⟩ := St.sep h.nd
  obtain ⟨h1, h2, h3, h4, h5⟩ := h.mapw (b := B.rb) (by simp) hg
  exact ⟨h1, h5 (fun e => s2 e.symm), h.back.same (h4 _ (by simp) s4), fun p hp => (h.sets p hp).same (h4 _ (List.mem_append_right _ (List.mem_map.2 ⟨p, hp, rfl⟩)) (s7 p hp).2.2.1), hm, h.stamps.same (h4 _ (by simp) (fun e => s6 e.symm)), h.nd⟩
end
/-- Stamps behind a touch. -/
def touchL (m : List (ByteArray × Int)) (l : List ByteArray) (v : Int) : List (ByteArray × Int) := l.foldl (fun m p => mset m p v) m
theorem touchL_snoc (m : List (ByteArray × Int)) (l : List ByteArray) (p : ByteArray) (v : Int) : touchL m (l ++ [p]) v = mset (touchL m l v) p v := by simp [touchL]
theorem at_str' {w : World} {A : Option Addr} {n : Nat} {xs : List ByteArray} (h : Kd.string.C w A n xs) (i : Nat) (h1 : i < n) : ∃ ad, A = some ad ∧ w.cell? (ad.add i) = some (.string (xs.getD i ByteArray.empty)) :=
  ReadsOf.at_ (Kd.reads_of_C (enc := Value.string) (d := ByteArray.empty) (h1 := fun _ => rfl) h) (i : Int) (by omega) (by omega)
theorem take_snoc {α : Type} (l : List α) (i : Nat) (hi : i < l.length) (d : α) : l.take (i + 1) = l.take i ++ [l.getD i d] := by
  rw [List.take_add_one, List.getD_eq_getElem?_getD, List.getElem?_eq_getElem hi]
  rfl
set_option maxRecDepth 20000 in
theorem store_touch (w : World) (B : Bl) (S : St) (A : Option Addr) (c : Nat) (l : List ByteArray) (h : StoreAt w B S) (hC : CT D Kd.string w A l) (hl : l.length ≤ 1000000) :
    Calls Tryz.prog 78 #[B.ptr, .slice A l.length c] w fun e w' => e = .returned (.tuple #[]) ∧ StoreAt w' B { S with stamps := touchL S.stamps l S.ver } ∧ Mut (fun k => k = B.stb) w w' := by
  have H := Lib.hid (And.intro h hC)
  clear h hC
  go_enter Tryz.func78, Tryz.ntmps78
  go_wp2
  go_loopg [8] l.length (fun n v8 w' => ∃ i : Nat, v8 = .int .i64 (i : Int) ∧ Hid (n + i = l.length ∧ StoreAt w' B { S with stamps := touchL S.stamps (l.take i) S.ver } ∧ Mut (fun k => k = B.stb) w w'))
  case atStart => exact ⟨0, rfl, by omega, H.out.1, Mut.refl _ _⟩
  case round =>
    obtain ⟨i, rfl, hrel⟩ := hrel
    obtain ⟨hn, hS, hM⟩ := hrel.out
    clear hrel
    rcases Nat.lt_or_ge i l.length with hi | hi
    · have hK : KeepT D w wr := hM.keepT (fun k C t fr hk hc => absurd hc (by subst hk; exact H.out.1.stamps.no_cells C t fr))
      obtain ⟨ad, rfl, d0⟩ := at_str' (H.out.2.keep hK).now i hi
      obtain ⟨p, hp⟩ : ∃ p, p = l.getD i ByteArray.empty := ⟨_, rfl⟩
      rw [← hp] at d0
      obtain ⟨c0, c1, c2, c3, c4⟩ := hS.cells
      have q0 : ((i : Int) < (l.length : Int)) = True := eq_true (by omega)
      have HR := Lib.hid (And.intro hn (And.intro hS (And.intro hM hp)))
      clear hn hS hM hp hK
      go_wp2_with fail
      go_still_tail 9, (by kernel_rfl)
      change wpList _ _ _ _ _ (World.drew _)
      refine wp_mapUpdate_at strK rfl (.tmp 15) (.tmp 16) (.tmp 20) 115 rfl und_stamps rfl (show MapAt strK.enc (fun (x : Int) v => v = .int .u64 x) (World.drew wr) B.stb (touchL S.stamps (l.take i) S.ver) from HR.out.2.1.stamps) p rfl S.ver _ rfl rfl ?_
      intro w2 hm2 hg2 hs2
      have HW := Lib.hid (And.intro hm2 (grown_undrew hg2))
      clear hm2 hg2 hs2
      go_wp2
      go_roundg (gk - 1)
      case measure => have := HR.out.1; omega
      case rel =>
        refine ⟨i + 1, by go_num, by have := HR.out.1; omega, ?_, HR.out.2.2.1.trans (grown_mut HW.out.2) (fun _ _ hk => hk)⟩
        have := HR.out.2.1.setStamps HW.out.1 HW.out.2
        rw [take_snoc l i hi ByteArray.empty, touchL_snoc, ← HR.out.2.2.2]
        exact this
    · obtain rfl : i = l.length := by omega
      have HR := Lib.hid (And.intro hS hM)
      clear hn hS hM
      go_wp2
      go_returns
      have := HR.out.1
      rw [List.take_length] at this
      exact ⟨rfl, this, HR.out.2⟩
end Go.Proofs.YtdhghaiifeienaaGreatDoor

/- The store (package db): a row's references linked. -/
set_option linter.unusedVariables false
set_option linter.unusedSimpArgs false
namespace Go.Proofs.YtdhghaiifeienaaGreatDoor
open Go.RowKit Go.Proofs.YtdhghaiifeienaaGreatDoorW.PrintWords

abbrev SetL := List (ByteArray × Unit)
/-- Who refers to whom, without blocks. -/
def abk (b : List (ByteArray × (Nat × SetL))) : List (ByteArray × SetL) := b.map (fun p => (p.1, p.2.2))
def linkA (path : ByteArray) (ab : List (ByteArray × SetL)) (p : ByteArray) : List (ByteArray × SetL) := mset ab p (mset ((mlook ab p).getD []) path ())
theorem abk_look (b : List (ByteArray × (Nat × SetL))) (p : ByteArray) : mlook (abk b) p = (mlook b p).map (fun x => x.2) := by
  induction b with
  | nil => rfl
  | cons q b ih =>
    unfold abk at ih ⊢
    rw [List.map_cons]
    unfold mlook
    by_cases h : q.1 = p
    · simp [h]
    · simp only [if_neg h]; exact ih
theorem abk_mset (b : List (ByteArray × (Nat × SetL))) (p : ByteArray) (x : Nat × SetL) : abk (mset b p x) = mset (abk b) p x.2 := by
  induction b with
  | nil => rfl
  | cons q b ih =>
    unfold abk at ih ⊢
    rw [List.map_cons]
    unfold mset
    by_cases h : q.1 = p
    · simp [h]
    · simp only [if_neg h, List.map_cons, ih]
theorem L2.mset_same {κ α : Type} [DecidableEq κ] {enc : κ → Value} {R : α → Value → Prop} {m : List (κ × α)} {es : List MapEntry} (h : L2 (fun (p : κ × α) (e : MapEntry) => e.key = enc p.1 ∧ R p.2 e.val) m es) {k : κ} {x x' : α} (hk : mlook m k = some x) (hx : ∀ v, R x v → R x' v) : L2 (fun (p : κ × α) (e : MapEntry) => e.key = enc p.1 ∧ R p.2 e.val) (mset m k x') es := by
  induction h with
  | nil => simp [mlook] at hk
  | cons hr hl ih =>
    rename_i p e l es'
    unfold mlook at hk
    unfold mset
    by_cases h : p.1 = k
    · rw [if_pos h] at hk ⊢
      injection hk with hk
      exact .cons ⟨by rw [hr.1, h], hx _ (hk ▸ hr.2)⟩ hl
    · rw [if_neg h] at hk ⊢
      exact .cons hr (ih hk)
theorem MapAt.mset_same {κ α : Type} [DecidableEq κ] {enc : κ → Value} {R : α → Value → Prop} {w : World} {b : Nat} {m : List (κ × α)} (h : MapAt enc R w b m) {k : κ} {x x' : α} (hk : mlook m k = some x) (hx : ∀ v, R x v → R x' v) : MapAt enc R w b (mset m k x') := by
  obtain ⟨es, clock, h1, h2, h3, h4⟩ := h
  exact ⟨es, clock, h1, L2.mset_same h2 hk hx, nodup_set k x' h3, h4⟩
theorem map_fst_mset_same {κ α β : Type} [DecidableEq κ] (f : α → β) {m : List (κ × α)} {k : κ} {x x' : α} (hk : mlook m k = some x) (hx : f x' = f x) : (mset m k x').map (fun p => f p.2) = m.map (fun p => f p.2) := by
  induction m with
  | nil => simp [mlook] at hk
  | cons p m ih =>
    unfold mlook at hk
    unfold mset
    by_cases h : p.1 = k
    · rw [if_pos h] at hk ⊢
      injection hk with hk
      simp [hx, ← hk]
    · rw [if_neg h] at hk ⊢
      simp [ih hk]
section
variable {w w1 w2 : World} {B : Bl} {S : St}
/-- A key's set has come to be. -/
theorem StoreAt.setBack (h : StoreAt w B S) {p : ByteArray} {nb : Nat} (hp : mlook S.back p = none) (hm : MapAt Value.string (fun (x : Nat × SetL) v => v = .map (some x.1)) w2 B.bb (mset S.back p (nb, []))) (hg : w.grownBy w2 (some B.bb)) (hnb : SetAt w nb []) (hf : nb ∉ [B.lb, B.bb, B.rb, B.stb] ++ S.back.map (fun p => p.2.1)) :
    StoreAt w2 B { S with back := mset S.back p (nb, []) } := by
  obtain ⟨⟨s1, s2, s3, s4, s5, s6⟩, s7, s8⟩ := St.sep h.nd
  obtain ⟨h1, h2, h3, h4, h5⟩ := h.mapw (b := B.bb) (by simp) hg
  refine ⟨h1, h5 (fun e => s1 e.symm), hm, fun q hq => ?_, h.roots.same (h4 _ (by simp) (fun e => s4 e.symm)), h.stamps.same (h4 _ (by simp) (fun e => s5 e.symm)), ?_⟩
  · rcases mem_mset' h.back.nodup hq with rfl | ⟨hq, _⟩
    · exact hnb.same (h3.block _ hnb.lt (fun e => hf (by rw [e]; simp)))
    · exact (h.sets q hq).same (h4 _ (List.mem_append_right _ (List.mem_map.2 ⟨q, hq, rfl⟩)) (s7 q hq).2.1)
  · have e : (mset S.back p (nb, [])).map (fun p => p.2.1) = S.back.map (fun p => p.2.1) ++ [nb] := by rw [mset_new hp]; simp
    show ([B.lb, B.bb, B.rb, B.stb] ++ (mset S.back p (nb, [])).map (fun p => p.2.1)).Nodup
    rw [e, ← List.append_assoc]
    exact List.nodup_append.2 ⟨h.nd, by simp, fun a ha b hb => by
      rw [List.mem_singleton] at hb
      subst hb
      rintro rfl
      exact hf ha⟩
/-- A key's set has been written. -/
theorem StoreAt.setInner (h : StoreAt w B S) {p : ByteArray} {b : Nat} {m m' : SetL} (hp : mlook S.back p = some (b, m)) (hm : SetAt w2 b m') (hg : w.grownBy w2 (some b)) :
    StoreAt w2 B { S with back := mset S.back p (b, m') } := by
  obtain ⟨⟨s1, s2, s3, s4, s5, s6⟩, s7, s8⟩ := St.sep h.nd
  have hmem := mlook_mem hp
  have hb := List.mem_append_right [B.lb, B.bb, B.rb, B.stb] (List.mem_map.2 ⟨_, hmem, rfl⟩ : b ∈ S.back.map (fun p => p.2.1))
  obtain ⟨h1, h2, h3, h4, h5⟩ := h.mapw hb hg
  obtain ⟨n1, n2, n3, n4⟩ := s7 _ hmem
  simp only at n1 n2 n3 n4
  have hnd : (mset S.back p (b, m')).map (fun p => p.2.1) = S.back.map (fun p => p.2.1) := map_fst_mset_same (fun (x : Nat × SetL) => x.1) hp rfl
  refine ⟨h1, h5 n1, (h.back.same (h4 _ (by simp) (fun e => n2 e.symm))).mset_same hp (fun v hv => hv), fun q hq => ?_, h.roots.same (h4 _ (by simp) (fun e => n3 e.symm)), h.stamps.same (h4 _ (by simp) (fun e => n4 e.symm)), ?_⟩
  · rcases mem_mset' h.back.nodup hq with rfl | ⟨hq, hne⟩
    · exact hm
    · refine (h.sets q hq).same (h4 _ (List.mem_append_right _ (List.mem_map.2 ⟨q, hq, rfl⟩)) (fun e => hne ?_))
      have := List.inj_on_of_nodup_map' s8 hq hmem e
      rw [this]
  · show ([B.lb, B.bb, B.rb, B.stb] ++ (mset S.back p (b, m')).map (fun p => p.2.1)).Nodup
    rw [hnd]; exact h.nd
end
end Go.Proofs.YtdhghaiifeienaaGreatDoor

/- The store (package db): link. -/
set_option linter.unusedVariables false
set_option linter.unusedSimpArgs false
namespace Go.Proofs.YtdhghaiifeienaaGreatDoor
open Go.RowKit Go.Proofs.YtdhghaiifeienaaGreatDoorW.PrintWords

/-- The maps of who refers to whom. -/
def BackF (B : Bl) (S : St) (k : Nat) : Prop := k = B.bb ∨ k ∈ S.back.map (fun p => p.2.1)
theorem BackF.maps {w : World} {B : Bl} {S : St} (h : StoreAt w B S) {k : Nat} (hk : BackF B S k) : k ∈ [B.lb, B.bb, B.rb, B.stb] ++ S.back.map (fun p => p.2.1) := by
  rcases hk with rfl | hk
  · simp
  · exact List.mem_append_right _ hk
theorem str_lit (W : World) (p : ByteArray) : Kd.string.R 9 (W.alloc (.cells #[.string p] 9)) W.heap.size tr (.slice (some ⟨W.heap.size, 0, none⟩) 1 1) [p] :=
  Kd.R_of_own (enc := Value.string) (h1 := fun _ => rfl) (by
    have := World.ownsRow_lit (base := W.heap.size) (e := 9) (size := 1) W #[.string p] 1 (Nat.le_refl _) (by unfold maxLen; omega) (by simp)
    simpa [encs] using this) (fun _ _ => trivial)
theorem str_lit_CT (W : World) (p : ByteArray) : CT D Kd.string (W.alloc (.cells #[.string p] 9)) (some ⟨W.heap.size, 0, none⟩) [p] := by
  obtain ⟨A, c, e, _, h⟩ := R_CT (D := D) (str_lit W p) (by decide)
  injection e with e _ _
  subst e
  exact h

theorem mset_mset {κ α : Type} [DecidableEq κ] (m : List (κ × α)) (k : κ) (x y : α) : mset (mset m k x) k y = mset m k y := by
  induction m with
  | nil => simp [mset]
  | cons p m ih =>
    by_cases h : p.1 = k
    · simp [mset, h]
    · simp [mset, h, ih]
set_option maxRecDepth 20000 in
theorem back_look {w : World} {B : Bl} {S : St} (h : StoreAt w B S) {p : ByteArray} {y : Nat × SetL} (hp : mlook S.back p = some y) (W : World) (hW : W.heap[B.bb]? = w.heap[B.bb]?) : (Instr.lookup 113 (.map (some B.bb)) (.string p) false).run Tryz.prog W = .ok (.map (some y.1)) W := by
  rcases MapAt.run_lookup strK h.back und_back zero_set p with ⟨h1, _⟩ | ⟨y', v, h1, rfl, h2⟩
  · rw [h1] at hp; cases hp
  · rw [h1] at hp
    injection hp with hp
    subst hp
    have := h2 false W hW
    simp only [Bool.false_eq_true, if_false] at this
    exact this
/-- A step of a link. -/
theorem link_step {w w2 W3 : World} {B : Bl} {S : St} {bk bk2 : List (ByteArray × (Nat × SetL))} {p path : ByteArray} {b : Nat} {m : SetL}
    (hS2 : StoreAt w2 B { S with back := bk2 }) (hl : mlook bk2 p = some (b, m)) (hab : linkA path (abk bk) p = mset (abk bk2) p (mset m path ()))
    (hM : Mut (BackF B S) w w2) (hnew : ∀ k, k ∈ bk2.map (fun p => p.2.1) → k ∈ S.back.map (fun p => p.2.1) ∨ w.heap.size ≤ k)
    (hm3 : SetAt W3 b (mset m path ())) (hg3 : w2.grownBy W3 (some b)) :
    StoreAt W3 B { S with back := mset bk2 p (b, mset m path ()) } ∧ abk (mset bk2 p (b, mset m path ())) = linkA path (abk bk) p ∧ Mut (BackF B S) w W3 ∧ (∀ k, k ∈ (mset bk2 p (b, mset m path ())).map (fun p => p.2.1) → k ∈ S.back.map (fun p => p.2.1) ∨ w.heap.size ≤ k) := by
  have hmem : b ∈ bk2.map (fun p => p.2.1) := List.mem_map.2 ⟨_, mlook_mem hl, rfl⟩
  refine ⟨hS2.setInner hl hm3 hg3, by rw [abk_mset, hab], hM.trans (grown_mut hg3) (fun k hk he => ?_), fun k hk => ?_⟩
  · subst he
    rcases hnew _ hmem with h | h
    · exact .inr h
    · omega
  · have e : (mset bk2 p (b, mset m path ())).map (fun p => p.2.1) = bk2.map (fun p => p.2.1) := map_fst_mset_same (fun (x : Nat × SetL) => x.1) hl rfl
    rw [e] at hk
    exact hnew k hk
theorem store_touch1 (w : World) (B : Bl) (S : St) (A : Option Addr) (c : Nat) (p : ByteArray) (h : StoreAt w B S) (hC : CT D Kd.string w A [p]) :
    Calls Tryz.prog 78 #[B.ptr, .slice A 1 c] w fun e w' => e = .returned (.tuple #[]) ∧ StoreAt w' B { S with stamps := touchL S.stamps [p] S.ver } ∧ Mut (fun k => k = B.stb) w w' := store_touch w B S A c [p] h hC (by simp)
set_option maxRecDepth 20000 in
set_option maxHeartbeats 4000000 in
theorem store_link (w : World) (B : Bl) (S : St) (x : Row) (v : Value) (h : StoreAt w B S) (hv : RowV w x v) (hl : x.refs.length ≤ 1000000) :
    Calls Tryz.prog 69 #[B.ptr, v] w fun e w' => e = .returned (.tuple #[]) ∧ ∃ bk, StoreAt w' B { S with back := bk, stamps := touchL (touchL S.stamps [x.path] S.ver) x.refs S.ver } ∧ abk bk = x.refs.foldl (linkA x.path) (abk S.back) ∧
      Mut (fun k => BackF B S k ∨ k = B.stb) w w' ∧ (∀ k, k ∈ bk.map (fun p => p.2.1) → k ∈ S.back.map (fun p => p.2.1) ∨ w.heap.size ≤ k) := by
  obtain ⟨A2, c2, A3, c3, rfl, h2, h3⟩ := hv.open_
  obtain ⟨_, _, e3, _, C3⟩ := R_CT (D := D) h3 (by decide)
  injection e3 with e3 _ e3c
  subst e3 e3c
  have HC3 := Lib.hid C3
  have HS := Lib.hid h
  have qn := fun (w : World) (r : Option Nat) => run_eql_map_nil (P := Tryz.prog) w 114 9 4 r und_set
  have qmk := @run_makeMap Tryz.prog
  have gB := heap_alloc_new w (.cells #[.string x.path, .string x.name, .slice A2 x.arch.length c2, .slice A3 x.refs.length c3] 44)
  have HG := Lib.hid gB
  obtain ⟨W0, hW0⟩ : ∃ W0, W0 = w.alloc (.cells #[.string x.path, .string x.name, .slice A2 x.arch.length c2, .slice A3 x.refs.length c3] 44) := ⟨_, rfl⟩
  have hS0 : StoreAt W0 B S := by rw [hW0]; exact h.alloc _
  have hB0 : Below w.heap.size w W0 := by rw [hW0]; go_grown
  rw [← hW0] at gB
  have H0 := Lib.hid (And.intro hS0 (And.intro hB0 gB))
  clear h h2 h3 C3 hv gB hS0 hB0
  have HGn := Lib.hid HG
  clear HG
  go_enter Tryz.func69, Tryz.ntmps69
  go_wp2_with fail
  rw [← hW0]
  clear hW0
  go_loopg [9] x.refs.length (fun n v9 w' => ∃ (i : Nat) (bk : List (ByteArray × (Nat × SetL))), v9 = .int .i64 (i : Int) ∧ Hid (n + i = x.refs.length ∧ StoreAt w' B { S with back := bk } ∧ abk bk = (x.refs.take i).foldl (linkA x.path) (abk S.back) ∧ Mut (BackF B S) W0 w' ∧ (∀ k, k ∈ bk.map (fun p => p.2.1) → k ∈ S.back.map (fun p => p.2.1) ∨ W0.heap.size ≤ k)))
  case atStart => exact ⟨0, S.back, rfl, by omega, H0.out.1, by simp, Mut.refl _ _, fun k hk => .inl hk⟩
  case round =>
    obtain ⟨i, bk, rfl, hrel⟩ := hrel
    obtain ⟨hn, hS, hab, hM, hnew⟩ := hrel.out
    clear hrel
    have hK : KeepT D W0 wr := hM.keepT (fun k C t fr hk hc => absurd hc ((H0.out.1.maps (BackF.maps H0.out.1 hk)).2 C t fr))
    have gB : wr.heap[w.heap.size]? = some (.cells #[.string x.path, .string x.name, .slice A2 x.arch.length c2, .slice A3 x.refs.length c3] 44 (0, 0)) := hM.at_ H0.out.2.2 (fun hk => (H0.out.1.maps (BackF.maps H0.out.1 hk)).2 _ _ _ H0.out.2.2)
    obtain ⟨b0, b1, b2, b3⟩ := cells4 gB
    rcases Nat.lt_or_ge i x.refs.length with hi | hi
    · obtain ⟨ad, rfl, d0⟩ := at_str' ((HC3.out.below H0.out.2.1).keep hK).now i hi
      obtain ⟨p, hp⟩ : ∃ p, p = x.refs.getD i ByteArray.empty := ⟨_, rfl⟩
      rw [← hp] at d0
      obtain ⟨c0, c1, c2', c3', c4⟩ := hS.cells
      have q0 : ((i : Int) < (x.refs.length : Int)) = True := eq_true (by omega)
      have HR := Lib.hid (And.intro hn (And.intro hS (And.intro hab (And.intro hM (And.intro hnew (And.intro hp gB))))))
      clear hn hab hM hnew hp hK gB
      rcases MapAt.run_lookup strK hS.back und_back zero_set p with ⟨h1, h2⟩ | ⟨y, v, h1, rfl, h2⟩
      · have h3 := h2 false wr rfl
        simp only [Bool.false_eq_true, if_false] at h3
        change (Instr.lookup _ (.map (some B.bb)) (.string p) false).run _ _ = _ at h3
        have H1 := Lib.hid h1
        clear hS h1 h2
        have hcn : wr.heap.size ∉ [B.lb, B.bb, B.rb, B.stb] ++ bk.map (fun p => p.2.1) := fun hk => Nat.lt_irrefl _ (HR.out.2.1.maps hk).1
        have HCN := Lib.hid hcn
        clear hcn
        go_wp2_with (at_mapUpdate; refine wp_mapUpdate_at strK rfl (.tmp 23) (.tmp 24) (.tmp 25) 113 rfl und_back rfl (HR.out.2.1.alloc (.map #[] 0)).back p rfl (wr.heap.size, []) _ rfl rfl ?_; intro w2 hm2 hg2 hs2)
        have hS2 := (HR.out.2.1.alloc (.map #[] 0)).setBack H1.out hm2 hg2 (MapAt.made _ _ wr) HCN.out
        have hl2 : mlook (mset bk p (wr.heap.size, [])) p = some (wr.heap.size, []) := by rw [mlook_set, if_pos rfl]
        have h4 := back_look hS2 hl2 w2 rfl
        have h4' := back_look hS2 hl2 w2.drew rfl
        have gB2 := blk_grown (blk_alloc HR.out.2.2.2.2.2.2 (.map #[] 0)) hg2 (by
          intro e
          injection e with e
          have hh := (HR.out.2.1.maps (k := B.bb) (by simp)).2
          rw [← e] at hh
          exact hh _ _ _ HR.out.2.2.2.2.2.2)
        have hM2 : Mut (BackF B S) W0 w2 := (HR.out.2.2.2.1.alloc (.map #[] 0)).trans (grown_mut hg2) (fun k _ hk => .inl hk)
        clear c0 c1 c2' c3' c4 b0 b1 b2 b3 h3
        obtain ⟨c0, c1, c2', c3', c4⟩ := hS2.cells
        obtain ⟨b0, b1, b2, b3⟩ := cells4 gB2
        have HW := Lib.hid (And.intro hS2 (And.intro hl2 hM2))
        clear hm2 hg2 hs2 hS2 hl2 gB2 hM2
        go_wp2_with fail
        go_still_tail 8, (by kernel_rfl)
        change wpList _ _ _ _ _ (World.drew _)
        refine wp_mapUpdate_at strK rfl (.tmp 31) (.tmp 33) (.const (.bool true)) 114 rfl und_set rfl (show MapAt strK.enc (fun _ v => v = .bool true) (World.drew w2) wr.heap.size ([] : SetL) from HW.out.1.sets _ (mlook_mem HW.out.2.1)) x.path rfl () _ rfl rfl ?_
        intro w4 hm4 hg4 hs4
        have HE := Lib.hid (link_step (path := x.path) HW.out.1 HW.out.2.1 (by unfold linkA; rw [abk_look, H1.out, abk_mset, mset_mset]; rfl) HW.out.2.2 (fun k hk => by
          rw [mset_new H1.out, List.map_append, List.mem_append] at hk
          rcases hk with hk | hk
          · exact HR.out.2.2.2.2.1 k hk
          · simp only [List.map_cons, List.map_nil, List.mem_singleton] at hk
            have := HR.out.2.2.2.1.size
            omega) hm4 (grown_undrew hg4))
        clear hm4 hg4 hs4
        go_wp2
        go_roundg (gk - 1)
        case measure => have := HR.out.1; omega
        case rel =>
          refine ⟨i + 1, _, by go_num, by have := HR.out.1; omega, HE.out.1, ?_, HE.out.2.2⟩
          rw [HE.out.2.1, HR.out.2.2.1, take_snoc x.refs i hi ByteArray.empty, List.foldl_append, ← HR.out.2.2.2.2.2.1]
          rfl
      · have h3 := h2 false wr rfl
        have h3' := h2 false wr.drew rfl
        simp only [Bool.false_eq_true, if_false] at h3 h3'
        change (Instr.lookup _ (.map (some B.bb)) (.string p) false).run _ _ = _ at h3
        change (Instr.lookup _ (.map (some B.bb)) (.string p) false).run _ _ = _ at h3'
        obtain ⟨yb, ym⟩ := y
        have H1 := Lib.hid h1
        clear hS h1 h2
        go_wp2_with fail
        go_still_tail 8, (by kernel_rfl)
        change wpList _ _ _ _ _ (World.drew _)
        refine wp_mapUpdate_at strK rfl (.tmp 31) (.tmp 33) (.const (.bool true)) 114 rfl und_set rfl (show MapAt strK.enc (fun _ v => v = .bool true) (World.drew wr) yb ym from HR.out.2.1.sets _ (mlook_mem H1.out)) x.path rfl () _ rfl rfl ?_
        intro w4 hm4 hg4 hs4
        have HE := Lib.hid (link_step (path := x.path) HR.out.2.1 H1.out (by unfold linkA; rw [abk_look, H1.out]; rfl) HR.out.2.2.2.1 HR.out.2.2.2.2.1 hm4 (grown_undrew hg4))
        clear hm4 hg4 hs4
        go_wp2
        go_roundg (gk - 1)
        case measure => have := HR.out.1; omega
        case rel =>
          refine ⟨i + 1, _, by go_num, by have := HR.out.1; omega, HE.out.1, ?_, HE.out.2.2⟩
          rw [HE.out.2.1, HR.out.2.2.1, take_snoc x.refs i hi ByteArray.empty, List.foldl_append, ← HR.out.2.2.2.2.2.1]
          rfl
    · obtain rfl : i = x.refs.length := by omega
      rw [List.take_length] at hab
      have HR := Lib.hid (And.intro hS (And.intro hab (And.intro hM (And.intro hnew (And.intro hK gB)))))
      clear hn hS hab hM hnew hK gB
      go_wp2_with (first
        | (go_at_call 78; (with_reducible refine (store_touch1 _ B _ _ 1 x.path (HR.out.1.alloc _) (str_lit_CT _ x.path)).mono ?_); rintro e w5 ⟨rfl, hS5, hM5⟩; have gB5 := hM5.at_ (blk_alloc HR.out.2.2.2.2.2 _) (fun e => HR.out.1.stamps.no_cells _ _ _ (e ▸ HR.out.2.2.2.2.2)); have hK5 := ((HR.out.2.2.2.2.1).alloc _).trans (hM5.keepT (fun k C t fr hk hc => absurd hc (by subst hk; exact (HR.out.1.alloc _).stamps.no_cells C t fr))); clear b0 b1 b2 b3; obtain ⟨b0, b1, b2, b3⟩ := cells4 gB5; have H5 := Lib.hid (And.intro hS5 (And.intro hM5 hK5)); clear hS5 hM5 hK5 gB5)
        | (go_at_call 78; (with_reducible refine (store_touch _ B _ A3 c3 x.refs H5.out.1 ((HC3.out.below H0.out.2.1).keep H5.out.2.2) hl).mono ?_); rintro e w6 ⟨rfl, hS6, hM6⟩))
      go_returns
      have hM : Mut (fun k => BackF B S k ∨ k = B.stb) w w6 := by
        refine (((((Mut.of_below H0.out.2.1).trans HR.out.2.2.1 (fun k _ hk => .inl hk)).alloc _).trans H5.out.2.1 (fun k _ hk => .inr hk)).trans hM6 (fun k _ hk => .inr hk))
      refine ⟨rfl, bk, hS6, HR.out.2.1, hM, fun k hk => ?_⟩
      rcases HR.out.2.2.2.1 k hk with h | h
      · exact .inl h
      · exact .inr (Nat.le_trans H0.out.2.1.size h)
end Go.Proofs.YtdhghaiifeienaaGreatDoor
