/- The book of claims (package claim): what lies in memory; what its functions do. -/
import Derived.Test.YtdhghaiifeienaaGreatDoorMS

/- The book of claims (package claim): what lies in memory; what its functions do. -/
set_option linter.unusedVariables false
set_option linter.unusedSimpArgs false
namespace Go.Proofs.YtdhghaiifeienaaGreatDoor
open Go.RowKit Go.Proofs.YtdhghaiifeienaaGreatDoorW.PrintWords

/-- A claim. -/
structure Clm where
  path : ByteArray
  stamp : Int
deriving DecidableEq
def kClm : Kd Clm := Kd.iso (Kd.pair Kd.string (Kd.int .u64)) (fun x : Clm => (x.path, x.stamp))
theorem kClm_openM {w : World} {base : Nat} {ok : Nat → Prop} {x : Clm} {cs : List Value} (h : kClm.M w base ok x cs) : cs = [.string x.path, .int .u64 x.stamp] := by
  obtain ⟨_, _, rfl, rfl, rfl⟩ := h
  rfl
theorem kClm_mkM (w : World) (base : Nat) (ok : Nat → Prop) (x : Clm) : kClm.M w base ok x [.string x.path, .int .u64 x.stamp] :=
  ⟨[.string x.path], [.int .u64 x.stamp], rfl, rfl, rfl⟩
theorem kClm_open {w : World} {x : Clm} {cs : List Value} (h : kClm.K w x cs) : cs = [.string x.path, .int .u64 x.stamp] := by
  obtain ⟨_, _, rfl, rfl, rfl⟩ := h
  rfl

abbrev BkM := List (Int × (Value × List Clm))
/-- An owner's row, and its claims. -/
def bkOf (m : BkM) (o : Int) : Value × List Clm := (mlook m o).getD (.slice none 0 0, [])
structure BookAt (w : World) (kb lb : Nat) (m : BkM) : Prop where
  blk : w.heap[kb]? = some (.cells #[.map (some lb)] 124 (0, 0))
  map : MapAt (Value.int .i64) (fun (x : Value × List Clm) v => v = x.1) w lb m
  rows : ∀ p ∈ m, kClm.R 57 w 0 tr p.2.1 p.2.2
  ne : ∀ p ∈ m, ∀ q ∈ m, p.1 ≠ q.1 → NeRow p.2.1 q.2.1
/-- The blocks of a book. -/
def BookF (kb lb : Nat) (m : BkM) (k : Nat) : Prop := k = kb ∨ k = lb ∨ ∃ p ∈ m, p.2.1.ownBlock = some k

theorem mem_mset {κ α : Type} [DecidableEq κ] {m : List (κ × α)} {k : κ} {v : α} {p : κ × α} (hn : (mkeys m).Nodup) (h : p ∈ mset m k v) : p = (k, v) ∨ (p ∈ m ∧ p.1 ≠ k) := by
  have h1 : mlook (mset m k v) p.1 = some p.2 := mem_mlook (nodup_set k v hn) h
  rw [mlook_set] at h1
  by_cases e : k = p.1
  · rw [if_pos e] at h1
    injection h1 with h1
    exact .inl (by rw [e, h1])
  · rw [if_neg e] at h1
    exact .inr ⟨mlook_mem h1, fun e' => e e'.symm⟩
theorem mem_mdel {κ α : Type} [DecidableEq κ] {m : List (κ × α)} {k : κ} {p : κ × α} (hn : (mkeys m).Nodup) (h : p ∈ mdel m k) : p ∈ m ∧ p.1 ≠ k := by
  refine ⟨mdel_mem h, fun e => ?_⟩
  have : p.1 ∈ mkeys (mdel m k) := List.mem_map.2 ⟨p, h, rfl⟩
  rw [mkeys_del m k hn] at this
  simp [e] at this

section
variable {w w1 : World} {kb lb : Nat} {m : BkM}
theorem BookAt.lt (h : BookAt w kb lb m) : kb < w.heap.size := blk_lt h.blk
theorem BookAt.of (h : BookAt w kb lb m) (o : Int) : kClm.R 57 w 0 tr (bkOf m o).1 (bkOf m o).2 := by
  unfold bkOf
  cases e : mlook m o with
  | none => exact Kd.R_nil _ _ _ _ _
  | some x => exact h.rows _ (mlook_mem e)
theorem BookAt.of_ne (h : BookAt w kb lb m) (o : Int) {p : Int × (Value × List Clm)} (hp : p ∈ m) (hne : p.1 ≠ o) : NeRow p.2.1 (bkOf m o).1 := by
  unfold bkOf
  cases e : mlook m o with
  | none => exact ne_nil' _
  | some x => exact h.ne _ hp _ (mlook_mem e) hne
theorem BookAt.F_lt (h : BookAt w kb lb m) {k : Nat} (hk : BookF kb lb m k) : k < w.heap.size := by
  rcases hk with rfl | rfl | ⟨p, hp, hk⟩
  · exact h.lt
  · exact h.map.lt
  · exact Kd.R_lt (h.rows p hp) _ hk
theorem BookAt.ne_l (h : BookAt w kb lb m) : kb ≠ lb := h.map.ne_cells h.blk
/-- A row's block is neither the book's own nor its map. -/
theorem row_ne {v : Value} {xs : List Clm} (hb : w.heap[kb]? = some (.cells #[.map (some lb)] 124 (0, 0))) (hr : kClm.R 57 w 0 tr v xs) : v.ownBlock ≠ some kb := fun e => Kd.R_ne hr hb (by decide) e.symm
theorem row_nel {v : Value} {xs : List Clm} {κ α : Type} {enc : κ → Value} {R : α → Value → Prop} {mm : List (κ × α)} (hm : MapAt enc R w lb mm) (hr : kClm.R 57 w 0 tr v xs) : v.ownBlock ≠ some lb := fun he => by
  obtain ⟨inner, ho⟩ := Kd.R_own hr
  obtain ⟨cells, hc⟩ := own_typed ho lb he
  exact hm.ne_cells hc rfl
theorem BookAt.typ (h : BookAt w kb lb m) (k : Nat) (C : Array Value) (t : TypeId) (fr : Nat × Nat) (hk : BookF kb lb m k) (hb : w.heap[k]? = some (Obj.cells C t fr)) : D t = false := by
  rcases hk with rfl | rfl | ⟨p, hp, hk⟩
  · rw [h.blk] at hb; injection hb with hb; injection hb with _ e _; subst e; decide
  · exact absurd hb (h.map.no_cells C t fr)
  · obtain ⟨inner, ho⟩ := Kd.R_own (h.rows p hp)
    obtain ⟨cells, hc⟩ := own_typed ho k hk
    rw [hc] at hb; injection hb with hb; injection hb with _ e _; subst e; decide
theorem R_kept {v : Value} {xs : List Clm} (hr : kClm.R 57 w 0 tr v xs) (hb : ∀ k, v.ownBlock = some k → w1.heap[k]? = w.heap[k]?) : kClm.R 57 w1 0 tr v xs := by
  obtain ⟨h0, inner, ho, hr⟩ := hr
  exact ⟨h0, inner, own_move ho hb, hr.imp_ (fun p c hc => by rw [kClm_openM hc]; exact kClm_mkM _ _ _ _)⟩
/-- Whatever leaves its blocks alone leaves the book. -/
theorem BookAt.move (h : BookAt w kb lb m) (hb : ∀ k, BookF kb lb m k → w1.heap[k]? = w.heap[k]?) : BookAt w1 kb lb m :=
  ⟨(hb _ (.inl rfl)).trans h.blk, h.map.same (hb _ (.inr (.inl rfl))), fun p hp => R_kept (h.rows p hp) (fun k hk => hb k (.inr (.inr ⟨p, hp, hk⟩))), h.ne⟩
theorem BookAt.below (h : BookAt w kb lb m) (hb : Below w.heap.size w w1) : BookAt w1 kb lb m := h.move (fun k hk => hb.block k (h.F_lt hk))
theorem BookAt.mut (h : BookAt w kb lb m) {G : Nat → Prop} (hM : Mut G w w1) (hG : ∀ k, BookF kb lb m k → ¬ G k) : BookAt w1 kb lb m := h.move (fun k hk => hM.block k (h.F_lt hk) (hG k hk))
/-- What a note leaves. -/
theorem BookAt.noted (h : BookAt w kb lb m) (o : Int) {v1 : Value} {c : Clm} {w2 : World} (hR : kClm.R 57 w1 0 tr v1 ((bkOf m o).2 ++ [c])) (hg : w.grownBy w1 (bkOf m o).1.ownBlock) (hat : v1.ownBlock = (bkOf m o).1.ownBlock ∨ ∃ b, v1.ownBlock = some b ∧ w.heap.size ≤ b)
    (hm2 : MapAt (Value.int .i64) (fun (x : Value × List Clm) v => v = x.1) w2 lb (mset m o (v1, (bkOf m o).2 ++ [c]))) (hg2 : w1.grownBy w2 (some lb)) :
    BookAt w2 kb lb (mset m o (v1, (bkOf m o).2 ++ [c])) ∧ Mut (BookF kb lb m) w w2 ∧ (∀ k, BookF kb lb (mset m o (v1, (bkOf m o).2 ++ [c])) k → BookF kb lb m k ∨ w.heap.size ≤ k) := by
  have hof := h.of o
  have hnew : ∀ k, v1.ownBlock = some k → BookF kb lb m k ∨ w.heap.size ≤ k := fun k hk => by
    rcases hat with e | ⟨b, e, hb⟩
    · rw [e] at hk
      unfold bkOf at hk
      cases e2 : mlook m o with
      | none => rw [e2] at hk; simp [Value.ownBlock] at hk
      | some x => rw [e2] at hk; exact .inl (.inr (.inr ⟨_, mlook_mem e2, hk⟩))
    · rw [e] at hk; injection hk with hk; exact .inr (by omega)
  have hkeep : ∀ p ∈ m, p.1 ≠ o → ∀ k, p.2.1.ownBlock = some k → w2.heap[k]? = w.heap[k]? := fun p hp hne k hk => by
    have hlt := Kd.R_lt (h.rows p hp) _ hk
    have e1 := hg.block k hlt (fun e => h.of_ne o hp hne k hk e.symm)
    have e2 := hg2.block k (by have := hg.size; omega) (fun e => by
      injection e with e
      exact row_nel h.map (h.rows p hp) (by rw [hk, e]))
    exact e2.trans e1
  have hmut : Mut (BookF kb lb m) w w2 := by
    refine (Mut.of_grown (F := BookF kb lb m) hg (fun k hk => ?_)).trans (grown_mut hg2) (fun k _ hk => .inr (.inl hk))
    unfold bkOf at hk
    cases e2 : mlook m o with
    | none => rw [e2] at hk; simp [Value.ownBlock] at hk
    | some x => rw [e2] at hk; exact .inr (.inr ⟨_, mlook_mem e2, hk⟩)
  refine ⟨⟨?_, hm2, fun p hp => ?_, fun p hp q hq hne => ?_⟩, hmut, fun k hk => ?_⟩
  · have e1 := hg.block kb h.lt (fun e => row_ne h.blk hof e.symm)
    have e2 := hg2.block kb (by have := hg.size; have := h.lt; omega) (fun e => by injection e with e; exact h.ne_l e)
    exact (e2.trans e1).trans h.blk
  · rcases mem_mset h.map.nodup hp with rfl | ⟨hp, hne⟩
    · refine R_kept hR (fun k hk => hg2.block k (Kd.R_lt hR _ hk) (fun e => ?_))
      injection e with e
      subst e
      rcases hnew _ hk with hf | hf
      · rcases hat with e | ⟨b, e, hb⟩
        · exact row_nel h.map hof (by rw [← e, hk])
        · rw [hk] at e; injection e with e; have := h.map.lt; omega
      · have := h.map.lt; omega
    · exact R_kept (h.rows p hp) (hkeep p hp hne)
  · rcases mem_mset h.map.nodup hp with rfl | ⟨hp, hpo⟩
    · rcases mem_mset h.map.nodup hq with rfl | ⟨hq, hqo⟩
      · exact absurd rfl hne
      · intro k hk hk2
        rcases hat with e | ⟨b, e, hb⟩
        · exact h.of_ne o hq hqo k hk2 (by rw [← e]; exact hk)
        · simp only at hk; rw [hk] at e; injection e with e; have := Kd.R_lt (h.rows q hq) _ hk2; omega
    · rcases mem_mset h.map.nodup hq with rfl | ⟨hq, hqo⟩
      · intro k hk hk2
        rcases hat with e | ⟨b, e, hb⟩
        · exact h.of_ne o hp hpo k hk (by rw [← e]; exact hk2)
        · simp only at hk2; rw [hk2] at e; injection e with e; have := Kd.R_lt (h.rows p hp) _ hk; omega
      · exact h.ne p hp q hq hne
  · rcases hk with hk | hk | ⟨p, hp, hk⟩
    · exact .inl (.inl hk)
    · exact .inl (.inr (.inl hk))
    · rcases mem_mset h.map.nodup hp with rfl | ⟨hp, _⟩
      · exact hnew k hk
      · exact .inl (.inr (.inr ⟨p, hp, hk⟩))
/-- What a drop leaves. -/
theorem BookAt.dropped (h : BookAt w kb lb m) (o : Int) {w2 : World} (hm2 : MapAt (Value.int .i64) (fun (x : Value × List Clm) v => v = x.1) w2 lb (mdel m o)) (hg2 : w.grownBy w2 (some lb)) :
    BookAt w2 kb lb (mdel m o) ∧ Mut (BookF kb lb m) w w2 ∧ (∀ k, BookF kb lb (mdel m o) k → BookF kb lb m k) := by
  refine ⟨⟨?_, hm2, fun p hp => ?_, fun p hp q hq => h.ne p (mdel_mem hp) q (mdel_mem hq)⟩, (grown_mut hg2).mono (fun k _ hk => .inr (.inl hk)), fun k hk => ?_⟩
  · exact (hg2.block kb h.lt (fun e => by injection e with e; exact h.ne_l e)).trans h.blk
  · have hp' := mdel_mem hp
    exact R_kept (h.rows p hp') (fun k hk => hg2.block k (Kd.R_lt (h.rows p hp') _ hk) (fun e => by
      injection e with e
      exact row_nel h.map (h.rows p hp') (by rw [hk, e])))
  · rcases hk with hk | hk | ⟨p, hp, hk⟩
    · exact .inl hk
    · exact .inr (.inl hk)
    · exact .inr (.inr ⟨p, mdel_mem hp, hk⟩)
end
noncomputable abbrev intK : Key Tryz.prog 3 Int := intKey und_int
end Go.Proofs.YtdhghaiifeienaaGreatDoor

/- The book of claims (package claim): its readers. -/
set_option linter.unusedVariables false
set_option linter.unusedSimpArgs false
namespace Go.Proofs.YtdhghaiifeienaaGreatDoor
open Go.RowKit Go.Proofs.YtdhghaiifeienaaGreatDoorW.PrintWords

theorem cell_below' {w w1 : World} {a : Addr} {v : Value} (h : w.cell? a = some v) (hb : Below w.heap.size w w1) : w1.cell? a = some v := by
  have hl := World.block_lt_of_cell? w _ h
  unfold World.cell? at h ⊢
  rw [hb.block _ hl]; exact h
theorem clone_clm (w : World) (A : Option Addr) (xs : List Clm) (c : Nat) (hC : kClm.C w A xs.length xs) (hl : xs.length ≤ 1000000) :
    Calls Tryz.prog 72 #[.slice A xs.length c] w fun e w' => ∃ v, e = .returned v ∧ kClm.R 57 w' w.heap.size tr v xs ∧ Below w.heap.size w w' := by
  have he := fun W => Lib.run_eql_slice_nil (P := Tryz.prog) W 53 57 A xs.length c 0 0 und_claiml
  rcases A with _ | a
  · obtain rfl : xs = [] := C_none hC
    simp only [List.length_nil, Option.isNone_none] at he ⊢
    clear hC hl
    go_enter Tryz.func72, Tryz.ntmps72
    go_wp2
    go_returns
    exact ⟨_, rfl, Kd.R_nil _ _ _ _ _, Below.refl _ _⟩
  · have HC := Lib.hid (Kd.C_alloc hC (.cells #[] 57))
    have HR := Lib.hid (R_empty kClm 57 w w.heap.size (Nat.le_refl _))
    have HL := Lib.hid hl
    clear hC hl
    go_enter Tryz.func72, Tryz.ntmps72
    go_wp2_with (at_builtin; refine Kd.R_append_rows kClm (Rr := kClm.K (w.alloc (.cells #[] 57))) (w0 := w) w.heap.size rfl (.tmp 5) (.tmp 6) 53 57 _ 24 rfl und_claiml info_claim rfl (by decide) (by decide) _ [] xs (some a) xs.length c tr (fun _ => False) rfl rfl HR.out HC.out (fun p cs h => by rw [kClm_open h]; exact kClm_mkM _ _ _ _) (fun _ hk => hk.elim) (fun _ _ => trivial) (below_alloc (Below.refl _ _) _) (by simp) (by have := HL.out; simp; omega) ?_; intro v1 w1 hR hb hg hat)
    go_returns
    exact ⟨_, rfl, by rw [List.nil_append] at hR; exact hR, hb⟩

theorem book_lookup {w : World} {kb lb : Nat} {m : BkM} (h : BookAt w kb lb m) (o : Int) (W : World) (hW : W.heap[lb]? = w.heap[lb]?) : (Instr.lookup 122 (.map (some lb)) (.int .i64 o) false).run Tryz.prog W = .ok (bkOf m o).1 W := by
  rcases MapAt.run_lookup intK h.map und_book zero_claims o with ⟨h1, h2⟩ | ⟨y', v, h1, rfl, h2⟩
  · unfold bkOf
    rw [h1]
    have := h2 false W hW
    simp only [Bool.false_eq_true, if_false] at this
    exact this
  · unfold bkOf
    rw [h1]
    have := h2 false W hW
    simp only [Bool.false_eq_true, if_false] at this
    exact this

theorem book_of (w : World) (kb lb : Nat) (m : BkM) (o : Int) (h : BookAt w kb lb m) (hl : (bkOf m o).2.length ≤ 1000000) :
    Calls Tryz.prog 25 #[.pointer (some ⟨kb, 0, none⟩), .int .i64 o] w fun e w' => ∃ v, e = .returned v ∧ kClm.R 57 w' w.heap.size tr v (bkOf m o).2 ∧ Below w.heap.size w w' := by
  have c0 : w.cell? ⟨kb, 0, none⟩ = some (.map (some lb)) := (blk_cell h.blk 0).trans rfl
  have h3 := book_lookup h o w rfl
  have hof := h.of o
  obtain ⟨A, c, e, _, hC⟩ := Kd.R_reads hof
  obtain ⟨xs, hxs⟩ : ∃ xs, xs = (bkOf m o).2 := ⟨_, rfl⟩
  rw [e] at h3
  rw [← hxs] at h3 hC hl ⊢
  have HC := Lib.hid hC
  clear h hof e hC hxs
  go_enter Tryz.func25, Tryz.ntmps25
  go_wp2_with (go_at_call 72; (with_reducible refine (clone_clm _ A xs c HC.out hl).mono ?_); rintro e w' ⟨v, rfl, hR, hb⟩)
  go_returns
  exact ⟨_, rfl, hR, hb⟩
theorem book_of_nil (w : World) (o : Int) : Calls Tryz.prog 25 #[.pointer none, .int .i64 o] w fun e w' => e = .returned (.slice none 0 0) ∧ w = w' := by
  go_enter Tryz.func25, Tryz.ntmps25
  go_wp2
  go_returns
  exact ⟨rfl, rfl⟩
theorem book_note_nil (w : World) (o : Int) (p : ByteArray) (at' : Int) : Calls Tryz.prog 22 #[.pointer none, .int .i64 o, .string p, .int .u64 at'] w fun e w' => e = .returned (.tuple #[]) ∧ w = w' := by
  go_enter Tryz.func22, Tryz.ntmps22
  go_wp2
  go_returns
  exact ⟨rfl, rfl⟩
theorem book_drop_nil (w : World) (o : Int) : Calls Tryz.prog 26 #[.pointer none, .int .i64 o] w fun e w' => e = .returned (.tuple #[]) ∧ w = w' := by
  go_enter Tryz.func26, Tryz.ntmps26
  go_wp2
  go_returns
  exact ⟨rfl, rfl⟩
theorem book_owners_nil (w : World) : Calls Tryz.prog 27 #[.pointer none] w fun e w' => e = .returned (.slice none 0 0) ∧ w = w' := by
  go_enter Tryz.func27, Tryz.ntmps27
  go_wp2
  go_returns
  exact ⟨rfl, rfl⟩
theorem book_drop (w : World) (kb lb : Nat) (m : BkM) (o : Int) (h : BookAt w kb lb m) :
    Calls Tryz.prog 26 #[.pointer (some ⟨kb, 0, none⟩), .int .i64 o] w fun e w' => e = .returned (.tuple #[]) ∧ BookAt w' kb lb (mdel m o) ∧ Mut (BookF kb lb m) w w' ∧ (∀ k, BookF kb lb (mdel m o) k → BookF kb lb m k) := by
  have c0 : w.cell? ⟨kb, 0, none⟩ = some (.map (some lb)) := (blk_cell h.blk 0).trans rfl
  have H := Lib.hid h
  clear h
  go_enter Tryz.func26, Tryz.ntmps26
  go_wp2_with (at_delete; refine wp_delete_at intK rfl (.tmp 9) (.tmp 10) 122 rfl und_book rfl H.out.map o rfl ?_; intro w2 hm2 hg2 hs2)
  go_returns
  exact ⟨rfl, H.out.dropped o hm2 hg2⟩
theorem book_new (w : World) :
    Calls Tryz.prog 21 #[] w fun e w' => ∃ kb lb, e = .returned (.pointer (some ⟨kb, 0, none⟩)) ∧ BookAt w' kb lb [] ∧ w.heap.size ≤ kb ∧ w.heap.size ≤ lb ∧ Below w.heap.size w w' := by
  have hmm := @run_makeMap Tryz.prog
  go_enter Tryz.func21, Tryz.ntmps21
  go_wp2
  go_returns
  refine ⟨w.heap.size + 1, w.heap.size, rfl, ⟨?_, ?_, by simp, by simp⟩, by omega, by omega, by go_grown⟩
  · have := heap_alloc_new (w.alloc (.map #[] 0)) (.cells #[.map (some w.heap.size)] 124)
    simpa using this
  · exact (MapAt.made _ _ w).same (Below.heap_alloc _ _ _ (by simp))
end Go.Proofs.YtdhghaiifeienaaGreatDoor

/- The book of claims (package claim): Fresh. -/
set_option linter.unusedVariables false
set_option linter.unusedSimpArgs false
namespace Go.Proofs.YtdhghaiifeienaaGreatDoor
open Go.RowKit Go.Proofs.YtdhghaiifeienaaGreatDoorW.PrintWords

theorem clm_at {w : World} {A : Option Addr} {n : Nat} {xs : List Clm} (h : kClm.C w A n xs) (i : Nat) (h1 : i < n) :
    ∃ ad, A = some ad ∧ w.cell? (ad.add (i * 2)) = some (.string (xs.getD i ⟨⟨#[]⟩, 0⟩).path) ∧ w.cell? ⟨(ad.add (i * 2)).block, (ad.add (i * 2)).off + 1, none⟩ = some (.int .u64 (xs.getD i ⟨⟨#[]⟩, 0⟩).stamp) := by
  obtain ⟨ad, c, e, _, hK, hc⟩ := Kd.C_get h ⟨⟨#[]⟩, 0⟩ (i : Int) (by omega) (by omega)
  rw [Int.toNat_natCast] at hK hc
  rw [kClm_open hK] at hc
  have e2 : kClm.sz = 2 := rfl
  rw [e2] at hc
  refine ⟨ad, e, by simpa using hc 0 _ rfl, ?_⟩
  have := hc 1 _ rfl
  rwa [add_field _ _ _ (by omega)] at this
/-- Where a store's pointer lies: a store, or none. -/
def StOr (w : World) (sv : Value) (st : List (ByteArray × Int)) : Prop := (sv = .pointer none ∧ st = []) ∨ ∃ B S, sv = Bl.ptr B ∧ StoreAt w B S ∧ S.stamps = st
theorem StOr.below {w w1 : World} {sv : Value} {st : List (ByteArray × Int)} (h : StOr w sv st) (hb : Below w.heap.size w w1) : StOr w1 sv st := by
  rcases h with h | ⟨B, S, h1, h2, h3⟩
  · exact .inl h
  · exact .inr ⟨B, S, h1, h2.below hb, h3⟩
theorem StOr.ptr {w : World} {sv : Value} {st : List (ByteArray × Int)} (h : StOr w sv st) : ∃ a, sv = .pointer a := by
  rcases h with ⟨h, _⟩ | ⟨B, S, h1, h2, h3⟩
  · exact ⟨_, h⟩
  · exact ⟨_, h1⟩
theorem stamp_nil (w : World) (p : ByteArray) : Calls Tryz.prog 23 #[.pointer none, .string p] w fun e w' => e = .returned (.int .u64 0) ∧ w = w' := by
  go_enter Tryz.func23, Tryz.ntmps23
  go_wp2
  go_returns
  exact ⟨rfl, rfl⟩
theorem stamp_any (w : World) (sv : Value) (st : List (ByteArray × Int)) (p : ByteArray) (h : StOr w sv st) : Calls Tryz.prog 23 #[sv, .string p] w fun e w' => e = .returned (.int .u64 ((mlook st p).getD 0)) ∧ w' = w := by
  rcases h with ⟨rfl, rfl⟩ | ⟨B, S, rfl, h2, rfl⟩
  · exact (stamp_nil w p).mono fun e w' h => ⟨h.1, h.2.symm⟩
  · exact (store_stamp w B S p h2).mono fun e w' h => ⟨h.1, h.2.symm⟩
/-- Has a claim's path been touched since? -/
def staleB (st : List (ByteArray × Int)) (c : Clm) : Bool := (mlook st c.path).getD 0 != c.stamp
theorem fresh1 (w : World) (g : Nat) (sv : Value) (st : List (ByteArray × Int)) (c : Clm) (h : StOr w sv st) (hg : w.cell? ⟨g, 0, none⟩ = some sv) :
    Calls Tryz.prog 71 #[.agg #[.string c.path, .int .u64 c.stamp], .pointer (some ⟨g, 0, none⟩)] w fun e w' => e = .returned (.bool (staleB st c)) ∧ Below w.heap.size w w' := by
  have hst := fun W hW => Lib.hid (stamp_any W sv st c.path (h.below hW))
  have HST := Lib.hid hst
  obtain ⟨a, rfl⟩ := h.ptr
  have hlt := World.block_lt_of_cell? w _ hg
  obtain ⟨s0, hs0⟩ : ∃ s, s = (mlook st c.path).getD 0 := ⟨_, rfl⟩
  have HS := Lib.hid hs0
  rw [← hs0] at HST
  clear hst h hs0
  go_enter Tryz.func71, Tryz.ntmps71
  go_wp2_with fail
  go_quiet ((go_at_call 23; with_reducible exact Calls.quiet_of_same (HST.out _ (pw_below_drewN (below_alloc (Below.refl _ _) _) _)).out))
  go_wp2
  go_returns
  refine ⟨?_, pw_below_drewN (below_alloc (Below.refl _ _) _) _⟩
  unfold staleB
  rw [← HS.out]
  rfl
set_option maxRecDepth 20000 in
theorem indexFunc_clm (w : World) (g : Nat) (sv : Value) (st : List (ByteArray × Int)) (A : Option Addr) (c : Nat) (xs : List Clm) (h : StOr w sv st) (hg : w.cell? ⟨g, 0, none⟩ = some sv) (hC : kClm.C w A xs.length xs) (hl : xs.length ≤ 1000000) :
    Calls Tryz.prog 114 #[.slice A xs.length c, .func (.func 71) #[] #[.pointer (some ⟨g, 0, none⟩)]] w fun e w' => ∃ r : Int, e = .returned (.int .i64 r) ∧ decide (0 ≤ r) = xs.any (staleB st) ∧ Below w.heap.size w w' := by
  have H := Lib.hid (And.intro h (And.intro hg hC))
  clear h hg hC
  go_enter Tryz.func114, Tryz.ntmps114
  go_wp2
  go_loopg [8] xs.length (fun n v8 w' => ∃ i : Nat, v8 = .int .i64 (i : Int) ∧ Hid (n + i = xs.length ∧ (xs.take i).any (staleB st) = false ∧ Below w.heap.size w w'))
  case atStart => exact ⟨0, rfl, by omega, by simp, Below.refl _ _⟩
  case round =>
    obtain ⟨i, rfl, hrel⟩ := hrel
    obtain ⟨hn, hany, hB⟩ := hrel.out
    clear hrel
    rcases Nat.lt_or_ge i xs.length with hi | hi
    · obtain ⟨ad, rfl, d0, d1⟩ := clm_at (Kd.C_below H.out.2.2 hB) i hi
      obtain ⟨x, hx⟩ : ∃ x, x = xs.getD i ⟨⟨#[]⟩, 0⟩ := ⟨_, rfl⟩
      rw [← hx] at d0 d1
      have q0 : ((i : Int) < (xs.length : Int)) = True := eq_true (by omega)
      have hg' := cell_below' H.out.2.1 hB
      have HR := Lib.hid (And.intro hn (And.intro hany (And.intro hB (And.intro hx (And.intro hg' (H.out.1.below hB))))))
      clear hn hany hB hx hg'
      cases hs : staleB st x
      · have HS := Lib.hid hs
        have hc1 := fresh1 wr g sv st x HR.out.2.2.2.2.2 HR.out.2.2.2.2.1
        rw [hs] at hc1
        have HC1 := Lib.hid hc1
        clear hs hc1
        go_wp2_with (go_at_call 71; (with_reducible refine HC1.out.mono ?_); rintro e w' ⟨rfl, hb⟩)
        go_roundg (gk - 1)
        case measure => have := HR.out.1; omega
        case rel =>
          refine ⟨i + 1, by go_num, by have := HR.out.1; omega, ?_, HR.out.2.2.1.trans (hb.mono (below_size HR.out.2.2.1))⟩
          have e : xs.take (i + 1) = xs.take i ++ [x] := by rw [HR.out.2.2.2.1, List.take_add_one, List.getD_eq_getElem?_getD, List.getElem?_eq_getElem hi]; rfl
          rw [e, List.any_append, HR.out.2.1, List.any_cons, List.any_nil, HS.out]
          rfl
      · have HS := Lib.hid hs
        have hc1 := fresh1 wr g sv st x HR.out.2.2.2.2.2 HR.out.2.2.2.2.1
        rw [hs] at hc1
        have HC1 := Lib.hid hc1
        clear hs hc1
        go_wp2_with (go_at_call 71; (with_reducible refine HC1.out.mono ?_); rintro e w' ⟨rfl, hb⟩)
        go_returns
        refine ⟨i, rfl, ?_, HR.out.2.2.1.trans (hb.mono (below_size HR.out.2.2.1))⟩
        rw [decide_eq_true (by omega)]
        symm
        rw [List.any_eq_true]
        exact ⟨x, by rw [HR.out.2.2.2.1, List.getD_eq_getElem?_getD, List.getElem?_eq_getElem hi]; exact List.getElem_mem hi, HS.out⟩
    · obtain rfl : i = xs.length := by omega
      rw [List.take_length] at hany
      have HR := Lib.hid (And.intro hany hB)
      clear hn hany hB
      go_wp2
      go_returns
      exact ⟨-1, rfl, by rw [HR.out.1]; rfl, HR.out.2⟩
theorem containsFunc_clm (w : World) (g : Nat) (sv : Value) (st : List (ByteArray × Int)) (A : Option Addr) (c : Nat) (xs : List Clm) (h : StOr w sv st) (hg : w.cell? ⟨g, 0, none⟩ = some sv) (hC : kClm.C w A xs.length xs) (hl : xs.length ≤ 1000000) :
    Calls Tryz.prog 70 #[.slice A xs.length c, .func (.func 71) #[] #[.pointer (some ⟨g, 0, none⟩)]] w fun e w' => e = .returned (.bool (xs.any (staleB st))) ∧ Below w.heap.size w w' := by
  have H := Lib.hid (indexFunc_clm w g sv st A c xs h hg hC hl)
  clear h hg hC
  go_enter Tryz.func70, Tryz.ntmps70
  go_wp2_with (go_at_call 114; (with_reducible refine H.out.mono ?_); rintro e w' ⟨r, rfl, hr, hb⟩)
  go_returns
  exact ⟨by rw [← hr]; rfl, hb⟩
theorem containsFunc_clm0 (w : World) (g : Nat) (sv : Value) (st : List (ByteArray × Int)) (h : StOr w sv st) (hg : w.cell? ⟨g, 0, none⟩ = some sv) :
    Calls Tryz.prog 70 #[.slice none 0 0, .func (.func 71) #[] #[.pointer (some ⟨g, 0, none⟩)]] w fun e w' => e = .returned (.bool false) ∧ Below w.heap.size w w' := containsFunc_clm w g sv st none 0 [] h hg (Kd.C_nil _ _) (by simp)
theorem book_fresh (w : World) (kb lb : Nat) (m : BkM) (o : Int) (sa : Option Addr) (st : List (ByteArray × Int)) (h : BookAt w kb lb m) (hs : StOr w (.pointer sa) st) (hl : (bkOf m o).2.length ≤ 1000000) :
    Calls Tryz.prog 24 #[.pointer (some ⟨kb, 0, none⟩), .int .i64 o, .pointer sa] w fun e w' => e = .returned (.bool (!(bkOf m o).2.any (staleB st))) ∧ Below w.heap.size w w' := by
  have H := Lib.hid (And.intro h hs)
  obtain ⟨xs, hxs⟩ : ∃ xs, xs = (bkOf m o).2 := ⟨_, rfl⟩
  have HX := Lib.hid hxs
  rw [← hxs] at hl ⊢
  have hnew := heap_alloc_new w (.cells #[.pointer sa] 37)
  have HN := Lib.hid hnew
  clear h hs hxs hnew
  go_enter Tryz.func24, Tryz.ntmps24
  go_wp2_with (first
    | (go_at_call 25; (with_reducible refine (book_of _ kb lb m o (H.out.1.below (below_alloc (Below.refl _ _) _)) (by have := HX.out; rw [← this]; exact hl)).mono ?_); rw [← HX.out]; rintro e w1 ⟨v, rfl, hR, hb⟩; obtain ⟨A1, c1, rfl, _, hC1⟩ := Kd.R_reads hR; have hg1 : w1.cell? ⟨w.heap.size, 0, none⟩ = some (.pointer sa) := (cell_below' ((blk_cell HN.out 0).trans rfl) hb); have H1 := Lib.hid (And.intro hC1 (And.intro hb hg1)); clear hR hC1 hb hg1)
    | (go_at_call 70; (with_reducible refine (containsFunc_clm _ w.heap.size (.pointer sa) st A1 c1 xs ((H.out.2.below (below_alloc (Below.refl _ _) _)).below H1.out.2.1) H1.out.2.2 H1.out.1 hl).mono ?_); rintro e w2 ⟨rfl, hb2⟩))
  go_returns
  have hb := H1.out.2.1
  exact ⟨rfl, ((below_alloc (Below.refl _ _) _).trans (hb.mono (by simp))).trans (hb2.mono (by have := hb.size; simp at this; omega))⟩
theorem book_fresh_nil (w : World) (o : Int) (sa : Option Addr) (st : List (ByteArray × Int)) (hs : StOr w (.pointer sa) st) :
    Calls Tryz.prog 24 #[.pointer none, .int .i64 o, .pointer sa] w fun e w' => e = .returned (.bool true) ∧ Below w.heap.size w w' := by
  have H := Lib.hid hs
  have hnew := heap_alloc_new w (.cells #[.pointer sa] 37)
  have HN := Lib.hid (show (w.alloc (.cells #[.pointer sa] 37)).cell? ⟨w.heap.size, 0, none⟩ = some (.pointer sa) from (blk_cell hnew 0).trans rfl)
  clear hs hnew
  go_enter Tryz.func24, Tryz.ntmps24
  go_wp2_with (first
    | (go_at_call 25; (with_reducible refine (book_of_nil _ o).mono ?_); rintro e w1 ⟨rfl, rfl⟩)
    | (go_at_call 70; (with_reducible refine (containsFunc_clm0 _ w.heap.size (.pointer sa) st (H.out.below (below_alloc (Below.refl _ _) _)) HN.out).mono ?_); rintro e w2 ⟨rfl, hb2⟩))
  go_returns
  exact ⟨rfl, (below_alloc (Below.refl _ _) _).trans (hb2.mono (by simp))⟩
end Go.Proofs.YtdhghaiifeienaaGreatDoor

/- The book of claims (package claim): Note. -/
set_option linter.unusedVariables false
set_option linter.unusedSimpArgs false
namespace Go.Proofs.YtdhghaiifeienaaGreatDoor
open Go.RowKit Go.Proofs.YtdhghaiifeienaaGreatDoorW.PrintWords

section
variable {κ α : Type} [DecidableEq κ] {P : Program} {kt et : TypeId} (K : Key P kt κ) {R : α → Value → Prop} {W : World} {b : Nat} {m : List (κ × α)}
variable {ops : Array Oper} {o : Oper} {a : Act} {Q : Exit → Act → World → Prop} {Kc : Act → World → Prop}
theorem mapUpdate_step (hw : Region.wanted o (yielded ops a.tmps) = true) (mo ko vo : Operand) (t : TypeId) (hop : o.op = .mapUpdate t mo ko vo) (ht : P.underlying t = some (.map kt et))
    (hm : a.eval mo = .map (some b)) (hat : MapAt K.enc R W b m) (k : κ) (hk : a.eval ko = K.enc k) (x : α) (v : Value) (hv : a.eval vo = v) (hR : R x v)
    (h : ∀ w1, MapAt K.enc R w1 b (mset m k x) → W.grownBy w1 (some b) → w1.heap.size = W.heap.size → Kc (a.put o.dst undef) w1) :
    if Region.wanted o (yielded ops a.tmps) = true then Oper.wp P o a W Kc Q else Kc (a.put o.dst undef) W := by
  rw [if_pos hw]
  obtain ⟨w1, hrun, r1, r2, r3⟩ := hat.run_update K ht k hR
  unfold Oper.wp
  simp [execOp, hop, hm, hk, hv, hrun, Result.andThen]
  exact h w1 r1 r2 r3
end
set_option maxRecDepth 20000 in
set_option maxHeartbeats 4000000 in
theorem book_note (w : World) (kb lb : Nat) (m : BkM) (o : Int) (p : ByteArray) (at' : Int) (h : BookAt w kb lb m) (hl : (bkOf m o).2.length ≤ 1000000) :
    Calls Tryz.prog 22 #[.pointer (some ⟨kb, 0, none⟩), .int .i64 o, .string p, .int .u64 at'] w fun e w' => e = .returned (.tuple #[]) ∧ ∃ v1, BookAt w' kb lb (mset m o (v1, (bkOf m o).2 ++ [⟨p, at'⟩])) ∧ Mut (BookF kb lb m) w w' ∧ (∀ k, BookF kb lb (mset m o (v1, (bkOf m o).2 ++ [⟨p, at'⟩])) k → BookF kb lb m k ∨ w.heap.size ≤ k) := by
  have c0 : w.cell? ⟨kb, 0, none⟩ = some (.map (some lb)) := (blk_cell h.blk 0).trans rfl
  have H := Lib.hid h
  have h3 := book_lookup h o
  have hof := h.of o
  obtain ⟨A, c, e⟩ := Kd.R_slice hof
  rw [e] at h3
  have HE := Lib.hid e
  obtain ⟨n, hn⟩ : ∃ n, n = (bkOf m o).2.length := ⟨_, rfl⟩
  rw [← hn] at h3
  have HN := Lib.hid hn
  have h4 := h3 w.drew rfl
  have h5 := h3 (w.drew.alloc (.cells #[.string p, .int .u64 at'] 57)) (Below.heap_alloc _ _ lb (by have := h.map.lt; simpa using this))
  have h6 := h3 (w.alloc (.cells #[.string p, .int .u64 at'] 57)).drew (Below.heap_alloc _ _ lb h.map.lt)
  clear h hof e hn h3
  go_enter Tryz.func22, Tryz.ntmps22
  go_wp2_with fail
  go_region_held3 (fun w' => w'.cell? ⟨kb, 0, none⟩ = some (.map (some lb))) (go_keep) (first
    | (refine R_app_step kClm (W := w.drew) rfl (.tmp 20) (.tmp 24) 53 57 _ 24 rfl und_claiml info_claim rfl (by decide) (by decide) (by decide) (.slice A n c) (bkOf m o).2 ⟨p, at'⟩ [.string p, .int .u64 at'] ?_ ?_ ?_ ?_ ?_ ?_; (rfl); (rfl); (exact kClm_mkM _ _ _ _); (rw [HN.out, ← HE.out]; exact Kd.R_drew (H.out.of o)); (omega); intro v1 w1 hR hg hat; rw [HN.out, ← HE.out] at hg hat; replace hg := grown_undrew hg; have e1 := blk_grown H.out.blk hg (fun e => row_ne H.out.blk (H.out.of o) e.symm); have d0 : w1.cell? ⟨kb, 0, none⟩ = some (.map (some lb)) := (blk_cell e1 0).trans rfl; have hm1 : MapAt (Value.int .i64) (fun (x : Value × List Clm) v => v = x.1) w1 lb m := H.out.map.same (hg.block lb H.out.map.lt (fun e => row_nel H.out.map (H.out.of o) e.symm)); obtain ⟨w2, hrun, hm2, hg2, hs2⟩ := MapAt.run_update intK hm1 und_book o (x := (v1, (bkOf m o).2 ++ [⟨p, at'⟩])) (v := v1) rfl; change (Instr.mapUpdate _ (.map (some lb)) (.int .i64 o) v1).run _ _ = _ at hrun; have d2 : w2.cell? ⟨kb, 0, none⟩ = some (.map (some lb)) := (blk_cell (blk_grown e1 hg2 (fun e => by (injection e with e; exact H.out.ne_l e))) 0).trans rfl; have H1 := Lib.hid (And.intro hR (And.intro hg (And.intro hat (And.intro e1 hm1)))); have H2 := Lib.hid (And.intro hm2 hg2); clear hR hg hat e1 hm1 hm2 hg2 hs2))
  all_goals
    go_wp2
    go_returns
    obtain ⟨hR, hg, hat, e1, hm1⟩ := H1.out
    exact ⟨rfl, v1, H.out.noted o hR hg hat H2.out.1 H2.out.2⟩
end Go.Proofs.YtdhghaiifeienaaGreatDoor
