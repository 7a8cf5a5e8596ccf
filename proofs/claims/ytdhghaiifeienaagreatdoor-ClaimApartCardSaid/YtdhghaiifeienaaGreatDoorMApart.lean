/-
  PROVED: godownlaw16.ClaimApart returns true for every input (two owners, a path, a count), its arguments reading as they read before; the tied card of that statement.
  CONDITIONS: the listed variables (godown/hash.first, godown/hash.keys, unicode/utf8.acceptRanges, unicode/utf8.first) read as their initialisers lay them when the call begins; no other premise.
-/
import Derived.Test.YtdhghaiifeienaaGreatDoorMK
import Derived.Test.YtdhghaiifeienaaGreatDoorME
import Derived.Test.YtdhghaiifeienaaGreatDoorTie
import Derived.Test.YtdhghaiifeienaaGreatDoorCards
import Derived.SevenTiedAt

/- The book of claims (package claim): Owners. -/
set_option linter.unusedVariables false
set_option linter.unusedSimpArgs false
namespace Go.Proofs.YtdhghaiifeienaaGreatDoor
open Go.RowKit Go.Proofs.YtdhghaiifeienaaGreatDoorW.PrintWords Go.Maps Go.Sort Go.Shelf Go.WideElems

/-- Numbers, rising. -/
def srtI (xs : List Int) : List Int := xs.mergeSort leI
/-- A map whose keys are numbers, as the shelf sees it. -/
theorem owns_of_mapI {α : Type} {R : α → Value → Prop} {w : World} {b : Nat} {m : List (Int × α)} (h : MapAt (Value.int .i64) R w b m) (hk : ∀ k ∈ mkeys m, (Lit.int .i64 k).wf = true) (hn : m.length ≤ maxLen) :
    ∃ D0 : DataW Unit, w.ownsMap Tryz.prog 3 (fun _ => some (.nil, [])) b m.length D0 ∧ (intKeys D0).Perm (mkeys m) ∧ Maps.size D0 = m.length := by
  obtain ⟨es, clock, hb, hl, hnd, hst⟩ := h
  have hsz : es.size = m.length := by rw [hl.len]; simp
  have hrd : ∀ x ∈ es.toList, ∀ k, x.key = .int .i64 k → (Lit.int .i64 k).wf = true → WideElems.rd (H := Unit) Tryz.prog 3 (fun _ => some (.nil, [])) x = some (.int .i64 k, .nil) := by
    intro x hx k hk hs
    simp [WideElems.rd, hk, Maps.keyOf_int_mk Tryz.underlying3 hs]
  have hkeys : es.toList.map (fun x => Go.intOf (rg (H := Unit) Tryz.prog 3 (fun _ => some (.nil, [])) x).1) = mkeys m := by
    clear hb hsz hst hn hnd
    generalize es.toList = L at hl hrd ⊢
    induction hl with
    | nil => rfl
    | cons hr hl ih =>
      rename_i p e l es'
      have h1 := hrd e (.head _) p.1 hr.1 (hk _ (.head _))
      simp only [List.map_cons, mkeys]
      rw [show rg (H := Unit) Tryz.prog 3 (fun _ => some (.nil, [])) e = (.int .i64 p.1, .nil) from by simp [rg, h1]]
      rw [ih (fun k hk' => hk k (.tail _ hk')) (fun x hx => hrd x (.tail _ hx))]
      rfl
  refine ⟨_, ⟨es, clock, hb, ⟨by omega, hst, fun x hx => ?_⟩, by omega, rfl⟩, ?_, ?_⟩
  · have : ∃ p ∈ m, x.key = .int .i64 p.1 := by
      clear hb hsz hst hn hnd hkeys hrd
      generalize es.toList = L at hl hx
      induction hl with
      | nil => cases hx
      | cons hr hl ih =>
        rename_i p e l es'
        rcases List.mem_cons.1 hx with rfl | hx
        · exact ⟨p, .head _, hr.1⟩
        · obtain ⟨q, hq, e1⟩ := ih (fun k hk' => hk k (.tail _ hk')) hx
          exact ⟨q, .tail _ hq, e1⟩
    obtain ⟨p, hp, e1⟩ := this
    exact ⟨_, hrd x hx p.1 e1 (hk _ (List.mem_map.2 ⟨p, hp, rfl⟩))⟩
  · have hp := WideShapes.sorted_perm (es.toList.map (rg (H := Unit) Tryz.prog 3 (fun _ => some (.nil, []))))
    have := hp.map (fun p => Go.intOf p.1)
    simp only [List.map_map, Function.comp_def] at this
    rw [hkeys] at this
    unfold intKeys
    exact this
  · rw [size_foldr, List.length_map, Array.length_toList, hsz]
theorem sorts_I (m : Nat) : AnyZI.SortsIn Tryz.prog Tryz.sortedI_ren Fence.wide m :=
  ⟨fun blk off cap ss W hH hblk hsz => callsIn_wide.2 (AnyM.slices_Sort_int Tryz.sortI blk off cap ss W hH hblk hsz),
   fun p cap W => callsIn_wide.2 (AnyM.slices_Sort_int_none Tryz.sortI p cap W)⟩
theorem own_srtI {w : World} {base : Nat} {v : Value} {ss xs : List Int} (h : w.ownsRow base 3 1 v ss.length ((ss.mergeSort (fun x y => decide (x ≤ y))).map encZ)) (hp : ss.Perm xs) : (Kd.int .i64).R 3 w base tr v (srtI xs) := by
  have e1 : (ss.mergeSort (fun x y => decide (x ≤ y))) = xs.mergeSort leI := mergeSort_of_perm_i hp
  rw [e1] at h
  have e3 : ss.length = (srtI xs).length := by rw [hp.length_eq]; unfold srtI; simp [List.length_mergeSort]
  rw [e3] at h
  exact Kd.R_of_own h (fun _ _ => trivial)
set_option maxHeartbeats 1000000 in
theorem book_owners (w : World) (kb lb : Nat) (m : BkM) (h : BookAt w kb lb m) (hk : ∀ k ∈ mkeys m, (Lit.int .i64 k).wf = true) (hn : m.length ≤ 1000000) :
    Calls Tryz.prog 27 #[.pointer (some ⟨kb, 0, none⟩)] w fun e w' => ∃ v, e = .returned v ∧ (Kd.int .i64).R 3 w' w.heap.size tr v (srtI (mkeys m)) ∧ Below w.heap.size w w' := by
  obtain ⟨D0, hown, hperm, hsz⟩ := owns_of_mapI h.map hk (by unfold maxLen; omega)
  have c0 : w.cell? ⟨kb, 0, none⟩ = some (.map (some lb)) := (blk_cell h.blk 0).trans rfl
  have hbl := hown.lt
  have hseq : SeqGives Fence.wide 2 Tryz.prog 117 #[.pointer (some ⟨w.heap.size, 0, none⟩)] encZ (fun ss => ss.Perm (intKeys D0)) (Maps.size D0) (w.alloc (.cells #[.map (some lb)] 122)) :=
    AnyZI.keys_gives (ρ := Tryz.keysBook_ren) { Tryz.keysBook with } Fence.wide _ trivial rfl (by omega) w.heap.size lb m.length D0 _ (by simp) (by simp) (by
      obtain ⟨es, clock, hb, Ft, hs, hD⟩ := hown
      exact ⟨es, clock, (Below.heap_alloc _ _ lb hbl).trans hb, Ft, hs, hD⟩)
  have cK : ∀ mb W, Calls Tryz.prog 74 #[.map mb] W fun e w' => e = .returned (.func (.func 117) #[] #[.pointer (some ⟨W.heap.size, 0, none⟩)]) ∧ w' = W.alloc (.cells #[.map mb] 122) := fun mb W => callsIn_wide.1 (AnyZI.keys_in Tryz.keysBook Fence.wide 5 trivial rfl mb W)
  have cS := callsIn_wide.1 (AnyZI.sorted_in Tryz.sortedI Fence.wide 5 trivial trivial trivial trivial rfl (by omega) (sorts_I _) (enters_of Tryz.func116 (by kernel_rfl) rfl) 117 #[.pointer (some ⟨w.heap.size, 0, none⟩)] trivial (enters_of Tryz.func117 (by kernel_rfl) rfl) _ _ (by rw [hsz]; unfold maxLen; omega) (by rw [hsz]; omega) _ hseq)
  change Calls Tryz.prog 73 _ _ _ at cS
  have CK := Lib.hid cK
  have CS := Lib.hid cS
  have HP := Lib.hid hperm
  clear cK cS hseq hown hsz hbl hperm h
  go_enter Tryz.func27, Tryz.ntmps27
  go_wp2_with (first
    | (go_at_call 74; (with_reducible refine (CK.out _ _).mono ?_); rintro e w' ⟨rfl, rfl⟩)
    | (go_at_call 73; (with_reducible refine CS.out.mono ?_); rintro e w' ⟨v, ss, rfl, hS, hrow, hnil, hb⟩))
  go_returns
  exact ⟨v, rfl, Kd.R_lower (own_srtI hrow (hS.trans HP.out)) (by simp), ((Below.refl _ w).alloc (Nat.le_refl _) _).trans (hb.mono (by simp))⟩
end Go.Proofs.YtdhghaiifeienaaGreatDoor

/- godownlaw16.ClaimApart. -/
set_option linter.unusedVariables false
set_option linter.unusedSimpArgs false
namespace Go.Proofs.YtdhghaiifeienaaGreatDoor
open Go.RowKit Go.Proofs.YtdhghaiifeienaaGreatDoorW.PrintWords

/-- A book of the law's own. -/
structure BkG (w0 w : World) (kb lb : Nat) (m : BkM) : Prop where
  at_ : BookAt w kb lb m
  fl : ∀ k, BookF kb lb m k → w0.heap.size ≤ k
  bl : Below w0.heap.size w0 w
theorem BkG.turn {w0 w w' : World} {kb lb : Nat} {m m' : BkM} (h : BkG w0 w kb lb m) (hb : BookAt w' kb lb m') (hm : Mut (BookF kb lb m) w w') (hn : ∀ k, BookF kb lb m' k → BookF kb lb m k ∨ w.heap.size ≤ k) : BkG w0 w' kb lb m' :=
  ⟨hb, fun k hk => (hn k hk).elim (h.fl k) (fun h2 => Nat.le_trans (below_size h.bl) h2), h.bl.trans (hm.below (below_size h.bl) (fun k _ hk => h.fl k hk))⟩
theorem BkG.below {w0 w w' : World} {kb lb : Nat} {m : BkM} (h : BkG w0 w kb lb m) (hb : Below w.heap.size w w') : BkG w0 w' kb lb m := ⟨h.at_.below hb, h.fl, h.bl.trans (hb.mono (below_size h.bl))⟩
theorem BkG.set {w0 w wa : World} {kb lb : Nat} {m : BkM} {g : Nat} (h : BkG w0 w kb lb m) (hwa : BkG w0 wa kb lb m) (hg : wa.heap.size ≤ g) (off : Nat) (u : Value) : BkG w0 (w.setCell ⟨g, off, none⟩ u) kb lb m := by
  have hM : Mut (fun k => k = g) w (w.setCell ⟨g, off, none⟩ u) := (Mut.refl (fun k => k = g) w).setCell (p := ⟨g, off, none⟩) (fun _ => rfl) u
  refine ⟨h.at_.mut hM (fun k hk e => ?_), h.fl, h.bl.trans (hM.below (below_size h.bl) (fun k _ e => ?_))⟩
  · have := hwa.at_.F_lt hk
    omega
  · have := below_size hwa.bl
    omega
def bkA (a : Int) (i : Nat) (m : BkM) : Prop := m = [] ∨ ∃ v L, m = [(a, (v, L))] ∧ L.length ≤ i
def bkC (b : Int) (p : ByteArray) (m : BkM) : Prop := ∃ v, m = [(b, (v, [⟨p, 5⟩]))]
def bkB (a b : Int) (p : ByteArray) (m : BkM) : Prop := bkC b p m ∨ ∃ x v, m = [(a, x), (b, (v, [⟨p, 5⟩]))]
theorem bkB.of_c {a b : Int} {p : ByteArray} {m : BkM} (h : bkC b p m) : bkB a b p m := Or.inl h
theorem note_a (w0 w : World) (kb lb : Nat) (m : BkM) (a : Int) (i : Nat) (p : ByteArray) (s : Int) (h : BkG w0 w kb lb m) (hm : bkA a i m) (hi : i ≤ 100) :
    Calls Tryz.prog 22 #[.pointer (some ⟨kb, 0, none⟩), .int .i64 a, .string p, .int .u64 s] w fun e w' => e = .returned (.tuple #[]) ∧ ∃ m', BkG w0 w' kb lb m' ∧ bkA a (i + 1) m' := by
  have hl : (bkOf m a).2.length ≤ i := by
    rcases hm with rfl | ⟨v, L, rfl, hL⟩
    · simp [bkOf, mlook]
    · simpa [bkOf, mlook] using hL
  refine (book_note w kb lb m a p s h.at_ (by omega)).mono fun e w' hx => ?_
  obtain ⟨he, v1, h1, h2, h3⟩ := hx
  refine ⟨he, _, h.turn h1 h2 h3, ?_⟩
  rcases hm with rfl | ⟨v, L, rfl, hL⟩
  · exact Or.inr ⟨_, _, rfl, by simp [bkOf, mlook]⟩
  · have e1 : (bkOf [(a, (v, L))] a).2 = L := by simp [bkOf, mlook]
    rw [e1]
    exact Or.inr ⟨v1, L ++ [⟨p, s⟩], by simp only [mset, if_true], by simpa using hL⟩
theorem note_b (w0 w : World) (kb lb : Nat) (m : BkM) (a b : Int) (i : Nat) (p : ByteArray) (h : BkG w0 w kb lb m) (hm : bkA a i m) (hab : a ≠ b) :
    Calls Tryz.prog 22 #[.pointer (some ⟨kb, 0, none⟩), .int .i64 b, .string p, .int .u64 5] w fun e w' => e = .returned (.tuple #[]) ∧ ∃ m', BkG w0 w' kb lb m' ∧ bkB a b p m' := by
  have hl : (bkOf m b) = (.slice none 0 0, []) := by
    rcases hm with rfl | ⟨v, L, rfl, hL⟩
    · simp [bkOf, mlook]
    · simp [bkOf, mlook, hab]
  refine (book_note w kb lb m b p 5 h.at_ (by rw [hl]; simp)).mono fun e w' hx => ?_
  obtain ⟨he, v1, h1, h2, h3⟩ := hx
  refine ⟨he, _, h.turn h1 h2 h3, ?_⟩
  rw [hl]
  rcases hm with rfl | ⟨v, L, rfl, hL⟩
  · exact Or.inl ⟨_, rfl⟩
  · refine Or.inr ⟨(v, L), v1, ?_⟩
    simp [mset, hab]
theorem of_b (w0 w : World) (kb lb : Nat) (m : BkM) (a b : Int) (p : ByteArray) (h : BkG w0 w kb lb m) (hm : bkB a b p m) (hab : a ≠ b) :
    Calls Tryz.prog 25 #[.pointer (some ⟨kb, 0, none⟩), .int .i64 b] w fun e w' => ∃ g c, e = .returned (.slice (some ⟨g, 0, none⟩) 1 c) ∧ w.heap.size ≤ g ∧ w'.cell? ⟨g, 1, none⟩ = some (.int .u64 5) ∧ w'.frozen? ⟨g, 1, none⟩ = false ∧ BkG w0 w' kb lb m := by
  have hl : (bkOf m b).2 = [⟨p, 5⟩] := by
    rcases hm with ⟨v, rfl⟩ | ⟨x, v, rfl⟩
    · simp [bkOf, mlook]
    · simp [bkOf, mlook, hab]
  refine (book_of w kb lb m b h.at_ (by rw [hl]; simp)).mono fun e w' hx => ?_
  obtain ⟨v, he, hR, hb⟩ := hx
  rw [hl] at hR
  have hR2 := hR
  obtain ⟨h0, inner, ho, hr⟩ := hR2
  have hC := Kd.R_reads hR
  obtain ⟨A, c, rfl, hc, hC⟩ := hC
  rcases ho.2 with ⟨he2, h2⟩ | ⟨g, cap, cur, he2, hgb, _⟩
  · simp at h2
  · injection he2 with e1 _ _
    subst e1
    obtain ⟨ad, e3, _, d1⟩ := clm_at hC 0 (by simp)
    injection e3 with e3
    subst e3
    obtain ⟨_, _, _, q, _, cells, hq⟩ := (Kd.R_bound hR).1 g rfl
    exact ⟨g, c, he, Kd.R_base hR g rfl, d1, blk_frozen hq 1, h.below hb⟩
theorem of_a (w0 w : World) (kb lb : Nat) (m : BkM) (a b : Int) (p : ByteArray) (h : BkG w0 w kb lb m) (hm : bkC b p m) (hab : a ≠ b) :
    Calls Tryz.prog 25 #[.pointer (some ⟨kb, 0, none⟩), .int .i64 a] w fun e w' => ∃ A c, e = .returned (.slice A 0 c) ∧ BkG w0 w' kb lb m := by
  have hl : (bkOf m a).2 = [] := by
    obtain ⟨v, rfl⟩ := hm
    simp [bkOf, mlook, Ne.symm hab]
  refine (book_of w kb lb m a h.at_ (by rw [hl]; simp)).mono fun e w' hx => ?_
  obtain ⟨v, he, hR, hb⟩ := hx
  rw [hl] at hR
  obtain ⟨A, c, rfl⟩ := Kd.R_slice hR
  exact ⟨A, c, he, h.below hb⟩
theorem drop_a (w0 w : World) (kb lb : Nat) (m : BkM) (a b : Int) (p : ByteArray) (h : BkG w0 w kb lb m) (hm : bkB a b p m) (hab : a ≠ b) :
    Calls Tryz.prog 26 #[.pointer (some ⟨kb, 0, none⟩), .int .i64 a] w fun e w' => e = .returned (.tuple #[]) ∧ ∃ m', BkG w0 w' kb lb m' ∧ bkC b p m' := by
  refine (book_drop w kb lb m a h.at_).mono fun e w' hx => ?_
  obtain ⟨he, h1, h2, h3⟩ := hx
  refine ⟨he, _, h.turn h1 h2 (fun k hk => Or.inl (h3 k hk)), ?_⟩
  rcases hm with ⟨v, rfl⟩ | ⟨x, v, rfl⟩
  · exact ⟨v, by simp [mdel, Ne.symm hab]⟩
  · exact ⟨v, by simp [mdel, Ne.symm hab]⟩
theorem owners_b (w0 w : World) (kb lb : Nat) (m : BkM) (b : Int) (p : ByteArray) (h : BkG w0 w kb lb m) (hm : bkC b p m) (hw : (Lit.int .i64 b).wf = true) :
    Calls Tryz.prog 27 #[.pointer (some ⟨kb, 0, none⟩)] w fun e w' => ∃ g c, e = .returned (.slice (some ⟨g, 0, none⟩) 1 c) ∧ w'.cell? ⟨g, 0, none⟩ = some (.int .i64 b) ∧ BkG w0 w' kb lb m := by
  have hk : mkeys m = [b] := by
    obtain ⟨v, rfl⟩ := hm
    simp [mkeys]
  have hl : m.length = 1 := by
    obtain ⟨v, rfl⟩ := hm
    rfl
  refine (book_owners w kb lb m h.at_ (by rw [hk]; intro k hk; rw [List.mem_singleton] at hk; subst hk; exact hw) (by omega)).mono fun e w' hx => ?_
  obtain ⟨v, he, hR, hb⟩ := hx
  rw [hk] at hR
  have e1 : srtI [b] = [b] := by simp [srtI]
  rw [e1] at hR
  obtain ⟨inner, ho⟩ := Kd.R_own hR
  obtain ⟨A, c, rfl, hc, hC⟩ := Kd.R_reads hR
  rcases ho.2 with ⟨he2, h2⟩ | ⟨g, cap, cur, he2, _⟩
  · simp at h2
  · injection he2 with e1 _ _
    subst e1
    obtain ⟨ad, e3, d1⟩ := ReadsOf.at_ (Kd.reads_of_C (enc := Value.int .i64) (d := (0 : Int)) (h1 := fun _ => rfl) hC) (0 : Int) (by omega) (by simp)
    injection e3 with e3
    subst e3
    exact ⟨g, c, he, d1, h.below hb⟩
set_option maxRecDepth 20000 in
set_option maxHeartbeats 4000000 in
theorem claimApart_true (w : World) (hg : Glob w) (a b : Int) (p : ByteArray) (n : Int) (hwb : (Lit.int .i64 b).wf = true) (hp : p.size ≤ maxLen) (hn : 0 ≤ n ∧ n ≤ 255) :
    Calls Tryz.prog 4 #[.int .i64 a, .int .i64 b, .string p, .int .u8 n] w fun e w' => e = .returned (.bool true) ∧ Below w.heap.size w w' := by
  by_cases hab : a = b
  · subst hab
    have HG := Lib.hid hg
    clear hg hwb hp hn
    go_enter Tryz.func4, Tryz.ntmps4
    go_wp2_with (first
      | (go_at_call 15; (with_reducible refine (touched_true w HG.out).mono ?_); rintro e w1 ⟨rfl, hb⟩; have H1 := Lib.hid hb; clear hb)
      | (go_at_call 15; (with_reducible refine (touched_true w1 (HG.out.below H1.out)).mono ?_); rintro e w2 ⟨rfl, hb⟩; have H2 := Lib.hid (H1.out.trans (hb.mono (below_size H1.out))); clear hb)
      | fail)
    go_returns
    exact ⟨rfl, H2.out⟩
  by_cases h60 : p.size > 60
  · have HG := Lib.hid hg
    have e1 : (a == b) = false := beq_false_of_ne hab
    have e2 : decide ((p.size : Int) > 60) = true := decide_eq_true (by omega)
    clear hg hwb hp hn h60 hab
    go_enter Tryz.func4, Tryz.ntmps4
    go_wp2_with (first
      | (go_at_call 15; (with_reducible refine (touched_true w HG.out).mono ?_); rintro e w1 ⟨rfl, hb⟩; have H1 := Lib.hid hb; clear hb)
      | (go_at_call 15; (with_reducible refine (touched_true w1 (HG.out.below H1.out)).mono ?_); rintro e w2 ⟨rfl, hb⟩; have H2 := Lib.hid (H1.out.trans (hb.mono (below_size H1.out))); clear hb)
      | fail)
    go_returns
    exact ⟨rfl, H2.out⟩
  have HG := Lib.hid (And.intro hg (And.intro hwb hab))
  obtain ⟨n0, rfl⟩ : ∃ k : Nat, n = k := ⟨n.toNat, by omega⟩
  have e1 : (a == b) = false := beq_false_of_ne hab
  have e2 : decide ((p.size : Int) > 60) = false := decide_eq_false (by omega)
  have hn1 : n0 ≤ 255 := by omega
  clear hg hwb hp hn h60 hab
  go_enter Tryz.func4, Tryz.ntmps4
  go_wp2_with (first
    | (go_at_call 15; (with_reducible refine (touched_true w HG.out.1).mono ?_); rintro e w1 ⟨rfl, hb⟩; have H1 := Lib.hid hb; clear hb)
    | (go_at_call 21; (with_reducible refine (book_new _).mono ?_); rintro e w2 ⟨kb, lb, rfl, hk, hkb, hlb, hb⟩
       have hfl : ∀ k, BookF kb lb [] k → w1.heap.size ≤ k := fun k hk => by
         rcases hk with rfl | rfl | ⟨q, hq, _⟩
         · exact hkb
         · exact hlb
         · cases hq
       have hbk : BkG w1 w2 kb lb [] := ⟨hk, hfl, hb⟩
       have H2 := Lib.hid hbk
       clear hk hkb hlb hb hbk hfl)
    | fail)
  go_loopg [10] (n0 % 10) (fun n v10 w' => ∃ i : Nat, v10 = .int .i64 (i : Int) ∧ Hid (n + i = n0 % 10 ∧ ∃ m, BkG w1 w' kb lb m ∧ bkA a i m))
  case atStart => exact ⟨0, rfl, by omega, [], H2.out, Or.inl rfl⟩
  case round =>
    obtain ⟨i, rfl, hrel⟩ := hrel
    obtain ⟨hn, m, hB, hA⟩ := hrel.out
    clear hrel
    rcases Nat.lt_or_ge i (n0 % 10) with hi | hi
    · have HR := Lib.hid (And.intro hn (And.intro hB hA))
      have q0 : ((i : Int) < (n0 : Int) % 10) = True := eq_true (by omega)
      clear hn hB hA
      go_wp2_with (go_at_call 22; (with_reducible refine (note_a w1 _ kb lb m a i p (i : Int) HR.out.2.1 HR.out.2.2 (by omega)).mono ?_); rintro e w3 ⟨rfl, m3, hB, hA⟩; have H3 := Lib.hid (And.intro hB hA); clear hB hA)
      go_roundg (gk - 1)
      case measure => have := HR.out.1; omega
      case rel => exact ⟨i + 1, by go_num, by have := HR.out.1; omega, m3, H3.out.1, H3.out.2⟩
    · have HR := Lib.hid (And.intro hn (And.intro hB hA))
      have q0 : ((i : Int) < (n0 : Int) % 10) = False := eq_false (by omega)
      clear hn hB hA
      go_wp2_with (first
        | (go_at_call 22; (with_reducible refine (note_b w1 _ kb lb m a b i p HR.out.2.1 HR.out.2.2 HG.out.2.2).mono ?_); rintro e w3 ⟨rfl, m3, hB, hA⟩; have H3 := Lib.hid (And.intro hB hA); clear hB hA)
        | (go_at_call 25; (with_reducible refine (of_b w1 w3 kb lb m3 a b p H3.out.1 H3.out.2 HG.out.2.2).mono ?_); rintro e w4 ⟨g4, c4, rfl, hg, d4, f4, hB⟩; have H4 := Lib.hid (And.intro hg hB); clear hg hB)
        | (go_at_call 25; (with_reducible refine (of_b w1 _ kb lb m3 a b p (H4.out.2.set H3.out.1 H4.out.1 1 (.int .u64 9)) H3.out.2 HG.out.2.2).mono ?_); rintro e w5 ⟨g5, c5, rfl, hg, d5, f5, hB⟩; have H5 := Lib.hid hB; clear hg hB)
        | (go_at_call 25; (with_reducible refine (of_b w1 w5 kb lb m3 a b p H5.out H3.out.2 HG.out.2.2).mono ?_); rintro e w6 ⟨g6, c6, rfl, hg, d6, f6, hB⟩; have H6 := Lib.hid hB; clear hg hB)
        | (go_at_call 26; (with_reducible refine (drop_a w1 w6 kb lb m3 a b p H6.out H3.out.2 HG.out.2.2).mono ?_); rintro e w7 ⟨rfl, m7, hB, hA⟩; have H7 := Lib.hid (And.intro hB hA); clear hB hA)
        | (go_at_call 25; (with_reducible refine (of_a w1 w7 kb lb m7 a b p H7.out.1 H7.out.2 HG.out.2.2).mono ?_); rintro e w8 ⟨A8, c8, rfl, hB⟩; have H8 := Lib.hid hB; clear hB)
        | (go_at_call 25; (with_reducible refine (of_b w1 w8 kb lb m7 a b p H8.out (bkB.of_c H7.out.2) HG.out.2.2).mono ?_); rintro e w9 ⟨g9, c9, rfl, hg, d9, f9, hB⟩; have H9 := Lib.hid hB; clear hg hB)
        | (go_at_call 27; (with_reducible refine (owners_b w1 w9 kb lb m7 b p H9.out H7.out.2 HG.out.2.1).mono ?_); rintro e w10 ⟨g10, c10, rfl, d10, hB⟩; have H10 := Lib.hid hB; clear hB)
        | (go_at_call 27; (with_reducible refine (owners_b w1 w10 kb lb m7 b p H10.out H7.out.2 HG.out.2.1).mono ?_); rintro e w11 ⟨g11, c11, rfl, d11, hB⟩; have H11 := Lib.hid hB; clear hB)
        | fail)
      go_returns
      exact ⟨rfl, H1.out.trans (H11.out.bl.mono (below_size H1.out))⟩
end Go.Proofs.YtdhghaiifeienaaGreatDoor

/-
  PROVED: godownlaw16.ClaimApart returns true for every input (two owners, a path, a count), its arguments reading as they read before; the tied card of that statement.
  CONDITIONS: the listed variables (godown/hash.first, godown/hash.keys, unicode/utf8.acceptRanges, unicode/utf8.first) read as their initialisers lay them when the call begins; no other premise.
-/
set_option linter.unusedVariables false
set_option linter.unusedSimpArgs false
namespace Go.Proofs.YtdhghaiifeienaaGreatDoor
open Go.ChangeShapes Go.WideShapes Go.ChangeAt Go.RowKit Go.WideMaps Go.WideElems
open Go.ChangeMaps (open_string shut_string)

set_option maxRecDepth 100000 in
theorem claimApart_lifted (os : Os) (started : os.Started) (H : Type) (enc : TypeId × Value → H) :
    ReturnsInHanded {} Tryz.checked os 4 .any (fun w args => (Rows.claimApartSpec.pre enc Tryz.prog Tryz.f4 [] false w args ∧ laidMetH Tryz.prog Rows.claimApartRow.laid w) ∧ sizedMet enc Tryz.prog Tryz.f4 (OpenSpec.ofChange Rows.claimApartSpec) false w args)
      (Rows.claimApartSpec.post enc Tryz.prog Tryz.f4 false true false false) := by
  refine returnsInHanded_of_change_and (C := Tryz.checked) (X := fun w _ => laidMetH Tryz.prog Rows.claimApartRow.laid w) (fun _ _ _ hh h => h.of_heap hh) own started (by kernel_rfl) Tryz.func4
    (ChangeSpec.witness_shaped (enc := enc) (C := Tryz.checked) (os := os) (X := fun w _ => laidMetH Tryz.prog Rows.claimApartRow.laid w) false (World.laidAll Tryz.prog os Rows.claimApartRow.laid) #[.int .i64 0, .int .i64 0, .string ⟨#[]⟩, .int .u8 0] 8 (World.laidAll_os _ _ _)
      (World.shaped_of_ZipB (by kernel_rfl) (by kernel_rfl)) (by kernel_rfl) (by kernel_rfl) (by kernel_rfl)
      (by rw [MakeChecks.laidMetH_plain _ _ _ (by kernel_rfl)]; exact laidMet_laidAll _ (by kernel_rfl) (by kernel_rfl))) ?_
  intro W base args ds gs before hval0 hW _ _ hL _
  have hval : ∀ (j : Nat) t v, Tryz.f4.params[j]? = some t → args[j]? = some v → Value.okWide Tryz.prog W .any base t v := hval0
  have hW' := hW
  obtain ⟨p, q, hA0, hV, rfl, _, _⟩ := hW
  have hA : DataW.TrodAll enc Tryz.prog W 0 (fun _ => true) true Tryz.f4.params.toList args.toList ds p := hA0
  rw [Tryz.params4] at hA hval
  obtain ⟨v0, v1, v2, v3, d0, d1, d2, d3, _, _, _, _, rfl, rfl, rfl, h0, h1, h2, h3⟩ := trodAll_four hA
  obtain ⟨rfl, rfl⟩ := trodVars_none hV
  obtain ⟨x0, rfl, rfl, rfl, w0⟩ := open_int Tryz.underlying3 (hval 0 3 v0 rfl rfl) h0
  obtain ⟨x1, rfl, rfl, rfl, w1⟩ := open_int Tryz.underlying3 (hval 1 3 v1 rfl rfl) h1
  obtain ⟨x2, rfl, rfl, rfl, w2⟩ := open_string Tryz.underlying9 (hval 2 9 v2 rfl rfl) h2
  obtain ⟨x3, rfl, rfl, rfl, w3⟩ := open_int Tryz.underlying5 (hval 3 5 v3 rfl rfl) h3
  simp only [List.append_nil] at hW'
  rw [MakeChecks.laidMetH_plain _ _ _ (by kernel_rfl)] at hL
  have G : Glob W := glob_of_laid hL
  refine (claimApart_true W G x0 x1 x2 x3 w1 w2 (by have := w3; simp [Lit.wf, IntKind.min, IntKind.max, IntKind.signed, IntKind.bits] at this; omega)).mono fun e W' ⟨he, hb⟩ => ?_
  subst he
  exact ⟨_, rfl, _, _, _, [], [], [], hW', trodAll_mk1 (shut_bool Tryz.underlying4 _), trodAll_mk4 (shut_int Tryz.underlying3 w0) (shut_int Tryz.underlying3 w1) (shut_string Tryz.underlying9 w2) (shut_int Tryz.underlying5 w3), rfl, hb.frame _, fun h => by cases h⟩
theorem claimApart_said : Rows.ClaimApartSaid :=
  OpenClaim.holds_of_wide 4 Tryz.f4 rfl rfl rfl rfl rfl rfl rfl ⟨rfl, rfl, rfl, rfl, rfl⟩ rfl rfl rfl rfl rfl (by kernel_rfl) Tryz.func4 (by kernel_rfl)
    (of_decide_eq_true (by kernel_rfl)) (by unfold Func.isWrapper; first | (rw [if_pos (by decide +kernel)]; kernel_rfl) | (rw [if_neg (by decide +kernel)]; exact ⟨rfl, rfl⟩))
    (fun os started H enc _ => claimApart_lifted os started H enc)
theorem claimApart_card : Rows.ClaimApartCardSaid :=
  Claim7.holds_tied_plain_at .later [] [.data, .data, .data, .pinned] true (true, "7324d8dd0ec1e47197671a9410b7dbd30e44e3433805b53f741a49c43bee2065") false
    claimApart_said (fun _ h => by cases h) (by kernel_rfl) (fun _ h => by cases h) claimApart_row_tie rfl ⟨rfl, rfl⟩ (by kernel_rfl) rfl
    (fun f fn hf hfn => by
      obtain rfl : f = 4 := Option.some.inj ((show Tryz.prog.funcNamed "godown/godownlaw16.ClaimApart" = some 4 by kernel_rfl).symm.trans hf) |>.symm
      obtain rfl : fn = Tryz.f4 := (Option.some.inj (Tryz.func4.symm.trans hfn)).symm
      exact ⟨by kernel_rfl, fun j t ht => by
        rw [Tryz.params4] at ht
        have hm : t ∈ [3, 3, 9, 5] := by simpa using Array.mem_of_getElem? ht
        have hall : ([3, 3, 9, 5].all fun u => !Tryz.prog.wantsStandIn u) = true := by kernel_rfl
        exact (show Tryz.prog.wantsStandIn t = false by simpa using List.all_eq_true.1 hall t hm)⟩)
    (by kernel_rfl)
end Go.Proofs.YtdhghaiifeienaaGreatDoor
