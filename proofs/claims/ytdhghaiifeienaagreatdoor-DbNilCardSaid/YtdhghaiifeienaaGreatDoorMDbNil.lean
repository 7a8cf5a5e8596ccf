/-
  PROVED: godownlaw10.DbNil returns true for every input (a path), its argument reading as it read before; the tied card of that statement.
  CONDITIONS: the listed variables (godown/hash.first, godown/hash.keys, unicode/utf8.acceptRanges, unicode/utf8.first) read as their initialisers lay them when the call begins; no other premise.
-/
import Derived.Test.YtdhghaiifeienaaGreatDoorMS
import Derived.Test.YtdhghaiifeienaaGreatDoorMH
import Derived.Test.YtdhghaiifeienaaGreatDoorMD
import Derived.Test.YtdhghaiifeienaaGreatDoorME
import Derived.Test.YtdhghaiifeienaaGreatDoorTie
import Derived.Test.YtdhghaiifeienaaGreatDoorCards
import Derived.SevenTiedAt

/- The document's store where there is none (a nil *Store). -/
set_option linter.unusedVariables false
set_option linter.unusedSimpArgs false
namespace Go.Proofs.YtdhghaiifeienaaGreatDoor
open Go.RowKit Go.Proofs.YtdhghaiifeienaaGreatDoorW.PrintWords

abbrev zV : Value := .agg #[.string ⟨#[]⟩, .string ⟨#[]⟩, .slice none 0 0, .slice none 0 0]
set_option maxRecDepth 100000 in
set_option maxHeartbeats 2000000 in
theorem nil_row (w : World) (p : ByteArray) : Calls Tryz.prog 92 #[.pointer none, .string p] w fun e w' => e = .returned (.tuple #[.agg #[.string ⟨#[]⟩, .string ⟨#[]⟩, .slice none 0 0, .slice none 0 0], .bool false]) ∧ Below w.heap.size w w' := by
  have gB := heap_alloc_new w (.cells #[(.string ⟨#[]⟩), (.string ⟨#[]⟩), (.slice none 0 0), (.slice none 0 0)] 44)
  have GB := Lib.hid gB
  clear gB
  go_enter Tryz.func92, Tryz.ntmps92
  go_wp2
  refine bodyPost_ret (results_row_t rfl _ _ w.heap.size _ _ _ _ _ rfl GB.out) rfl ⟨rfl, ?_⟩
  exact below_alloc (Below.refl _ w) _
theorem nil_has (w : World) (p : ByteArray) : Calls Tryz.prog 50 #[.pointer none, .string p] w fun e w' => e = .returned (.bool false) ∧ Below w.heap.size w w' := by
  go_enter Tryz.func50, Tryz.ntmps50
  go_wp2_with (go_at_call 92; (with_reducible refine (nil_row w p).mono ?_); rintro e w' ⟨rfl, hb⟩)
  go_returns
  exact ⟨rfl, below_alloc hb _⟩
theorem nil_paths (w : World) : Calls Tryz.prog 40 #[.pointer none] w fun e w' => e = .returned (.slice none 0 0) ∧ w = w' := by
  go_enter Tryz.func40, Tryz.ntmps40
  go_wp2
  go_returns
  exact ⟨rfl, rfl⟩
theorem nil_roots (w : World) : Calls Tryz.prog 60 #[.pointer none] w fun e w' => e = .returned (.slice none 0 0) ∧ w = w' := by
  go_enter Tryz.func60, Tryz.ntmps60
  go_wp2
  go_returns
  exact ⟨rfl, rfl⟩
theorem nil_version (w : World) : Calls Tryz.prog 41 #[.pointer none] w fun e w' => e = .returned (.int .u64 0) ∧ w = w' := by
  go_enter Tryz.func41, Tryz.ntmps41
  go_wp2
  go_returns
  exact ⟨rfl, rfl⟩
theorem nil_referrers (w : World) (p : ByteArray) : Calls Tryz.prog 51 #[.pointer none, .string p] w fun e w' => e = .returned (.slice none 0 0) ∧ w = w' := by
  go_enter Tryz.func51, Tryz.ntmps51
  go_wp2
  go_returns
  exact ⟨rfl, rfl⟩
theorem nil_put (w : World) (A : Option Addr) (n c : Nat) : Calls Tryz.prog 20 #[.pointer none, .slice A n c] w fun e w' => e = .returned (.int .i64 5) ∧ w = w' := by
  go_enter Tryz.func20, Tryz.ntmps20
  go_wp2
  go_returns
  exact ⟨rfl, rfl⟩
theorem clone_nil (w : World) : Calls Tryz.prog 102 #[.slice none 0 0] w fun e w' => ∃ A c, e = .returned (.slice A 0 c) ∧ Below w.heap.size w w' :=
  (clone_str w none [] 0 (Kd.C_nil _ _) (by simp)).mono fun e w' h => by
    obtain ⟨v, rfl, hR, hb⟩ := h
    obtain ⟨A, c, rfl⟩ := Kd.R_slice hR
    exact ⟨A, c, rfl, hb⟩
theorem nil_refs (w : World) (p : ByteArray) : Calls Tryz.prog 56 #[.pointer none, .string p] w fun e w' => ∃ A c, e = .returned (.slice A 0 c) ∧ Below w.heap.size w w' := by
  go_enter Tryz.func56, Tryz.ntmps56
  go_wp2_with (first | (go_at_call 92; (with_reducible refine (nil_row w p).mono ?_); rintro e w' ⟨rfl, hb⟩) | (go_at_call 102; (with_reducible refine (clone_nil _).mono ?_); rintro e w2 ⟨A, c, rfl, hb5⟩))
  have hb9 : Below w.heap.size w w2 := (below_alloc hb _).trans (hb5.mono (by have := hb.size; simp; omega))
  go_returns
  exact ⟨_, _, rfl, hb9⟩
theorem nil_unroot (w : World) (p : ByteArray) : Calls Tryz.prog 52 #[.pointer none, .string p] w fun e w' => e = .returned (.int .i64 5) ∧ w = w' := by
  go_enter Tryz.func52, Tryz.ntmps52
  go_wp2
  go_returns
  exact ⟨rfl, rfl⟩
theorem nil_root (w : World) (p : ByteArray) : Calls Tryz.prog 32 #[.pointer none, .string p] w fun e w' => e = .returned (.int .i64 5) ∧ Below w.heap.size w w' := by
  go_enter Tryz.func32, Tryz.ntmps32
  go_wp2_with (go_at_call 50; (with_reducible refine (nil_has w p).mono ?_); rintro e w' ⟨rfl, hb⟩)
  go_returns
  exact ⟨rfl, hb⟩
theorem nil_delete (w : World) (p : ByteArray) : Calls Tryz.prog 34 #[.pointer none, .string p] w fun e w' => e = .returned (.int .i64 5) ∧ Below w.heap.size w w' := by
  go_enter Tryz.func34, Tryz.ntmps34
  go_wp2_with (go_at_call 50; (with_reducible refine (nil_has w p).mono ?_); rintro e w' ⟨rfl, hb⟩)
  go_returns
  exact ⟨rfl, hb⟩
/-- A path of an empty store deleted. -/
theorem gone_delete (w : World) (B : Bl) (S : St) (p : ByteArray) (h : StoreAt w B S) (hn : mlook S.rows p = none) : Calls Tryz.prog 34 #[.pointer (some ⟨B.sb, 0, none⟩), .string p] w fun e w' => e = .returned (.int .i64 5) ∧ Below w.heap.size w w' := by
  have hx := store_has w B S p h
  rw [hn] at hx
  simp only [Option.isSome_none] at hx
  have HX := Lib.hid hx
  clear h hn hx
  go_enter Tryz.func34, Tryz.ntmps34
  go_wp2_with (go_at_call 50; (with_reducible refine HX.out.mono ?_); rintro e w' ⟨rfl, hb⟩)
  go_returns
  exact ⟨rfl, hb⟩
end Go.Proofs.YtdhghaiifeienaaGreatDoor

/- The document's store where there is none (a nil *Store): what it reaches, Check, Same. -/
set_option linter.unusedVariables false
set_option linter.unusedSimpArgs false
namespace Go.Proofs.YtdhghaiifeienaaGreatDoor
open Go.RowKit Go.Proofs.YtdhghaiifeienaaGreatDoorW.PrintWords

theorem sorted0 (w : World) (b : Nat) (h : SetAt w b []) : Calls Tryz.prog 100 #[.map (some b)] w fun e w' => ∃ A c, e = .returned (.slice A 0 c) ∧ Below w.heap.size w w' :=
  (db_sorted w b [] h (by simp [mkeys]) (by simp)).mono fun e w' h => by
    obtain ⟨v, rfl, hR, hb⟩ := h
    have e : srt (mkeys ([] : List (ByteArray × Unit))) = [] := by simp [srt, mkeys]
    rw [e] at hR
    obtain ⟨A, c, rfl⟩ := Kd.R_slice hR
    exact ⟨A, c, rfl, hb⟩
theorem equal0 (w : World) (A A2 : Option Addr) (c c2 : Nat) : Calls Tryz.prog 99 #[.slice A 0 c, .slice A2 0 c2] w fun e w' => e = .returned (.bool true) ∧ Below w.heap.size w w' := by
  go_enter Tryz.func99, Tryz.ntmps99
  go_wp2_with fail
  go_loopg [13] 0 (fun n v13 w' => v13 = .int .i64 0 ∧ w' = w)
  case atStart => exact ⟨rfl, rfl⟩
  case round =>
    obtain ⟨rfl, rfl⟩ := hrel
    go_wp2
    go_returns
    exact ⟨rfl, Below.refl _ _⟩
set_option maxRecDepth 20000 in
theorem nil_reach0 (w : World) : Calls Tryz.prog 91 #[.pointer none, .slice none 0 0] w fun e w' => ∃ b, e = .returned (.map (some b)) ∧ SetAt w' b [] ∧ Below w.heap.size w w' := by
  have hmm := @run_makeMap Tryz.prog
  have hs : SetAt (w.alloc (.map #[] 0)) w.heap.size [] := MapAt.made _ _ w
  have HS := Lib.hid hs
  clear hs
  go_enter Tryz.func91, Tryz.ntmps91
  go_wp2_with (go_at_call 102; (with_reducible refine (clone_nil _).mono ?_); rintro e w1 ⟨A, c, rfl, hb1⟩; have H1 := Lib.hid hb1; clear hb1)
  go_loopg [6] 0 (fun n v6 w' => v6 = .slice A 0 c ∧ w' = w1)
  case atStart => exact ⟨rfl, rfl⟩
  case round =>
    obtain ⟨rfl, rfl⟩ := hrel
    go_wp2
    go_returns
    exact ⟨_, rfl, HS.out.same (H1.out.block _ (by simp)), (below_alloc (Below.refl _ w) _).trans (H1.out.mono (by simp))⟩
theorem clone_one (w : World) (g c0 : Nat) (p : ByteArray) (hC : Kd.string.C w (some ⟨g, 0, none⟩) 1 [p]) : Calls Tryz.prog 102 #[.slice (some ⟨g, 0, none⟩) 1 c0] w fun e w' => ∃ g' c', e = .returned (.slice (some ⟨g', 0, none⟩) 1 c') ∧ w'.cell? ⟨g', 0, none⟩ = some (.string p) ∧ 1 ≤ c' ∧ Below w.heap.size w w' :=
  (clone_str w (some ⟨g, 0, none⟩) [p] c0 hC (by simp)).mono fun e w' h => by
    obtain ⟨v, rfl, hR, hb⟩ := h
    obtain ⟨inner, ho⟩ := Kd.R_own hR
    obtain ⟨A, c, rfl, hc, hC⟩ := Kd.R_reads hR
    rcases ho.2 with ⟨he2, h2⟩ | ⟨g2, cap, cur, he2, _⟩
    · simp at h2
    · injection he2 with e1 _ _
      subst e1
      obtain ⟨ad, e3, d1⟩ := at_str' hC 0 (by simp)
      injection e3 with e3
      subst e3
      exact ⟨g2, c, rfl, d1, by simpa using hc, hb⟩
set_option maxRecDepth 20000 in
set_option maxHeartbeats 1000000 in
theorem nil_reach1 (w : World) (g c0 : Nat) (p : ByteArray) (hC : Kd.string.C w (some ⟨g, 0, none⟩) 1 [p]) : Calls Tryz.prog 91 #[.pointer none, .slice (some ⟨g, 0, none⟩) 1 c0] w fun e w' => ∃ b, e = .returned (.map (some b)) ∧ SetAt w' b [] ∧ Below w.heap.size w w' := by
  have hmm := @run_makeMap Tryz.prog
  have hs : SetAt (w.alloc (.map #[] 0)) w.heap.size [] := MapAt.made _ _ w
  have HS := Lib.hid (And.intro hs (Kd.C_below hC (below_alloc (Below.refl _ w) (.map #[] 0))))
  clear hs hC
  go_enter Tryz.func91, Tryz.ntmps91
  go_wp2_with (go_at_call 102; (with_reducible refine (clone_one _ g c0 p HS.out.2).mono ?_); rintro e w1 ⟨g1, c1, rfl, d1, hc1, hb1⟩; have H1 := Lib.hid (And.intro hb1 (And.intro d1 hc1)); clear hb1 d1 hc1)
  go_loopg [6] 1 (fun n v6 w' => (n = 1 ∧ v6 = .slice (some ⟨g1, 0, none⟩) 1 c1 ∧ w' = w1) ∨ (n = 0 ∧ v6 = .slice (some ⟨g1, 0, none⟩) 0 c1 ∧ Hid (Below w1.heap.size w1 w')))
  case atStart => exact Or.inl ⟨rfl, rfl, rfl⟩
  case round =>
    rcases hrel with ⟨rfl, rfl, rfl⟩ | ⟨rfl, rfl, hB⟩
    · have d1 := H1.out.2.1
      have hsl := cut_to (P := Tryz.prog) 33 9 .i64 und_strl (i := Tryz.t9) rfl (some ⟨g1, 0, none⟩) 1 c1 (0 : Int) (by omega) (by omega) H1.out.2.2
      go_wp2_with (go_at_call 92; (with_reducible refine (nil_row _ p).mono ?_); rintro e w2 ⟨rfl, hb2⟩; have H2 := Lib.hid hb2; clear hb2)
      go_roundg 0
      case measure => omega
      case rel => exact Or.inr ⟨rfl, rfl, below_alloc H2.out _⟩
    · go_wp2
      go_returns
      have hb := H1.out.1.trans (hB.out.mono (below_size H1.out.1))
      exact ⟨_, rfl, HS.out.1.same (hb.block _ (by simp)), (below_alloc (Below.refl _ w) _).trans (hb.mono (by simp))⟩
theorem one_C (w : World) (p : ByteArray) : Kd.string.C (w.alloc (.cells #[.string p] 9)) (some ⟨w.heap.size, 0, none⟩) 1 [p] := by
  have h2 := World.ownsRow_lit (base := 0) (e := 9) (size := 1) w #[.string p] 1 (Nat.zero_le _) (by unfold maxLen; omega) (by simp)
  have h3 : Kd.string.R 9 (w.alloc (.cells #[.string p] 9)) 0 tr (.slice (some ⟨w.heap.size, 0, none⟩) 1 1) [p] := Kd.R_of_own (by simpa [encs] using h2) (fun _ _ => trivial)
  exact C_of_R h3
theorem nil_closure (w : World) (p : ByteArray) : Calls Tryz.prog 53 #[.pointer none, .string p] w fun e w' => ∃ A c, e = .returned (.slice A 0 c) ∧ Below w.heap.size w w' := by
  have HC := Lib.hid (one_C w p)
  have HB := Lib.hid (below_alloc (Below.refl _ w) (.cells #[.string p] 9))
  go_enter Tryz.func53, Tryz.ntmps53
  go_wp2_with (first
    | (go_at_call 91; (with_reducible refine (nil_reach1 _ w.heap.size 1 p HC.out).mono ?_); rintro e w2 ⟨b, rfl, hs, hb⟩; have H2 := Lib.hid (And.intro hs (HB.out.trans (hb.mono (below_size HB.out)))); clear hs hb)
    | (go_at_call 100; (with_reducible refine (sorted0 w2 b H2.out.1).mono ?_); rintro e w3 ⟨A, c, rfl, hb⟩; have H3 := Lib.hid (H2.out.2.trans (hb.mono (below_size H2.out.2))); clear hb))
  go_returns
  exact ⟨A, c, rfl, H3.out⟩
theorem nil_live (w : World) : Calls Tryz.prog 57 #[.pointer none] w fun e w' => ∃ A c, e = .returned (.slice A 0 c) ∧ Below w.heap.size w w' := by
  go_enter Tryz.func57, Tryz.ntmps57
  go_wp2_with (first
    | (go_at_call 60; (with_reducible refine (nil_roots _).mono ?_); rintro e w1 ⟨rfl, rfl⟩)
    | (go_at_call 91; (with_reducible refine (nil_reach0 _).mono ?_); rintro e w2 ⟨b, rfl, hs, hb⟩; have H2 := Lib.hid (And.intro hs hb); clear hs hb)
    | (go_at_call 100; (with_reducible refine (sorted0 w2 b H2.out.1).mono ?_); rintro e w3 ⟨A, c, rfl, hb⟩; have H3 := Lib.hid (H2.out.2.trans (hb.mono (below_size H2.out.2))); clear hb))
  go_returns
  exact ⟨A, c, rfl, H3.out⟩
set_option maxRecDepth 20000 in
theorem nil_sweep (w : World) : Calls Tryz.prog 42 #[.pointer none] w fun e w' => e = .returned (.slice none 0 0) ∧ Below w.heap.size w w' := by
  go_enter Tryz.func42, Tryz.ntmps42
  go_wp2_with (first
    | (go_at_call 60; (with_reducible refine (nil_roots _).mono ?_); rintro e w1 ⟨rfl, rfl⟩)
    | (go_at_call 40; (with_reducible refine (nil_paths _).mono ?_); rintro e w1 ⟨rfl, rfl⟩)
    | (go_at_call 91; (with_reducible refine (nil_reach0 _).mono ?_); rintro e w2 ⟨b, rfl, hs, hb⟩; have H2 := Lib.hid hb; clear hs hb))
  go_loopg [4, 16] 0 (fun n v4 v16 w' => v4 = .slice none 0 0 ∧ v16 = .int .i64 0 ∧ w' = w2)
  case atStart => exact ⟨rfl, rfl, rfl⟩
  case round =>
    obtain ⟨rfl, rfl, rfl⟩ := hrel
    go_wp2_with fail
    go_loopg [41] 0 (fun n v41 w' => v41 = .int .i64 0 ∧ w' = wr)
    case atStart => exact ⟨rfl, rfl⟩
    case round =>
      obtain ⟨rfl, rfl⟩ := hrel
      go_wp2_with fail
      go_returns
      exact ⟨rfl, H2.out⟩
theorem index0 (w : World) (fv : Value) : Calls Tryz.prog 128 #[.slice none 0 0, fv] w fun e w' => e = .returned (.int .i64 (-1)) ∧ w' = w := by
  go_enter Tryz.func128, Tryz.ntmps128
  go_wp2_with fail
  go_loopg [8] 0 (fun n v8 w' => v8 = .int .i64 0 ∧ w' = w)
  case atStart => exact ⟨rfl, rfl⟩
  case round =>
    obtain ⟨rfl, rfl⟩ := hrel
    go_wp2
    go_returns
    exact ⟨rfl, rfl⟩
theorem contains0 (w : World) (fv : Value) : Calls Tryz.prog 95 #[.slice none 0 0, fv] w fun e w' => e = .returned (.bool false) ∧ w' = w := by
  go_enter Tryz.func95, Tryz.ntmps95
  go_wp2_with (go_at_call 128; (with_reducible refine (index0 w fv).mono ?_); rintro e w' ⟨rfl, rfl⟩)
  go_returns
  exact ⟨rfl, rfl⟩
end Go.Proofs.YtdhghaiifeienaaGreatDoor

/- The document's store where there is none (a nil *Store): Get, Check, Same. -/
set_option linter.unusedVariables false
set_option linter.unusedSimpArgs false
namespace Go.Proofs.YtdhghaiifeienaaGreatDoor
open Go.RowKit Go.Proofs.YtdhghaiifeienaaGreatDoorW.PrintWords

theorem nil_backward (w : World) : Calls Tryz.prog 97 #[.pointer none] w fun e w' => ∃ b, e = .returned (.map (some b)) ∧ Below w.heap.size w w' := by
  have hmm := @run_makeMap Tryz.prog
  go_enter Tryz.func97, Tryz.ntmps97
  go_wp2_with (go_at_call 40; (with_reducible refine (nil_paths _).mono ?_); rintro e w1 ⟨rfl, rfl⟩)
  go_loopg [12] 0 (fun n v12 w' => v12 = .int .i64 0 ∧ w' = w.alloc (.map #[] 0))
  case atStart => exact ⟨rfl, rfl⟩
  case round =>
    obtain ⟨rfl, rfl⟩ := hrel
    go_wp2
    go_returns
    exact ⟨_, rfl, below_alloc (Below.refl _ w) _⟩
theorem check1_nil (w : World) (a : Option Addr) : Calls Tryz.prog 94 #[.slice none 0 0, .pointer a] w fun e w' => e = .returned (.bool true) ∧ w' = w := by
  go_enter Tryz.func94, Tryz.ntmps94
  go_wp2_with (go_at_call 95; (with_reducible refine (contains0 w _).mono ?_); rintro e w' ⟨rfl, rfl⟩)
  go_returns
  exact ⟨rfl, rfl⟩
theorem nil_check (w : World) : Calls Tryz.prog 49 #[.pointer none] w fun e w' => e = .returned (.bool true) ∧ Below w.heap.size w w' := by
  have gB := heap_alloc_new w (.cells #[.pointer none] 37)
  have c0 : (w.alloc (.cells #[.pointer none] 37)).cell? ⟨w.heap.size, 0, none⟩ = some (.pointer none) := (blk_cell gB 0).trans rfl
  have HB := Lib.hid (And.intro c0 (below_alloc (Below.refl _ w) (.cells #[.pointer none] 37)))
  clear gB c0
  go_enter Tryz.func49, Tryz.ntmps49
  go_wp2_with (first
    | (go_at_call 97; (with_reducible refine (nil_backward _).mono ?_); rintro e w1 ⟨b, rfl, hb⟩; have d1 := cell_belowR HB.out.1 hb; have H1 := Lib.hid (HB.out.2.trans (hb.mono (below_size HB.out.2))); clear hb)
    | (go_at_call 40; (with_reducible refine (nil_paths _).mono ?_); rintro e w2 ⟨rfl, rfl⟩))
  go_loopg [15] 0 (fun n v15 w' => v15 = .int .i64 0 ∧ w' = w1)
  case atStart => exact ⟨rfl, rfl⟩
  case round =>
    obtain ⟨rfl, rfl⟩ := hrel
    go_wp2_with (first
      | (go_at_call 60; (with_reducible refine (nil_roots _).mono ?_); rintro e w2 ⟨rfl, rfl⟩)
      | (go_at_call 94; (with_reducible refine (check1_nil _ _).mono ?_); rintro e w2 ⟨rfl, rfl⟩))
    go_returns
    exact ⟨rfl, H1.out⟩
theorem copied_zero (w : World) : Calls Tryz.prog 93 #[.agg #[.string ⟨#[]⟩, .string ⟨#[]⟩, .slice none 0 0, .slice none 0 0]] w fun e w' => ∃ A2 c2 A3 c3, e = .returned (.agg #[.string ⟨#[]⟩, .string ⟨#[]⟩, .slice A2 0 c2, .slice A3 0 c3]) ∧ Below w.heap.size w w' := by
  refine (db_copied w zRow _ (RowV.mk (Kd.R_nil _ _ _ _ _) (Kd.R_nil _ _ _ _ _)) (by simp [zRow]) (by simp [zRow])).mono fun e w' h => ?_
  obtain ⟨v, rfl, hv, hb⟩ := h
  obtain ⟨A2, c2, A3, c3, rfl, _, _⟩ := hv.open_
  exact ⟨A2, c2, A3, c3, rfl, hb⟩
theorem nil_get (w : World) (p : ByteArray) : Calls Tryz.prog 46 #[.pointer none, .string p] w fun e w' => ∃ A2 c2 A3 c3, e = .returned (.tuple #[.agg #[.string ⟨#[]⟩, .string ⟨#[]⟩, .slice A2 0 c2, .slice A3 0 c3], .bool false]) ∧ Below w.heap.size w w' := by
  have gB := heap_alloc_new w (.cells #[(.string ⟨#[]⟩), (.string ⟨#[]⟩), (.slice none 0 0), (.slice none 0 0)] 44)
  have GB := Lib.hid gB
  clear gB
  go_enter Tryz.func46, Tryz.ntmps46
  go_wp2_with (first
    | (go_at_call 92; (with_reducible refine (nil_row _ p).mono ?_); rintro e w1 ⟨rfl, hb⟩; have H1 := Lib.hid hb; clear hb)
    | (go_at_call 93; (with_reducible refine (copied_zero _).mono ?_); rintro e w2 ⟨A2, c2, A3, c3, rfl, hb⟩
       have e0 := blk_below (blk_below GB.out H1.out) ((below_alloc (Below.refl _ w1) (.cells #[(.string ⟨#[]⟩), (.string ⟨#[]⟩), (.slice none 0 0), (.slice none 0 0)] 44)).trans (hb.mono (by simp)))
       have f0 := blk_frozen e0 0
       have f1 := blk_frozen e0 1
       have f2 := blk_frozen e0 2
       have f3 := blk_frozen e0 3
       obtain ⟨q0, q1, q2, q3⟩ := cells4 e0
       have H2 := Lib.hid (And.intro e0 hb)
       clear e0 hb))
  have e4 := set4_blk H2.out.1 (.string ⟨#[]⟩) (.string ⟨#[]⟩) (.slice A2 0 c2) (.slice A3 0 c3)
  refine bodyPost_ret (results_row_t rfl _ _ w.heap.size _ _ _ _ _ rfl e4) rfl ⟨A2, c2, A3, c3, rfl, ?_⟩
  have hb0 := below_alloc (Below.refl _ w) (.cells #[(.string ⟨#[]⟩), (.string ⟨#[]⟩), (.slice none 0 0), (.slice none 0 0)] 44)
  have hb1 := hb0.trans (H1.out.mono (by simp))
  have hb2 := hb1.trans (((below_alloc (Below.refl _ w1) (.cells #[(.string ⟨#[]⟩), (.string ⟨#[]⟩), (.slice none 0 0), (.slice none 0 0)] 44)).trans (H2.out.2.mono (by simp))).mono (below_size hb1))
  exact hb2.trans ((set4_mut _ _ _ _ _ _).below (below_size hb2) (fun k _ hk => by omega))
theorem sm0 : StSm ⟨[], [], [], [], 0⟩ := ⟨by simp [mkeys], by simp, by simp [mkeys], by simp, by simp, by simp, by simp⟩
theorem paths0 (w : World) (B : Bl) (h : StoreAt w B ⟨[], [], [], [], 0⟩) : Calls Tryz.prog 40 #[.pointer (some ⟨B.sb, 0, none⟩)] w fun e w' => ∃ A c, e = .returned (.slice A 0 c) ∧ Below w.heap.size w w' := by
  refine (store_paths w B _ h sm0).mono fun e w' h => ?_
  obtain ⟨v, rfl, hR, hb⟩ := h
  have e : srt (mkeys ([] : List (ByteArray × Row))) = [] := by simp [srt, mkeys]
  rw [e] at hR
  obtain ⟨A, c, rfl⟩ := Kd.R_slice hR
  exact ⟨A, c, rfl, hb⟩
theorem roots0 (w : World) (B : Bl) (h : StoreAt w B ⟨[], [], [], [], 0⟩) : Calls Tryz.prog 60 #[.pointer (some ⟨B.sb, 0, none⟩)] w fun e w' => ∃ A c, e = .returned (.slice A 0 c) ∧ Below w.heap.size w w' := by
  refine (store_roots w B _ h sm0).mono fun e w' h => ?_
  obtain ⟨v, rfl, hR, hb⟩ := h
  have e : srt (mkeys ([] : List (ByteArray × Unit))) = [] := by simp [srt, mkeys]
  rw [e] at hR
  obtain ⟨A, c, rfl⟩ := Kd.R_slice hR
  exact ⟨A, c, rfl, hb⟩
theorem nil_same (w : World) (B : Bl) (h : StoreAt w B ⟨[], [], [], [], 0⟩) : Calls Tryz.prog 54 #[.pointer none, .pointer (some ⟨B.sb, 0, none⟩)] w fun e w' => e = .returned (.bool true) ∧ Below w.heap.size w w' := by
  have H := Lib.hid h
  have hp := fun W (h : StoreAt W B ⟨[], [], [], [], 0⟩) => paths0 W B h
  have hr := fun W (h : StoreAt W B ⟨[], [], [], [], 0⟩) => roots0 W B h
  have HP := Lib.hid (And.intro hp hr)
  clear h hp hr
  go_enter Tryz.func54, Tryz.ntmps54
  go_wp2_with (go_at_call 40; (with_reducible refine (nil_paths _).mono ?_); rintro e w2 ⟨rfl, rfl⟩)
  go_loopg [14] 0 (fun n v14 w' => v14 = .int .i64 0 ∧ w' = w)
  case atStart => exact ⟨rfl, rfl⟩
  case round =>
    obtain ⟨rfl, rfl⟩ := hrel
    go_wp2_with (first
      | (go_at_call 40; (with_reducible refine (nil_paths _).mono ?_); rintro e w2 ⟨rfl, rfl⟩)
      | (go_at_call 40; (with_reducible refine (HP.out.1 _ H.out).mono ?_); rintro e w2 ⟨A, c, rfl, hb⟩; have H2 := Lib.hid hb; clear hb)
      | (go_at_call 99; (with_reducible refine (equal0 w2 none A 0 c).mono ?_); rintro e w3 ⟨rfl, hb⟩; have H3 := Lib.hid (H2.out.trans (hb.mono (below_size H2.out))); clear hb)
      | (go_at_call 60; (with_reducible refine (nil_roots _).mono ?_); rintro e w4 ⟨rfl, rfl⟩)
      | (go_at_call 60; (with_reducible refine (HP.out.2 _ (H.out.below H3.out)).mono ?_); rintro e w4 ⟨A4, c4, rfl, hb⟩; have H4 := Lib.hid (H3.out.trans (hb.mono (below_size H3.out))); clear hb)
      | (go_at_call 99; (with_reducible refine (equal0 w4 none A4 0 c4).mono ?_); rintro e w5 ⟨rfl, hb⟩; have H5 := Lib.hid (H4.out.trans (hb.mono (below_size H4.out))); clear hb))
    go_returns
    exact ⟨rfl, H5.out⟩
end Go.Proofs.YtdhghaiifeienaaGreatDoor

/- The law's own walk through a store (godownlaw10.fresh). -/
set_option linter.unusedVariables false
set_option linter.unusedSimpArgs false
namespace Go.Proofs.YtdhghaiifeienaaGreatDoor
open Go.RowKit Go.Proofs.YtdhghaiifeienaaGreatDoorW.PrintWords

theorem row1_arch (w : World) (p n : ByteArray) (v2 : Value) (arch : List Int) (h2 : (Kd.int .u8).R 5 w 0 tr v2 arch) : RowsC (w.alloc (.cells #[.string p, .string n, v2, .slice none 0 0] 44)) (some ⟨w.heap.size, 0, none⟩) [⟨p, n, arch, []⟩] := by
  obtain ⟨A2, c2, rfl⟩ := Kd.R_slice h2
  refine RowsC.of_R (base := 0) (ok := tr) (c := 1) (n := 1) ⟨fun _ _ => trivial, [.string p, .string n, .slice A2 arch.length c2, .slice none 0 0], ?_, ⟨rfl, fun j q hq => ?_⟩⟩
  · have h2 := World.ownsRow_lit (base := 0) (e := 44) (size := 4) w #[.string p, .string n, .slice A2 arch.length c2, .slice none 0 0] 1 (Nat.zero_le _) (by unfold maxLen; omega) (by simp)
    simpa [show kRow.sz = 4 from rfl] using h2
  · match j, hq with
    | 0, hq =>
      injection hq with hq
      subst hq
      refine kRow_mkM _ _ _ _ (Kd.R_mono (Kd.R_below (Kd.R_bound h2) (below_alloc (Below.refl _ w) _)) (fun k hk => ⟨trivial, fun he => ?_⟩)) (Kd.R_nil _ _ _ _ _)
      have h3 : k = w.heap.size := by simpa [Value.ownBlock] using he
      have := hk.2.2.1
      omega
theorem put_one (x : Row) (hf : fitsB x = true) (hr : x.refs = []) : putA ⟨[], [], [], [], 0⟩ [x] = (⟨[(x.path, x)], [], [], [(x.path, 1)], 1⟩, 0) := by
  have h1 : mayE [] x = 0 := by unfold mayE; rw [if_pos hf, hr]; rfl
  have h2 : stageL [x] [] [] = ([(x.path, x)], [x], 0) := by
    unfold stageL
    rw [if_neg (by simp [mlook]), if_pos h1]
    rfl
  unfold putA
  rw [h2]
  have h3 : IntKind.u64.wrap (0 + 1) = 1 := by decide
  simp only [if_true, if_neg (show ([x] : List Row) ≠ [] by simp), h3]
  simp [linkR, hr, touchL, mset]
def rM : Row := ⟨pathOf sN [1] [], sN, [1], []⟩
theorem rM_ok : RowOk rM ∧ Ris rM.refs := ⟨⟨right_sN, by simp [rM], by simp [rM], by simp [rM]⟩, Ris.nil⟩
theorem rM_fits : fitsB rM = true := (fitsB_iff _).2 rfl
theorem one_bytes (w : World) : Own (Kd.int .u8) 5 w (w.alloc (.cells #[.int .u8 1] 5)) (.slice (some ⟨w.heap.size, 0, none⟩) 1 1) [1] := own_lit_int w 5 .u8 [1] (by simp)
theorem make_rM (W : World) (AH : Option Addr) (cH : Nat) (AK : Option Addr) (cK : Nat) (A : Option Addr) (hh : HashV W AH AK) (hC : (Kd.int .u8).C W A 1 [1]) : Calls Tryz.prog 39 #[.agg #[.slice AH 8 cH, .slice AK 64 cK], .string { data := #[110] }, .slice A 1 1, .slice none 0 0] W fun e w' => e = .returned (.tuple #[.string rM.path, .int .i64 0]) ∧ Below W.heap.size W w' :=
  r07_Make0 W AH cH AK cK sN A 1 [1] hh hC (by intro x hx; rw [List.mem_singleton] at hx; omega) (by simp) right_sN
theorem version_S0 (w : World) (B : Bl) (h : StoreAt w B S0) : Calls Tryz.prog 41 #[.pointer (some ⟨B.sb, 0, none⟩)] w fun e w' => e = .returned (.int .u64 0) ∧ w = w' := store_version w B S0 h
theorem put_rM (w : World) (B : Bl) (p : ByteArray) (hp : p = rM.path) (A : Option Addr) (h : StoreAt w B S0) (hg : Glob w) (h0 : ¬ StF B S0 0) (h1 : ¬ StF B S0 1) (hl : RowsC w A [⟨p, sN, [1], []⟩]) :
    Calls Tryz.prog 20 #[.pointer (some ⟨B.sb, 0, none⟩), .slice A 1 1] w fun e w' => e = .returned (.int .i64 0) ∧ Mut (StF B S0) w w' ∧
      (Calls Tryz.prog 50 #[.pointer (some ⟨B.sb, 0, none⟩), .string p] w' fun e w2 => e = .returned (.bool true) ∧ Below w'.heap.size w' w2) ∧
      ∀ W, Below w'.heap.size w' W → Calls Tryz.prog 41 #[.pointer (some ⟨B.sb, 0, none⟩)] W fun e w2 => e = .returned (.int .u64 1) ∧ W = w2 := by
  subst hp
  have hx := store_put w B S0 A 1 [rM] h hg h0 h1 hl (by simp) (fun x hx => by rw [List.mem_singleton] at hx; subst hx; exact rM_ok)
  have e : putA (St.ab S0) [rM] = _ := put_one rM rM_fits rfl
  rw [e] at hx
  refine hx.mono fun e w' h => ?_
  obtain ⟨he, B', S', hp⟩ := h
  have hr : S'.rows = [(rM.path, rM)] := congrArg Ab.rows hp.ab
  have hv : S'.ver = 1 := congrArg Ab.ver hp.ab
  refine ⟨he, hp.mt, ?_, fun W hW => ?_⟩
  · have h1 := store_has w' B' S' rM.path hp.at_
    rw [hr] at h1
    have e1 : (mlook [(rM.path, rM)] rM.path).isSome = true := by simp [mlook]
    rw [e1, Bl.ptr, hp.sb] at h1
    exact h1
  · have h1 := store_version W B' S' (hp.at_.below hW)
    rw [hv, Bl.ptr, hp.sb] at h1
    exact h1
set_option maxRecDepth 20000 in
set_option maxHeartbeats 4000000 in
theorem fresh_true (w : World) (hg : Glob w) :
    Calls Tryz.prog 38 #[] w fun e w' => e = .returned (.bool true) ∧ Below w.heap.size w w' := by
  have HG := Lib.hid hg
  obtain ⟨p, hp⟩ : ∃ p, p = rM.path := ⟨_, rfl⟩
  have HP := Lib.hid hp
  have hmk := fun W AH cH AK cK A (hh : HashV W AH AK) (hC : (Kd.int .u8).C W A 1 [1]) => Lib.hid (make_rM W AH cH AK cK A hh hC)
  rw [← hp] at hmk
  have HMk := Lib.hid hmk
  clear hg hp hmk
  go_enter Tryz.func38, Tryz.ntmps38
  go_wp2_with (first
    | (go_at_call 18; (with_reducible refine (db_new _).mono ?_); rintro e w1 ⟨B, rfl, hs, hf, hb⟩; have H1 := Lib.hid (And.intro hs (And.intro hf hb)); clear hs hf hb)
    | (go_at_call 41; (with_reducible refine (version_S0 w1 B H1.out.1).mono ?_); rintro e w2 ⟨rfl, rfl⟩)
    | (go_at_call 34; (with_reducible refine (gone_delete w1 B S0 { data := #[120] } H1.out.1 rfl).mono ?_); rintro e w2 ⟨rfl, hb⟩; have H2 := Lib.hid hb; clear hb)
    | (go_at_call 28; (with_reducible refine (r10_New _).mono ?_); rintro e w3 ⟨AH, cH, AK, cK, v2, v3, v5, rfl, hh, hb⟩
       have hfl := fld0 w3 AH cH AK cK v2 v3 v5
       have ho := one_bytes w3
       have hb13 : Below w1.heap.size w1 w3 := H2.out.trans (hb.mono (below_size H2.out))
       have hb14 := hb13.trans (ho.2.mono (below_size hb13))
       obtain ⟨_, _, e9, _, hC⟩ := ho.reads
       injection e9 with e1 e2 e3
       subst e1
       clear e2 e3
       have H3 := Lib.hid (And.intro (hh.below ho.2) (And.intro hC hb14))
       clear hh hb ho hb13 hb14 hC)
    | (go_at_call 39; (with_reducible refine (HMk.out _ AH cH AK cK _ H3.out.1 H3.out.2.1).out.mono ?_); rintro e w5 ⟨rfl, hb⟩
       have hb15 := H3.out.2.2.trans (hb.mono (below_size H3.out.2.2))
       have ho := one_bytes w5
       have hl := row1_arch (w5.alloc (.cells #[.int .u8 1] 5)) p { data := #[110] } _ [1] (Kd.R_lower ho.1 (Nat.zero_le _))
       have e5 : (w5.alloc (.cells #[.int .u8 1] 5)).heap.size = w5.heap.size + 1 := by simp
       rw [e5] at hl
       have hbz : Below w5.heap.size w5 ((w5.alloc (.cells #[.int .u8 1] 5)).alloc (.cells #[.string p, .string { data := #[110] }, .slice (some ⟨w5.heap.size, 0, none⟩) 1 1, .slice none 0 0] 44)) := below_alloc (below_alloc (Below.refl _ _) _) _
       obtain ⟨W6, hW6⟩ : ∃ W, W = (w5.alloc (.cells #[.int .u8 1] 5)).alloc (.cells #[.string p, .string { data := #[110] }, .slice (some ⟨w5.heap.size, 0, none⟩) 1 1, .slice none 0 0] 44) := ⟨_, rfl⟩
       rw [← hW6] at hbz hl
       have hb16 := hb15.trans (hbz.mono (below_size hb15))
       have hb06 := H1.out.2.2.trans (hb16.mono (below_size H1.out.2.2))
       have hpt := put_rM W6 B p HP.out (some ⟨w5.heap.size + 1, 0, none⟩) (H1.out.1.below hb16) (HG.out.below hb06) (fun hk => by have := H1.out.2.1 _ hk; have := HG.out.lt.1; omega) (fun hk => by have := H1.out.2.1 _ hk; have := HG.out.lt.2; omega) hl
       have H6 := Lib.hid (And.intro hW6 (And.intro hb06 hpt))
       clear hb hb15 ho hl e5 hbz hb16 hb06 hpt hW6)
    | (go_at_call 20; (rw [← H6.out.1]); (with_reducible refine H6.out.2.2.mono ?_); rintro e w7 ⟨rfl, hm, hh, hv⟩
       have hb7 : Below w.heap.size w w7 := H6.out.2.1.trans (hm.below (below_size H6.out.2.1) (fun k _ hk => H1.out.2.1 k hk))
       have H7 := Lib.hid (And.intro hb7 (And.intro hh hv))
       clear hm hh hv hb7)
    | (go_at_call 50; (with_reducible refine H7.out.2.1.mono ?_); rintro e w8 ⟨rfl, hb⟩; have H8 := Lib.hid hb; clear hb)
    | (go_at_call 41; (with_reducible refine (H7.out.2.2 w8 H8.out).mono ?_); rintro e w9 ⟨rfl, rfl⟩)
    | fail)
  go_returns
  exact ⟨rfl, H7.out.1.trans (H8.out.mono (below_size H7.out.1))⟩
end Go.Proofs.YtdhghaiifeienaaGreatDoor

/- godownlaw10.DbNil. -/
set_option linter.unusedVariables false
set_option linter.unusedSimpArgs false
namespace Go.Proofs.YtdhghaiifeienaaGreatDoor
open Go.RowKit Go.Proofs.YtdhghaiifeienaaGreatDoorW.PrintWords

theorem stamp_nil' (w : World) (p : ByteArray) : Calls Tryz.prog 23 #[.pointer none, .string p] w fun e w' => e = .returned (.int .u64 0) ∧ w = w' := stamp_nil w p
set_option maxRecDepth 20000 in
set_option maxHeartbeats 4000000 in
theorem dbNil_true (w : World) (hg : Glob w) (p : ByteArray) :
    Calls Tryz.prog 14 #[.string p] w fun e w' => e = .returned (.bool true) ∧ Below w.heap.size w w' := by
  have HG := Lib.hid hg
  clear hg
  go_enter Tryz.func14, Tryz.ntmps14
  go_wp2_with (first
    | (go_at_call 46; (with_reducible refine (nil_get _ p).mono ?_); rintro e w1 ⟨A2, c2, A3, c3, rfl, hb⟩; have H1 := Lib.hid hb; clear hb)
    | (go_at_call 20; (with_reducible refine (nil_put _ none 0 0).mono ?_); rintro e w2 ⟨rfl, rfl⟩)
    | (go_at_call 38; (with_reducible refine (fresh_true _ (HG.out.below (below_alloc H1.out _))).mono ?_); rintro e w3 ⟨rfl, hb⟩; have h0 := below_alloc H1.out (.cells #[(.string ⟨#[]⟩), (.string ⟨#[]⟩), (.slice A2 0 c2), (.slice A3 0 c3)] 44); have H3 := Lib.hid (h0.trans (hb.mono (below_size h0))); clear hb h0)
    | (go_at_call 50; (with_reducible refine (nil_has _ p).mono ?_); rintro e w4 ⟨rfl, hb⟩; have H4 := Lib.hid (H3.out.trans (hb.mono (below_size H3.out))); clear hb)
    | (go_at_call 40; (with_reducible refine (nil_paths _).mono ?_); rintro e wx ⟨rfl, rfl⟩)
    | (go_at_call 60; (with_reducible refine (nil_roots _).mono ?_); rintro e wx ⟨rfl, rfl⟩)
    | (go_at_call 51; (with_reducible refine (nil_referrers _ p).mono ?_); rintro e wx ⟨rfl, rfl⟩)
    | (go_at_call 23; (with_reducible refine (stamp_nil' _ p).mono ?_); rintro e wx ⟨rfl, rfl⟩)
    | (go_at_call 41; (with_reducible refine (nil_version _).mono ?_); rintro e wx ⟨rfl, rfl⟩)
    | (go_at_call 52; (with_reducible refine (nil_unroot _ p).mono ?_); rintro e wx ⟨rfl, rfl⟩)
    | (go_at_call 56; (with_reducible refine (nil_refs _ p).mono ?_); rintro e w5 ⟨A5, c5, rfl, hb⟩; have H5 := Lib.hid (H4.out.trans (hb.mono (below_size H4.out))); clear hb)
    | (go_at_call 53; (with_reducible refine (nil_closure _ p).mono ?_); rintro e w6 ⟨A6, c6, rfl, hb⟩; have H6 := Lib.hid (H5.out.trans (hb.mono (below_size H5.out))); clear hb)
    | (go_at_call 57; (with_reducible refine (nil_live _).mono ?_); rintro e w7 ⟨A7, c7, rfl, hb⟩; have H7 := Lib.hid (H6.out.trans (hb.mono (below_size H6.out))); clear hb)
    | (go_at_call 42; (with_reducible refine (nil_sweep _).mono ?_); rintro e w8 ⟨rfl, hb⟩; have H8 := Lib.hid (H7.out.trans (hb.mono (below_size H7.out))); clear hb)
    | (go_at_call 32; (with_reducible refine (nil_root _ p).mono ?_); rintro e w9 ⟨rfl, hb⟩; have H9 := Lib.hid (H8.out.trans (hb.mono (below_size H8.out))); clear hb)
    | (go_at_call 34; (with_reducible refine (nil_delete _ p).mono ?_); rintro e w10 ⟨rfl, hb⟩; have H10 := Lib.hid (H9.out.trans (hb.mono (below_size H9.out))); clear hb)
    | (go_at_call 49; (with_reducible refine (nil_check _).mono ?_); rintro e w11 ⟨rfl, hb⟩; have H11 := Lib.hid (H10.out.trans (hb.mono (below_size H10.out))); clear hb)
    | (go_at_call 18; (with_reducible refine (db_new _).mono ?_); rintro e w12 ⟨B, rfl, hs, hf, hb⟩; have H12 := Lib.hid (And.intro hs (H11.out.trans (hb.mono (below_size H11.out)))); clear hs hf hb)
    | (go_at_call 54; (with_reducible refine (nil_same _ B H12.out.1).mono ?_); rintro e w13 ⟨rfl, hb⟩; have H13 := Lib.hid (H12.out.2.trans (hb.mono (below_size H12.out.2))); clear hb)
    | fail)
  go_returns
  exact ⟨rfl, H13.out⟩
end Go.Proofs.YtdhghaiifeienaaGreatDoor

/-
  PROVED: godownlaw10.DbNil returns true for every input (a path), its argument reading as it read before; the tied card of that statement.
  CONDITIONS: the listed variables (godown/hash.first, godown/hash.keys, unicode/utf8.acceptRanges, unicode/utf8.first) read as their initialisers lay them when the call begins; no other premise.
-/
set_option linter.unusedVariables false
set_option linter.unusedSimpArgs false
namespace Go.Proofs.YtdhghaiifeienaaGreatDoor
open Go.ChangeShapes Go.WideShapes Go.ChangeAt Go.RowKit Go.WideMaps Go.WideElems
open Go.ChangeMaps (open_string shut_string)

set_option maxRecDepth 100000 in
theorem dbNil_lifted (os : Os) (started : os.Started) (H : Type) (enc : TypeId × Value → H) :
    ReturnsInHanded {} Tryz.checked os 14 .any (fun w args => (Rows.dbNilSpec.pre enc Tryz.prog Tryz.f14 [] false w args ∧ laidMetH Tryz.prog Rows.dbNilRow.laid w) ∧ sizedMet enc Tryz.prog Tryz.f14 (OpenSpec.ofChange Rows.dbNilSpec) false w args)
      (Rows.dbNilSpec.post enc Tryz.prog Tryz.f14 false true false false) := by
  refine returnsInHanded_of_change_and (C := Tryz.checked) (X := fun w _ => laidMetH Tryz.prog Rows.dbNilRow.laid w) (fun _ _ _ hh h => h.of_heap hh) own started (by kernel_rfl) Tryz.func14
    (ChangeSpec.witness_shaped (enc := enc) (C := Tryz.checked) (os := os) (X := fun w _ => laidMetH Tryz.prog Rows.dbNilRow.laid w) false (World.laidAll Tryz.prog os Rows.dbNilRow.laid) #[.string ⟨#[]⟩] 8 (World.laidAll_os _ _ _)
      (World.shaped_of_ZipB (by kernel_rfl) (by kernel_rfl)) (by kernel_rfl) (by kernel_rfl) (by kernel_rfl)
      (by rw [MakeChecks.laidMetH_plain _ _ _ (by kernel_rfl)]; exact laidMet_laidAll _ (by kernel_rfl) (by kernel_rfl))) ?_
  intro W base args ds gs before hval0 hW _ _ hL _
  have hval : ∀ (j : Nat) t v, Tryz.f14.params[j]? = some t → args[j]? = some v → Value.okWide Tryz.prog W .any base t v := hval0
  have hW' := hW
  obtain ⟨p, q, hA0, hV, rfl, _, _⟩ := hW
  have hA : DataW.TrodAll enc Tryz.prog W 0 (fun _ => true) true Tryz.f14.params.toList args.toList ds p := hA0
  rw [Tryz.params14] at hA hval
  obtain ⟨v0, d0, rfl, rfl, h0⟩ := trodAll_one hA
  obtain ⟨rfl, rfl⟩ := trodVars_none hV
  obtain ⟨x0, rfl, rfl, rfl, w0⟩ := open_string Tryz.underlying9 (hval 0 9 v0 rfl rfl) h0
  simp only [List.append_nil] at hW'
  rw [MakeChecks.laidMetH_plain _ _ _ (by kernel_rfl)] at hL
  have G : Glob W := glob_of_laid hL
  refine (dbNil_true W G x0).mono fun e W' ⟨he, hb⟩ => ?_
  subst he
  exact ⟨_, rfl, _, _, _, [], [], [], hW', trodAll_mk1 (shut_bool Tryz.underlying4 _), trodAll_mk1 (shut_string Tryz.underlying9 w0), rfl, hb.frame _, fun h => by cases h⟩
theorem dbNil_said : Rows.DbNilSaid :=
  OpenClaim.holds_of_wide 14 Tryz.f14 rfl rfl rfl rfl rfl rfl rfl ⟨rfl, rfl, rfl, rfl, rfl⟩ rfl rfl rfl rfl rfl (by kernel_rfl) Tryz.func14 (by kernel_rfl)
    (of_decide_eq_true (by kernel_rfl)) (by unfold Func.isWrapper; first | (rw [if_pos (by decide +kernel)]; kernel_rfl) | (rw [if_neg (by decide +kernel)]; exact ⟨rfl, rfl⟩))
    (fun os started H enc _ => dbNil_lifted os started H enc)
theorem dbNil_card : Rows.DbNilCardSaid :=
  Claim7.holds_tied_plain_at .later [] [.data, .data, .data, .pinned] true (true, "7324d8dd0ec1e47197671a9410b7dbd30e44e3433805b53f741a49c43bee2065") false
    dbNil_said (fun _ h => by cases h) (by kernel_rfl) (fun _ h => by cases h) dbNil_row_tie rfl ⟨rfl, rfl⟩ (by kernel_rfl) rfl
    (fun f fn hf hfn => by
      obtain rfl : f = 14 := Option.some.inj ((show Tryz.prog.funcNamed "godown/godownlaw10.DbNil" = some 14 by kernel_rfl).symm.trans hf) |>.symm
      obtain rfl : fn = Tryz.f14 := (Option.some.inj (Tryz.func14.symm.trans hfn)).symm
      exact ⟨by kernel_rfl, fun j t ht => by
        rw [Tryz.params14] at ht
        have hm : t ∈ [9] := by simpa using Array.mem_of_getElem? ht
        have hall : ([9].all fun u => !Tryz.prog.wantsStandIn u) = true := by kernel_rfl
        exact (show Tryz.prog.wantsStandIn t = false by simpa using List.all_eq_true.1 hall t hm)⟩)
    (by kernel_rfl)
end Go.Proofs.YtdhghaiifeienaaGreatDoor
