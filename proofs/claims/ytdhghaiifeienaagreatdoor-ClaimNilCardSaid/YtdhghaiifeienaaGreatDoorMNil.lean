/-
  PROVED: godownlaw16.ClaimNil returns true for every input (an owner, a path, a stamp), its arguments reading as they read before; the tied card of that statement.
  CONDITIONS: the listed variables (godown/hash.first, godown/hash.keys, unicode/utf8.acceptRanges, unicode/utf8.first) read as their initialisers lay them when the call begins; no other premise.
-/
import Derived.Test.YtdhghaiifeienaaGreatDoorME
import Derived.Test.YtdhghaiifeienaaGreatDoorTie
import Derived.Test.YtdhghaiifeienaaGreatDoorCards
import Derived.SevenTiedAt

/- godownlaw16.ClaimNil. -/
set_option linter.unusedVariables false
set_option linter.unusedSimpArgs false
namespace Go.Proofs.YtdhghaiifeienaaGreatDoor
open Go.RowKit Go.Proofs.YtdhghaiifeienaaGreatDoorW.PrintWords

theorem StOr.none_ (w : World) : StOr w (.pointer none) [] := Or.inl ⟨rfl, rfl⟩
set_option maxRecDepth 20000 in
set_option maxHeartbeats 4000000 in
theorem claimNil_true (w : World) (hg : Glob w) (o : Int) (p : ByteArray) (at' : Int) :
    Calls Tryz.prog 5 #[.int .i64 o, .string p, .int .u64 at'] w fun e w' => e = .returned (.bool true) ∧ Below w.heap.size w w' := by
  have HG := Lib.hid hg
  clear hg
  go_enter Tryz.func5, Tryz.ntmps5
  go_wp2_with (first
    | (go_at_call 22; (with_reducible refine (book_note_nil _ o p at').mono ?_); rintro e w1 ⟨rfl, rfl⟩)
    | (go_at_call 26; (with_reducible refine (book_drop_nil _ o).mono ?_); rintro e w1 ⟨rfl, rfl⟩)
    | (go_at_call 15; (with_reducible refine (touched_true _ HG.out).mono ?_); rintro e w1 ⟨rfl, hb⟩; have H1 := Lib.hid hb; clear hb)
    | (go_at_call 25; (with_reducible refine (book_of_nil _ o).mono ?_); rintro e w2 ⟨rfl, rfl⟩)
    | (go_at_call 27; (with_reducible refine (book_owners_nil _).mono ?_); rintro e w2 ⟨rfl, rfl⟩)
    | (go_at_call 18; (with_reducible refine (db_new _).mono ?_); rintro e w3 ⟨B, rfl, hs, hf, hb⟩; have hor : StOr w3 (.pointer (some ⟨B.sb, 0, none⟩)) [] := Or.inr ⟨B, S0, rfl, hs, rfl⟩; have H3 := Lib.hid (And.intro hor hb); clear hs hf hb hor)
    | (go_at_call 24; (with_reducible refine (book_fresh_nil _ o (some ⟨B.sb, 0, none⟩) [] H3.out.1).mono ?_); rintro e w4 ⟨rfl, hb⟩; have H4 := Lib.hid hb; clear hb)
    | (go_at_call 24; (with_reducible refine (book_fresh_nil _ o none [] (StOr.none_ _)).mono ?_); rintro e w5 ⟨rfl, hb⟩; have H5 := Lib.hid hb; clear hb)
    | fail)
  go_returns
  have hb3 := H1.out.trans (H3.out.2.mono (below_size H1.out))
  have hb4 := hb3.trans (H4.out.mono (below_size hb3))
  exact ⟨rfl, hb4.trans (H5.out.mono (below_size hb4))⟩
end Go.Proofs.YtdhghaiifeienaaGreatDoor

/-
  PROVED: godownlaw16.ClaimNil returns true for every input (an owner, a path, a stamp), its arguments reading as they read before; the tied card of that statement.
  CONDITIONS: the listed variables (godown/hash.first, godown/hash.keys, unicode/utf8.acceptRanges, unicode/utf8.first) read as their initialisers lay them when the call begins; no other premise.
-/
set_option linter.unusedVariables false
set_option linter.unusedSimpArgs false
namespace Go.Proofs.YtdhghaiifeienaaGreatDoor
open Go.ChangeShapes Go.WideShapes Go.ChangeAt Go.RowKit Go.WideMaps Go.WideElems
open Go.ChangeMaps (open_string shut_string)

set_option maxRecDepth 100000 in
theorem claimNil_lifted (os : Os) (started : os.Started) (H : Type) (enc : TypeId × Value → H) :
    ReturnsInHanded {} Tryz.checked os 5 .any (fun w args => (Rows.claimNilSpec.pre enc Tryz.prog Tryz.f5 [] false w args ∧ laidMetH Tryz.prog Rows.claimNilRow.laid w) ∧ sizedMet enc Tryz.prog Tryz.f5 (OpenSpec.ofChange Rows.claimNilSpec) false w args)
      (Rows.claimNilSpec.post enc Tryz.prog Tryz.f5 false true false false) := by
  refine returnsInHanded_of_change_and (C := Tryz.checked) (X := fun w _ => laidMetH Tryz.prog Rows.claimNilRow.laid w) (fun _ _ _ hh h => h.of_heap hh) own started (by kernel_rfl) Tryz.func5
    (ChangeSpec.witness_shaped (enc := enc) (C := Tryz.checked) (os := os) (X := fun w _ => laidMetH Tryz.prog Rows.claimNilRow.laid w) false (World.laidAll Tryz.prog os Rows.claimNilRow.laid) #[.int .i64 0, .string ⟨#[]⟩, .int .u64 0] 8 (World.laidAll_os _ _ _)
      (World.shaped_of_ZipB (by kernel_rfl) (by kernel_rfl)) (by kernel_rfl) (by kernel_rfl) (by kernel_rfl)
      (by rw [MakeChecks.laidMetH_plain _ _ _ (by kernel_rfl)]; exact laidMet_laidAll _ (by kernel_rfl) (by kernel_rfl))) ?_
  intro W base args ds gs before hval0 hW _ _ hL _
  have hval : ∀ (j : Nat) t v, Tryz.f5.params[j]? = some t → args[j]? = some v → Value.okWide Tryz.prog W .any base t v := hval0
  have hW' := hW
  obtain ⟨p, q, hA0, hV, rfl, _, _⟩ := hW
  have hA : DataW.TrodAll enc Tryz.prog W 0 (fun _ => true) true Tryz.f5.params.toList args.toList ds p := hA0
  rw [Tryz.params5] at hA hval
  obtain ⟨v0, v1, v2, d0, d1, d2, _, _, _, rfl, rfl, rfl, h0, h1, h2⟩ := trodAll_three hA
  obtain ⟨rfl, rfl⟩ := trodVars_none hV
  obtain ⟨o, rfl, rfl, rfl, wo⟩ := open_int Tryz.underlying3 (hval 0 3 v0 rfl rfl) h0
  obtain ⟨s, rfl, rfl, rfl, ws⟩ := open_string Tryz.underlying9 (hval 1 9 v1 rfl rfl) h1
  obtain ⟨u, rfl, rfl, rfl, wu⟩ := open_int Tryz.underlying26 (hval 2 26 v2 rfl rfl) h2
  simp only [List.append_nil] at hW'
  rw [MakeChecks.laidMetH_plain _ _ _ (by kernel_rfl)] at hL
  refine (claimNil_true W (glob_of_laid hL) o s u).mono fun e W' ⟨he, hb⟩ => ?_
  subst he
  exact ⟨_, rfl, _, _, _, [], [], [], hW', trodAll_mk1 (shut_bool Tryz.underlying4 _), trodAll_mk3 (shut_int Tryz.underlying3 wo) (shut_string Tryz.underlying9 ws) (shut_int Tryz.underlying26 wu), rfl, hb.frame _, fun h => by cases h⟩
theorem claimNil_said : Rows.ClaimNilSaid :=
  OpenClaim.holds_of_wide 5 Tryz.f5 rfl rfl rfl rfl rfl rfl rfl ⟨rfl, rfl, rfl, rfl, rfl⟩ rfl rfl rfl rfl rfl (by kernel_rfl) Tryz.func5 (by kernel_rfl)
    (of_decide_eq_true (by kernel_rfl)) (by unfold Func.isWrapper; first | (rw [if_pos (by decide +kernel)]; kernel_rfl) | (rw [if_neg (by decide +kernel)]; exact ⟨rfl, rfl⟩))
    (fun os started H enc _ => claimNil_lifted os started H enc)
theorem claimNil_card : Rows.ClaimNilCardSaid :=
  Claim7.holds_tied_plain_at .later [] [.data, .data, .data, .pinned] true (true, "7324d8dd0ec1e47197671a9410b7dbd30e44e3433805b53f741a49c43bee2065") false
    claimNil_said (fun _ h => by cases h) (by kernel_rfl) (fun _ h => by cases h) claimNil_row_tie rfl ⟨rfl, rfl⟩ (by kernel_rfl) rfl
    (fun f fn hf hfn => by
      obtain rfl : f = 5 := Option.some.inj ((show Tryz.prog.funcNamed "godown/godownlaw16.ClaimNil" = some 5 by kernel_rfl).symm.trans hf) |>.symm
      obtain rfl : fn = Tryz.f5 := (Option.some.inj (Tryz.func5.symm.trans hfn)).symm
      exact ⟨by kernel_rfl, fun j t ht => by
        rw [Tryz.params5] at ht
        have hm : t ∈ [3, 9, 26] := by simpa using Array.mem_of_getElem? ht
        have hall : ([3, 9, 26].all fun u => !Tryz.prog.wantsStandIn u) = true := by kernel_rfl
        exact (show Tryz.prog.wantsStandIn t = false by simpa using List.all_eq_true.1 hall t hm)⟩)
    (by kernel_rfl)
end Go.Proofs.YtdhghaiifeienaaGreatDoor
