/- The store (package db): may a row be put? -/
import Derived.Test.YtdhghaiifeienaaGreatDoorMS
import Derived.Test.YtdhghaiifeienaaGreatDoorMP

/- The store (package db): may a row be put? -/
set_option linter.unusedVariables false
set_option linter.unusedSimpArgs false
namespace Go.Proofs.YtdhghaiifeienaaGreatDoor
open Go.RowKit Go.Proofs.YtdhghaiifeienaaGreatDoorW.PrintWords

/-- A store whose rows can be read, whatever its journal holds. -/
structure RowsAt (w : World) (sb tb lb : Nat) (rows : List (ByteArray × Row)) : Prop where
  c0 : w.cell? ⟨sb, 0, none⟩ = some (.pointer (some ⟨tb, 0, none⟩))
  t0 : w.cell? ⟨tb, 0, none⟩ = some (.map (some lb))
  map : MapAt Value.string (RowV w) w lb rows
section
variable {w w1 : World} {sb tb lb : Nat} {rows : List (ByteArray × Row)}
theorem cell_belowR {w w1 : World} {a : Addr} {v : Value} (h : w.cell? a = some v) (hb : Below w.heap.size w w1) : w1.cell? a = some v := by
  have hl := World.block_lt_of_cell? w _ h
  unfold World.cell? at h ⊢
  rw [hb.block _ hl]; exact h
theorem RowsAt.below (h : RowsAt w sb tb lb rows) (hb : Below w.heap.size w w1) : RowsAt w1 sb tb lb rows :=
  ⟨cell_belowR h.c0 hb, cell_belowR h.t0 hb, rows_move h.map (hb.block _ h.map.lt) (KeepT.of_below hb)⟩
theorem StoreAt.rowsAt {B : Bl} {S : St} (h : StoreAt w B S) : RowsAt w B.sb B.tb B.lb S.rows := ⟨h.cells.1, h.tab.cell0, h.tab.map⟩
end
set_option maxRecDepth 20000 in
theorem rows_row (w : World) (sb tb lb : Nat) (rows : List (ByteArray × Row)) (p : ByteArray) (h : RowsAt w sb tb lb rows) :
    Calls Tryz.prog 92 #[.pointer (some ⟨sb, 0, none⟩), .string p] w fun e w' => ∃ v, e = .returned (.tuple #[v, .bool (mlook rows p).isSome]) ∧ RowV w' ((mlook rows p).getD zRow) v ∧ Below w.heap.size w w' := by
  have c0 := h.c0
  have hlt := World.block_lt_of_cell? w _ c0
  have hlt1 : sb < w.heap.size + 1 := Nat.lt_succ_of_lt hlt
  have hb0 : Below w.heap.size w (w.alloc (.cells #[(.string ⟨#[]⟩), (.string ⟨#[]⟩), (.slice none 0 0), (.slice none 0 0)] 44)) := below_alloc (Below.refl _ _) _
  have HT := Lib.hid (h.below hb0)
  have gB := heap_alloc_new w (.cells #[(.string ⟨#[]⟩), (.string ⟨#[]⟩), (.slice none 0 0), (.slice none 0 0)] 44)
  clear h
  go_enter Tryz.func92, Tryz.ntmps92
  go_wp2_with (go_at_call 126; (with_reducible refine (table_get _ tb lb rows p HT.out.t0 HT.out.map).mono ?_); rintro e w' ⟨v, rfl, hv, hb⟩; obtain ⟨A2, c2', A3, c3', rfl, hb2, hb3⟩ := hv.open_; have e0 := blk_below gB hb; have f0 := blk_frozen e0 0; have f1 := blk_frozen e0 1; have f2 := blk_frozen e0 2; have f3 := blk_frozen e0 3; obtain ⟨q0, q1, q2, q3⟩ := cells4 e0)
  have e4 := set4_blk e0 (.string ((mlook rows p).getD zRow).path) (.string ((mlook rows p).getD zRow).name) (.slice A2 ((mlook rows p).getD zRow).arch.length c2') (.slice A3 ((mlook rows p).getD zRow).refs.length c3')
  refine bodyPost_ret (results_row_t rfl _ _ w.heap.size _ _ _ _ _ rfl e4) rfl ⟨_, rfl, hv.set4 e0 _ _ _ _, ?_⟩
  exact (hb0.trans (hb.mono (by simp))).trans ((set4_mut _ _ _ _ _ _).below (by have := hb.size; simp at this; omega) (fun k _ hk => by omega))
theorem rows_has (w : World) (sb tb lb : Nat) (rows : List (ByteArray × Row)) (p : ByteArray) (h : RowsAt w sb tb lb rows) :
    Calls Tryz.prog 50 #[.pointer (some ⟨sb, 0, none⟩), .string p] w fun e w' => e = .returned (.bool (mlook rows p).isSome) ∧ Below w.heap.size w w' := by
  go_enter Tryz.func50, Tryz.ntmps50
  go_wp2_with (go_at_call 92; (with_reducible refine (rows_row w sb tb lb rows p h).mono ?_); rintro e w' ⟨v, rfl, hv, hb⟩; obtain ⟨A2, c2', A3, c3', rfl, hb2, hb3⟩ := hv.open_)
  go_returns
  exact ⟨rfl, below_alloc hb _⟩
theorem rows_len (w : World) (tb lb : Nat) (rows : List (ByteArray × Row)) (d0 : w.cell? ⟨tb, 0, none⟩ = some (.map (some lb))) (hm : MapAt Value.string (RowV w) w lb rows) :
    Calls Tryz.prog 138 #[.pointer (some ⟨tb, 0, none⟩)] w fun e w' => e = .returned (.int .i64 rows.length) ∧ w = w' := by
  go_enter Tryz.func138, Tryz.ntmps138
  go_wp2_with (with_reducible refine wp_len_at rfl (.tmp 8) 168 rfl und_rows rfl hm ?_)
  go_returns
  exact ⟨rfl, rfl⟩
def goneB (rows : List (ByteArray × Row)) (p : ByteArray) : Bool := (mlook rows p).isNone
theorem may1 (w : World) (g sb tb lb : Nat) (rows : List (ByteArray × Row)) (p : ByteArray) (h : RowsAt w sb tb lb rows) (hg : w.cell? ⟨g, 0, none⟩ = some (.pointer (some ⟨sb, 0, none⟩))) :
    Calls Tryz.prog 137 #[.string p, .pointer (some ⟨g, 0, none⟩)] w fun e w' => e = .returned (.bool (goneB rows p)) ∧ Below w.heap.size w w' := by
  go_enter Tryz.func137, Tryz.ntmps137
  go_wp2_with (go_at_call 50; (with_reducible refine (rows_has w sb tb lb rows p h).mono ?_); rintro e w' ⟨rfl, hb⟩)
  go_returns
  exact ⟨rfl, hb⟩
set_option maxRecDepth 20000 in
theorem indexFunc_may (w : World) (g sb tb lb : Nat) (rows : List (ByteArray × Row)) (A : Option Addr) (c : Nat) (xs : List ByteArray) (h : RowsAt w sb tb lb rows) (hg : w.cell? ⟨g, 0, none⟩ = some (.pointer (some ⟨sb, 0, none⟩))) (hC : Kd.string.C w A xs.length xs) (hl : xs.length ≤ 1000000) :
    Calls Tryz.prog 128 #[.slice A xs.length c, .func (.func 137) #[] #[.pointer (some ⟨g, 0, none⟩)]] w fun e w' => ∃ r : Int, e = .returned (.int .i64 r) ∧ decide (0 ≤ r) = xs.any (goneB rows) ∧ Below w.heap.size w w' := by
  have H := Lib.hid (And.intro h (And.intro hg hC))
  clear h hg hC
  go_enter Tryz.func128, Tryz.ntmps128
  go_wp2
  go_loopg [8] xs.length (fun n v8 w' => ∃ i : Nat, v8 = .int .i64 (i : Int) ∧ Hid (n + i = xs.length ∧ (xs.take i).any (goneB rows) = false ∧ Below w.heap.size w w'))
  case atStart => exact ⟨0, rfl, by omega, by simp, Below.refl _ _⟩
  case round =>
    obtain ⟨i, rfl, hrel⟩ := hrel
    obtain ⟨hn, hany, hB⟩ := hrel.out
    clear hrel
    rcases Nat.lt_or_ge i xs.length with hi | hi
    · obtain ⟨ad, rfl, d0⟩ := at_str' (Kd.C_below H.out.2.2 hB) i hi
      obtain ⟨x, hx⟩ : ∃ x, x = xs.getD i ByteArray.empty := ⟨_, rfl⟩
      rw [← hx] at d0
      have q0 : ((i : Int) < (xs.length : Int)) = True := eq_true (by omega)
      have HR := Lib.hid (And.intro hn (And.intro hany (And.intro hB (And.intro hx (And.intro (cell_belowR H.out.2.1 hB) (H.out.1.below hB))))))
      clear hn hany hB hx
      cases hs : goneB rows x
      · have HS := Lib.hid hs
        have hc1 := may1 wr g sb tb lb rows x HR.out.2.2.2.2.2 HR.out.2.2.2.2.1
        rw [hs] at hc1
        have HC1 := Lib.hid hc1
        clear hs hc1
        go_wp2_with (go_at_call 137; (with_reducible refine HC1.out.mono ?_); rintro e w' ⟨rfl, hb⟩)
        go_roundg (gk - 1)
        case measure => have := HR.out.1; omega
        case rel =>
          refine ⟨i + 1, by go_num, by have := HR.out.1; omega, ?_, HR.out.2.2.1.trans (hb.mono (below_size HR.out.2.2.1))⟩
          rw [take_snoc xs i hi ByteArray.empty, List.any_append, HR.out.2.1, ← HR.out.2.2.2.1, List.any_cons, List.any_nil, HS.out]
          rfl
      · have HS := Lib.hid hs
        have hc1 := may1 wr g sb tb lb rows x HR.out.2.2.2.2.2 HR.out.2.2.2.2.1
        rw [hs] at hc1
        have HC1 := Lib.hid hc1
        clear hs hc1
        go_wp2_with (go_at_call 137; (with_reducible refine HC1.out.mono ?_); rintro e w' ⟨rfl, hb⟩)
        go_returns
        refine ⟨i, rfl, ?_, HR.out.2.2.1.trans (hb.mono (below_size HR.out.2.2.1))⟩
        rw [decide_eq_true (by omega)]
        symm
        rw [List.any_eq_true]
        exact ⟨x, by rw [HR.out.2.2.2.1, List.getD_eq_getElem?_getD, List.getElem?_eq_getElem hi]; exact List.getElem_mem hi, HS.out⟩
    · obtain rfl : i = xs.length := by omega
      rw [List.take_length] at hany
      have HR := Lib.hid (And.intro hany hB)
      clear hn hany hB
      go_wp2
      go_returns
      exact ⟨-1, rfl, by rw [HR.out.1]; rfl, HR.out.2⟩
theorem containsFunc_may (w : World) (g sb tb lb : Nat) (rows : List (ByteArray × Row)) (A : Option Addr) (c : Nat) (xs : List ByteArray) (h : RowsAt w sb tb lb rows) (hg : w.cell? ⟨g, 0, none⟩ = some (.pointer (some ⟨sb, 0, none⟩))) (hC : Kd.string.C w A xs.length xs) (hl : xs.length ≤ 1000000) :
    Calls Tryz.prog 95 #[.slice A xs.length c, .func (.func 137) #[] #[.pointer (some ⟨g, 0, none⟩)]] w fun e w' => e = .returned (.bool (xs.any (goneB rows))) ∧ Below w.heap.size w w' := by
  have H := Lib.hid (indexFunc_may w g sb tb lb rows A c xs h hg hC hl)
  clear h hg hC
  go_enter Tryz.func95, Tryz.ntmps95
  go_wp2_with (go_at_call 128; (with_reducible refine H.out.mono ?_); rintro e w' ⟨r, rfl, hr, hb⟩)
  go_returns
  exact ⟨by rw [← hr]; rfl, hb⟩
/-- What stands against a row, by number. -/
def mayE (rows : List (ByteArray × Row)) (x : Row) : Int := if fitsB x then (if x.refs.any (goneB rows) then 6 else if rows.length < 64 then 0 else 3) else 4
set_option maxRecDepth 20000 in
set_option maxHeartbeats 2000000 in
theorem store_may (w : World) (sb tb lb : Nat) (rows : List (ByteArray × Row)) (x : Row) (v : Value) (h : RowsAt w sb tb lb rows) (hg : Glob w) (hv : RowV w x v) (hx : RowOk x) (hris : RisV w x v) :
    Calls Tryz.prog 111 #[.pointer (some ⟨sb, 0, none⟩), v] w fun e w' => e = .returned (.int .i64 (mayE rows x)) ∧ Below w.heap.size w w' := by
  obtain ⟨A2, c2, A3, c3, rfl, h2, h3⟩ := hv.open_
  have C3 := C_of_R h3
  obtain ⟨W0, hW0⟩ : ∃ W0, W0 = (w.alloc (.cells #[.pointer (some ⟨sb, 0, none⟩)] 37)).alloc (.cells #[.string x.path, .string x.name, .slice A2 x.arch.length c2, .slice A3 x.refs.length c3] 44) := ⟨_, rfl⟩
  have hB0 : Below w.heap.size w W0 := by rw [hW0]; go_grown
  have g0 : W0.heap[w.heap.size]? = some (.cells #[.pointer (some ⟨sb, 0, none⟩)] 37 (0, 0)) := by rw [hW0]; exact blk_alloc (heap_alloc_new w _) _
  have g1 : W0.heap[w.heap.size + 1]? = some (.cells #[.string x.path, .string x.name, .slice A2 x.arch.length c2, .slice A3 x.refs.length c3] 44 (0, 0)) := by
    rw [hW0]
    have := heap_alloc_new (w.alloc (.cells #[.pointer (some ⟨sb, 0, none⟩)] 37)) (.cells #[.string x.path, .string x.name, .slice A2 x.arch.length c2, .slice A3 x.refs.length c3] 44)
    simpa using this
  have H := Lib.hid (And.intro (h.below hB0) (And.intro (hg.below hB0) (And.intro (hv.below hB0) (And.intro hx (And.intro (hris.keep (KeepT.of_below hB0)) (And.intro (Kd.C_below C3 hB0) (And.intro hB0 (And.intro g0 g1))))))))
  obtain ⟨q0, q1, q2, q3⟩ := cells4 g1
  clear h hg hv hx hris h2 h3 C3 hB0 g0 g1
  have hf := name_Fits W0 x _ H.out.2.1 H.out.2.2.1 H.out.2.2.2.1 H.out.2.2.2.2.1
  cases hfb : fitsB x
  · rw [hfb] at hf
    have HF := Lib.hid hf
    have HB := Lib.hid hfb
    clear hf hfb
    go_enter Tryz.func111, Tryz.ntmps111
    go_wp2_with fail
    rw [← hW0]
    clear hW0
    go_wp2_with (go_at_call 98; (with_reducible refine HF.out.mono ?_); rintro e w1 ⟨rfl, hb1⟩)
    go_returns
    exact ⟨by unfold mayE; rw [HB.out]; rfl, H.out.2.2.2.2.2.2.1.trans (hb1.mono (below_size H.out.2.2.2.2.2.2.1))⟩
  · rw [hfb] at hf
    have HF := Lib.hid hf
    have HB := Lib.hid hfb
    clear hf hfb
    have arm : ∀ W, Below W0.heap.size W0 W → Calls Tryz.prog 95 #[.slice A3 x.refs.length c3, .func (.func 137) #[] #[.pointer (some ⟨w.heap.size, 0, none⟩)]] W fun e w' => e = .returned (.bool (x.refs.any (goneB rows))) ∧ Below W.heap.size W w' := fun W hW => containsFunc_may W w.heap.size sb tb lb rows A3 c3 x.refs (H.out.1.below hW) ((blk_cell (blk_below H.out.2.2.2.2.2.2.2.1 hW) 0).trans rfl) (Kd.C_below H.out.2.2.2.2.2.1 hW) (by have := H.out.2.2.2.1.rl; omega)
    cases han : x.refs.any (goneB rows)
    · rw [han] at arm
      have HA := Lib.hid han
      have HM := Lib.hid arm
      clear han arm
      by_cases hlen : rows.length < 64
      · have d1 : decide (64 ≤ (rows.length : Int)) = false := decide_eq_false (by omega)
        have HLn := Lib.hid hlen
        clear hlen
        go_enter Tryz.func111, Tryz.ntmps111
        go_wp2_with fail
        rw [← hW0]
        clear hW0
        go_wp2_with (first
          | (go_at_call 98; (with_reducible refine HF.out.mono ?_); rintro e w1 ⟨rfl, hb1⟩; clear q0 q1 q2 q3; obtain ⟨q0, q1, q2, q3⟩ := cells4 (blk_below H.out.2.2.2.2.2.2.2.2 hb1); have p0 : w1.cell? ⟨w.heap.size, 0, none⟩ = some (.pointer (some ⟨sb, 0, none⟩)) := (blk_cell (blk_below H.out.2.2.2.2.2.2.2.1 hb1) 0).trans rfl; have H1 := Lib.hid hb1; clear hb1)
          | (go_at_call 95; (with_reducible refine (HM.out _ H1.out).mono ?_); rintro e w2 ⟨rfl, hb2⟩; have hb3 : Below W0.heap.size W0 w2 := H1.out.trans (hb2.mono (below_size H1.out)); have p1 : w2.cell? ⟨w.heap.size, 0, none⟩ = some (.pointer (some ⟨sb, 0, none⟩)) := (blk_cell (blk_below H.out.2.2.2.2.2.2.2.1 hb3) 0).trans rfl; have r0 := (H.out.1.below hb3).c0; have H2 := Lib.hid hb3; clear hb2 hb3)
          | (go_at_call 138; (with_reducible refine (rows_len _ tb lb rows (H.out.1.below H2.out).t0 (H.out.1.below H2.out).map).mono ?_); rintro e w3 ⟨rfl, rfl⟩))
        go_returns
        exact ⟨by unfold mayE; rw [HB.out, HA.out, if_pos rfl, if_neg (by simp), if_pos HLn.out]; rfl, H.out.2.2.2.2.2.2.1.trans (H2.out.mono (below_size H.out.2.2.2.2.2.2.1))⟩
      · have d1 : decide (64 ≤ (rows.length : Int)) = true := decide_eq_true (by omega)
        have HLn := Lib.hid hlen
        clear hlen
        go_enter Tryz.func111, Tryz.ntmps111
        go_wp2_with fail
        rw [← hW0]
        clear hW0
        go_wp2_with (first
          | (go_at_call 98; (with_reducible refine HF.out.mono ?_); rintro e w1 ⟨rfl, hb1⟩; clear q0 q1 q2 q3; obtain ⟨q0, q1, q2, q3⟩ := cells4 (blk_below H.out.2.2.2.2.2.2.2.2 hb1); have p0 : w1.cell? ⟨w.heap.size, 0, none⟩ = some (.pointer (some ⟨sb, 0, none⟩)) := (blk_cell (blk_below H.out.2.2.2.2.2.2.2.1 hb1) 0).trans rfl; have H1 := Lib.hid hb1; clear hb1)
          | (go_at_call 95; (with_reducible refine (HM.out _ H1.out).mono ?_); rintro e w2 ⟨rfl, hb2⟩; have hb3 : Below W0.heap.size W0 w2 := H1.out.trans (hb2.mono (below_size H1.out)); have p1 : w2.cell? ⟨w.heap.size, 0, none⟩ = some (.pointer (some ⟨sb, 0, none⟩)) := (blk_cell (blk_below H.out.2.2.2.2.2.2.2.1 hb3) 0).trans rfl; have r0 := (H.out.1.below hb3).c0; have H2 := Lib.hid hb3; clear hb2 hb3)
          | (go_at_call 138; (with_reducible refine (rows_len _ tb lb rows (H.out.1.below H2.out).t0 (H.out.1.below H2.out).map).mono ?_); rintro e w3 ⟨rfl, rfl⟩))
        go_returns
        exact ⟨by unfold mayE; rw [HB.out, HA.out, if_pos rfl, if_neg (by simp), if_neg HLn.out]; rfl, H.out.2.2.2.2.2.2.1.trans (H2.out.mono (below_size H.out.2.2.2.2.2.2.1))⟩
    · rw [han] at arm
      have HA := Lib.hid han
      have HM := Lib.hid arm
      clear han arm
      go_enter Tryz.func111, Tryz.ntmps111
      go_wp2_with fail
      rw [← hW0]
      clear hW0
      go_wp2_with (first
        | (go_at_call 98; (with_reducible refine HF.out.mono ?_); rintro e w1 ⟨rfl, hb1⟩; clear q0 q1 q2 q3; obtain ⟨q0, q1, q2, q3⟩ := cells4 (blk_below H.out.2.2.2.2.2.2.2.2 hb1); have H1 := Lib.hid hb1; clear hb1)
        | (go_at_call 95; (with_reducible refine (HM.out _ H1.out).mono ?_); rintro e w2 ⟨rfl, hb2⟩; have hb3 : Below W0.heap.size W0 w2 := H1.out.trans (hb2.mono (below_size H1.out)); have H2 := Lib.hid hb3; clear hb2 hb3))
      go_returns
      exact ⟨by unfold mayE; rw [HB.out, HA.out]; rfl, H.out.2.2.2.2.2.2.1.trans (H2.out.mono (below_size H.out.2.2.2.2.2.2.1))⟩
end Go.Proofs.YtdhghaiifeienaaGreatDoor

/- The store (package db): rows staged. -/
set_option linter.unusedVariables false
set_option linter.unusedSimpArgs false
namespace Go.Proofs.YtdhghaiifeienaaGreatDoor
open Go.RowKit Go.Proofs.YtdhghaiifeienaaGreatDoorW.PrintWords

/-- That references rise is found of whatever reads as they do. -/
def Ris (refs : List ByteArray) : Prop := ∀ (W : World) (A : Option Addr) (c : Nat), CT D Kd.string W A refs → RisOk W A c refs
theorem Ris.nil : Ris [] := fun W A c _ => RisOk.nil W A c
theorem RisV.of {w : World} {x : Row} {v : Value} (h : RowV w x v) (hr : Ris x.refs) : RisV w x v := by
  intro u A c e
  obtain ⟨v2, v3, rfl, h2, h3⟩ := h
  obtain ⟨A', c', e3, _, C3⟩ := R_CT (D := D) h3 (by decide)
  subst e3
  injection e with e
  simp only [Array.mk.injEq, List.cons.injEq, and_true, true_and] at e
  obtain ⟨_, e⟩ := e
  injection e with e1 _ e2
  subst e1 e2
  exact hr w _ _ C3
/-- What a list of rows comes to: the table, the new ones, the error. -/
def stageL : List Row → List (ByteArray × Row) → List Row → List (ByteArray × Row) × List Row × Int
  | [], rows, fr => (rows, fr, 0)
  | x :: l, rows, fr => if (mlook rows x.path).isSome = true ∧ fitsB x = true then stageL l rows fr else if mayE rows x = 0 then stageL l (mset rows x.path x) (fr ++ [x]) else (rows, fr, mayE rows x)
theorem grown_typed {α : Type} {d : Kd α} {e : Nat} {w w1 : World} {base : Nat} {ok : Nat → Prop} {v : Value} {xs : List α} (h : d.R e w base ok v xs) {r : Option Nat} (hg : w.grownBy w1 r) (ht : ∀ k, r = some k → ∃ C t fr, w.heap[k]? = some (Obj.cells C t fr) ∧ ∀ q, q ∈ e :: d.E → q ≠ t) : d.R e w1 base ok v xs :=
  Kd.R_mono (Kd.R_grown (Kd.R_bound h) hg (fun k hk he => by
    obtain ⟨_, _, _, q, hq, cells, hc⟩ := hk
    obtain ⟨C, t, fr, hC, hn⟩ := ht k he.symm
    rw [hc] at hC
    injection hC with hC
    injection hC with _ e2 _
    exact hn q hq e2)) (fun _ hk => hk.1)
theorem RowV.grown {w w1 : World} {x : Row} {v : Value} (h : RowV w x v) {r : Option Nat} (hg : w.grownBy w1 r) (ht : ∀ k, r = some k → ∃ C fr, w.heap[k]? = some (Obj.cells C 44 fr)) : RowV w1 x v := by
  obtain ⟨u2, u3, rfl, h2, h3⟩ := h
  exact ⟨u2, u3, rfl, grown_typed h2 hg (fun k hk => by obtain ⟨C, fr, h⟩ := ht k hk; exact ⟨C, _, fr, h, by decide⟩), grown_typed h3 hg (fun k hk => by obtain ⟨C, fr, h⟩ := ht k hk; exact ⟨C, _, fr, h, by decide⟩)⟩
/-- A row of rows has grown: the table stays. -/
theorem TableAt.grown {w w1 : World} {tb lb : Nat} {jv : Value} {rows : List (ByteArray × Row)} {J : List Was} (h : TableAt w tb lb jv rows J) {r : Option Nat} (hg : w.grownBy w1 r) (ht : ∀ k, r = some k → ∃ C fr, w.heap[k]? = some (Obj.cells C 44 fr)) : TableAt w1 tb lb jv rows J :=
  ⟨blk_grown h.blk hg (fun e => by
      obtain ⟨C, fr, hc⟩ := ht tb e.symm
      rw [h.blk] at hc
      injection hc with hc
      injection hc with _ e2 _
      exact absurd e2 (by decide)),
    h.map.move (hg.block lb h.map.lt (fun e => by
      obtain ⟨C, fr, hc⟩ := ht lb e.symm
      exact h.map.no_cells _ _ _ hc)) (fun p _ v hv => hv.grown hg ht),
    grown_typed h.jour hg (fun k hk => by obtain ⟨C, fr, hc⟩ := ht k hk; exact ⟨C, _, fr, hc, by decide⟩)⟩
theorem row_at {w : World} {A : Option Addr} {n : Nat} {xs : List Row} (h : kRow.C w A n xs) (i : Nat) (h1 : i < n) :
    ∃ ad A2 c2 A3 c3, A = some ad ∧ w.cell? (ad.add (i * 4)) = some (.string (xs.getD i zRow).path) ∧ w.cell? ⟨(ad.add (i * 4)).block, (ad.add (i * 4)).off + 1, none⟩ = some (.string (xs.getD i zRow).name) ∧
      w.cell? ⟨(ad.add (i * 4)).block, (ad.add (i * 4)).off + 2, none⟩ = some (.slice A2 (xs.getD i zRow).arch.length c2) ∧ w.cell? ⟨(ad.add (i * 4)).block, (ad.add (i * 4)).off + 3, none⟩ = some (.slice A3 (xs.getD i zRow).refs.length c3) := by
  obtain ⟨ad, c, e, _, hK, hc⟩ := Kd.C_get h zRow (i : Int) (by omega) (by omega)
  rw [Int.toNat_natCast] at hK hc
  obtain ⟨A2, c2, A3, c3, rfl, _⟩ := kRow_open hK
  have e2 : kRow.sz = 4 := rfl
  rw [e2] at hc
  have f := fun j hj => add_field ad (i * 4) j hj
  exact ⟨ad, A2, c2, A3, c3, e, by simpa using hc 0 _ rfl, (f 1 (by omega)) ▸ hc 1 _ rfl, (f 2 (by omega)) ▸ hc 2 _ rfl, (f 3 (by omega)) ▸ hc 3 _ rfl⟩
/-- Rows that are read: each value of the list, with what it owns. -/
def RowsC (w : World) (A : Option Addr) (l : List Row) : Prop := ∀ W, KeepT D w W → ∀ i, i < l.length → ∃ ad A2 c2 A3 c3, A = some ad ∧ W.cell? (ad.add (i * 4)) = some (.string (l.getD i zRow).path) ∧ W.cell? ⟨(ad.add (i * 4)).block, (ad.add (i * 4)).off + 1, none⟩ = some (.string (l.getD i zRow).name) ∧
      W.cell? ⟨(ad.add (i * 4)).block, (ad.add (i * 4)).off + 2, none⟩ = some (.slice A2 (l.getD i zRow).arch.length c2) ∧ W.cell? ⟨(ad.add (i * 4)).block, (ad.add (i * 4)).off + 3, none⟩ = some (.slice A3 (l.getD i zRow).refs.length c3) ∧
      RowV W (l.getD i zRow) (.agg #[.string (l.getD i zRow).path, .string (l.getD i zRow).name, .slice A2 (l.getD i zRow).arch.length c2, .slice A3 (l.getD i zRow).refs.length c3])
theorem RowsC.keep {w w1 : World} {A : Option Addr} {l : List Row} (h : RowsC w A l) (hk : KeepT D w w1) : RowsC w1 A l := fun W hW => h W (hk.trans hW)
theorem RowsC.of_R {w : World} {base : Nat} {ok : Nat → Prop} {A : Option Addr} {c n : Nat} {l : List Row} (h : kRow.R 44 w base ok (.slice A n c) l) : RowsC w A l := by
  intro W hW i hi
  have h' := R_keepT h (by decide) hW
  obtain ⟨h0, inner, ho, hr⟩ := h'
  have hx : l[i]? = some (l.getD i zRow) := by rw [List.getD_eq_getElem?_getD, List.getElem?_eq_getElem hi]; rfl
  obtain ⟨v2, v3, hcs, g2, g3⟩ := kRow_openM (hr.2 i _ hx)
  obtain ⟨A2, c2, rfl⟩ := Kd.R_slice g2
  obtain ⟨A3, c3, rfl⟩ := Kd.R_slice g3
  have hsz : kRow.sz = 4 := rfl
  rw [hsz] at hcs
  rcases ho.2 with ⟨he, h0'⟩ | ⟨g, cap, cur, he, _⟩
  · have := hr.1
    omega
  · injection he with e1 _ _
    subst e1
    have hin : ∀ j u, ([.string (l.getD i zRow).path, .string (l.getD i zRow).name, .slice A2 (l.getD i zRow).arch.length c2, .slice A3 (l.getD i zRow).refs.length c3] : List Value)[j]? = some u → W.cell? ((⟨g, 0, none⟩ : Addr).add (i * 4 + j)) = some u := by
      intro j u hu
      rw [← hcs, List.getElem?_take] at hu
      split at hu
      · rw [List.getElem?_drop] at hu
        exact ho.cells (g := g) rfl _ u hu
      · cases hu
    have f := fun j hj => add_field ⟨g, 0, none⟩ (i * 4) j hj
    exact ⟨⟨g, 0, none⟩, A2, c2, A3, c3, rfl, by simpa using hin 0 _ rfl, (f 1 (by omega)) ▸ hin 1 _ rfl, (f 2 (by omega)) ▸ hin 2 _ rfl, (f 3 (by omega)) ▸ hin 3 _ rfl, RowV.mk (Kd.R_mono (Kd.R_lower g2 (Nat.zero_le _)) (fun _ _ => trivial)) (Kd.R_mono (Kd.R_lower g3 (Nat.zero_le _)) (fun _ _ => trivial))⟩
theorem RowsC.nil (w : World) (A : Option Addr) : RowsC w A [] := fun W _ i hi => by simp at hi
end Go.Proofs.YtdhghaiifeienaaGreatDoor

/- The store (package db): stage. -/
set_option linter.unusedVariables false
set_option linter.unusedSimpArgs false
namespace Go.Proofs.YtdhghaiifeienaaGreatDoor
open Go.RowKit Go.Proofs.YtdhghaiifeienaaGreatDoorW.PrintWords

theorem Glob.mut {w w1 : World} (h : Glob w) {F : Nat → Prop} (hM : Mut F w w1) (h0 : ¬ F 0) (h1 : ¬ F 1) : Glob w1 := by
  refine ⟨fun i hi => ?_, fun i hi => ?_⟩
  · have e := h.first i hi
    have hl := World.block_lt_of_cell? w _ e
    unfold World.cell? at e ⊢
    rw [hM.block _ hl h0]; exact e
  · have e := h.keys i hi
    have hl := World.block_lt_of_cell? w _ e
    unfold World.cell? at e ⊢
    rw [hM.block _ hl h1]; exact e
theorem cell_mut {w w1 : World} {F : Nat → Prop} {a : Addr} {v : Value} (h : w.cell? a = some v) (hM : Mut F w w1) (hn : ¬ F a.block) : w1.cell? a = some v := by
  have hl := World.block_lt_of_cell? w _ h
  unfold World.cell? at h ⊢
  rw [hM.block _ hl hn]; exact h
theorem mdel_mset_new {κ α : Type} [DecidableEq κ] {m : List (κ × α)} {k : κ} (h : mlook m k = none) (x : α) : mdel (mset m k x) k = m := by
  rw [mset_new h]
  induction m with
  | nil => simp [mdel]
  | cons p m ih =>
    unfold mlook at h
    by_cases e : p.1 = k
    · rw [if_pos e] at h; cases h
    · rw [if_neg e] at h
      rw [List.cons_append]
      unfold mdel
      rw [if_neg e, ih h]
theorem set4_grown (w : World) (g : Nat) (v0 v1 v2 v3 : Value) : w.grownBy (set4 w g v0 v1 v2 v3) (some g) :=
  ⟨(set4_mut w g v0 v1 v2 v3).os, (set4_mut w g v0 v1 v2 v3).tape, (set4_mut w g v0 v1 v2 v3).output, (set4_mut w g v0 v1 v2 v3).size, fun k hk hne => (set4_mut w g v0 v1 v2 v3).block k hk (fun e => hne (by rw [e]))⟩
/-- What a step of a stage reads. -/
structure Rdy (sb tb lb : Nat) (jv : Value) (rows : List (ByteArray × Row)) (J : List Was) (x : Row) (v : Value) (g : Nat) (v6 : Value) (fr : List Row) (W : World) : Prop where
  c0 : W.cell? ⟨sb, 0, none⟩ = some (.pointer (some ⟨tb, 0, none⟩))
  tab : TableAt W tb lb jv rows J
  glob : Glob W
  rv : RowV W x v
  blk : ∃ A2 c2 A3 c3, v = .agg #[.string x.path, .string x.name, .slice A2 x.arch.length c2, .slice A3 x.refs.length c3] ∧ W.heap[g]? = some (.cells #[.string x.path, .string x.name, .slice A2 x.arch.length c2, .slice A3 x.refs.length c3] 44 (0, 0))
  row : kRow.R 44 W 0 tr v6 fr
section
variable {sb tb lb : Nat} {jv : Value} {rows : List (ByteArray × Row)} {J : List Was} {x : Row} {v : Value} {g : Nat} {v6 : Value} {fr : List Row} {W W1 : World}
theorem Rdy.below (h : Rdy sb tb lb jv rows J x v g v6 fr W) (hb : Below W.heap.size W W1) : Rdy sb tb lb jv rows J x v g v6 fr W1 := by
  obtain ⟨A2, c2, A3, c3, e, hg⟩ := h.blk
  exact ⟨cell_belowR h.c0 hb, h.tab.below hb, h.glob.below hb, h.rv.below hb, ⟨A2, c2, A3, c3, e, blk_below hg hb⟩, Kd.R_below h.row hb⟩
theorem Rdy.rowsAt (h : Rdy sb tb lb jv rows J x v g v6 fr W) : RowsAt W sb tb lb rows := ⟨h.c0, h.tab.cell0, h.tab.map⟩
end
/-- A stage under way. -/
structure StageAt (w : World) (tb lb : Nat) (jv : Value) (rows0 : List (ByteArray × Row)) (w' : World) (rows : List (ByteArray × Row)) (v6 : Value) (fr : List Row) (i : Nat) : Prop where
  tab : ∃ jv' J, TableAt w' tb lb jv' rows J ∧ J.foldr undo1 rows = rows0 ∧ J.length ≤ i ∧ (jv'.ownBlock = jv.ownBlock ∨ ∃ b, jv'.ownBlock = some b ∧ w.heap.size ≤ b)
  row : kRow.R 44 w' 0 tr v6 fr
  own : ∀ k, v6.ownBlock = some k → w.heap.size ≤ k
  mt : Mut (TabF tb lb jv) w w'
  frl : fr.length ≤ i
theorem StageAt.next {w : World} {tb lb : Nat} {jv : Value} {rows0 : List (ByteArray × Row)} {wr w3 : World} {rows : List (ByteArray × Row)} {v6 : Value} {fr : List Row} {i : Nat} (h : StageAt w tb lb jv rows0 wr rows v6 fr i) (hb : Below wr.heap.size wr w3) : StageAt w tb lb jv rows0 w3 rows v6 fr (i + 1) := by
  obtain ⟨jv1, J, htab, hund, hJ, hown⟩ := h.tab
  exact ⟨⟨jv1, J, htab.below hb, hund, by omega, hown⟩, Kd.R_below h.row hb, h.own, h.mt.trans (Mut.of_below (F := fun _ => False) hb) (fun _ _ hf => hf.elim), by have := h.frl; omega⟩
theorem TabF.old {w : World} {tb lb : Nat} {jv jv1 : Value} (hown : jv1.ownBlock = jv.ownBlock ∨ ∃ b, jv1.ownBlock = some b ∧ w.heap.size ≤ b) {k : Nat} (hk : k < w.heap.size) (h : TabF tb lb jv1 k) : TabF tb lb jv k := by
  rcases h with h | h | h
  · exact .inl h
  · exact .inr (.inl h)
  · rcases hown with e | ⟨b, e, hb⟩
    · exact .inr (.inr (by rw [← e]; exact h))
    · rw [e] at h; injection h with h; omega
theorem own_rowt {w : World} {v6 : Value} {fr : List Row} (h : kRow.R 44 w 0 tr v6 fr) (k : Nat) (hk : v6.ownBlock = some k) : ∃ C fr', w.heap[k]? = some (Obj.cells C 44 fr') := by
  obtain ⟨inner, ho⟩ := Kd.R_own h
  obtain ⟨cells, hc⟩ := own_typed ho k hk
  exact ⟨_, _, hc⟩
theorem StageAt.put {w : World} {tb lb : Nat} {jv : Value} {rows0 : List (ByteArray × Row)} {wr W5 w6 w7 : World} {rows : List (ByteArray × Row)} {v6 v7 : Value} {fr : List Row} {i : Nat} {jv1 jv2 : Value} {J : List Was} {x : Row} (h : StageAt w tb lb jv rows0 wr rows v6 fr i)
    (hund : J.foldr undo1 rows = rows0) (hJ : J.length ≤ i) (hown : jv1.ownBlock = jv.ownBlock ∨ ∃ b, jv1.ownBlock = some b ∧ w.heap.size ≤ b) (hnone : mlook rows x.path = none)
    (hb : Below wr.heap.size wr W5) (ht : TableAt w6 tb lb jv2 (mset rows x.path x) (J ++ [⟨x.path, (mlook rows x.path).getD zRow, (mlook rows x.path).isSome⟩])) (hM : Mut (TabF tb lb jv1) W5 w6) (hat : jv2.ownBlock = jv1.ownBlock ∨ ∃ b, jv2.ownBlock = some b ∧ W5.heap.size ≤ b)
    (hR6 : kRow.R 44 w6 0 tr v6 fr) (hR : kRow.R 44 w7 0 tr v7 (fr ++ [x])) (hg : w6.grownBy w7 v6.ownBlock) (hat7 : v7.ownBlock = v6.ownBlock ∨ ∃ b, v7.ownBlock = some b ∧ w6.heap.size ≤ b) :
    StageAt w tb lb jv rows0 w7 (mset rows x.path x) v7 (fr ++ [x]) (i + 1) := by
  have hs1 := h.mt.size
  have hs2 := hb.size
  have hs3 := hM.size
  refine ⟨⟨jv2, _, ht.grown hg (fun k hk => own_rowt hR6 k hk), ?_, by simp; omega, ?_⟩, hR, ?_, ?_, by have := h.frl; simp; omega⟩
  · rw [List.foldr_append, hnone]
    show J.foldr undo1 (undo1 ⟨x.path, zRow, false⟩ (mset rows x.path x)) = rows0
    unfold undo1 at hund ⊢
    rw [if_neg (by simp), mdel_mset_new hnone]
    exact hund
  · rcases hat with e | ⟨b, e, hb'⟩
    · rw [e]; exact hown
    · exact .inr ⟨b, e, by omega⟩
  · intro k hk
    rcases hat7 with e | ⟨b, e, hb'⟩
    · exact h.own k (by rw [← e]; exact hk)
    · rw [e] at hk; injection hk with hk; omega
  · have h1 := h.mt.trans (Mut.of_below (F := fun _ => False) hb) (fun _ _ hf => hf.elim)
    have h2 := h1.trans hM (fun k hk hf => TabF.old hown hk hf)
    exact h2.trans (Mut.of_grown (F := fun k => v6.ownBlock = some k) hg (fun k hk => hk)) (fun k hk hf => by have := h.own k hf; omega)
theorem StageAt.err {w : World} {tb lb : Nat} {jv : Value} {rows0 : List (ByteArray × Row)} {wr w3 : World} {rows : List (ByteArray × Row)} {v6 : Value} {fr : List Row} {i : Nat} {l : List Row} {ee : Int} {nv : Value} (h : StageAt w tb lb jv rows0 wr rows v6 fr i) (hb : Below wr.heap.size wr w3) (hst : stageL l rows0 [] = (rows, fr, ee)) (he : ¬ ee = 0) (hi : i ≤ 1000) :
    (∃ jv' J, TableAt w3 tb lb jv' (stageL l rows0 []).1 J ∧ J.foldr undo1 (stageL l rows0 []).1 = rows0 ∧ J.length ≤ 1000 ∧ (jv'.ownBlock = jv.ownBlock ∨ ∃ b, jv'.ownBlock = some b ∧ w.heap.size ≤ b)) ∧ Mut (TabF tb lb jv) w w3 ∧
      ((stageL l rows0 []).2.2 = 0 → kRow.R 44 w3 0 tr nv (stageL l rows0 []).2.1) ∧ (stageL l rows0 []).2.1.length ≤ 1000 := by
  obtain ⟨jv1, J, htab, hund, hJ, hown⟩ := h.tab
  rw [hst]
  exact ⟨⟨jv1, J, htab.below hb, hund, by omega, hown⟩, h.mt.trans (Mut.of_below (F := fun _ => False) hb) (fun _ _ hf => hf.elim), fun e => absurd e he, (show fr.length ≤ 1000 by have := h.frl; omega)⟩
set_option maxRecDepth 20000 in
set_option maxHeartbeats 8000000 in
theorem store_stage (w : World) (sb tb lb : Nat) (jv : Value) (rows0 : List (ByteArray × Row)) (A : Option Addr) (c : Nat) (l : List Row)
    (hg : Glob w) (hc0 : w.cell? ⟨sb, 0, none⟩ = some (.pointer (some ⟨tb, 0, none⟩))) (hsb : ¬ TabF tb lb jv sb) (hg0 : ¬ TabF tb lb jv 0) (hg1 : ¬ TabF tb lb jv 1) (ht : TableAt w tb lb jv rows0 []) (hl : RowsC w A l) (hn : l.length ≤ 1000) (hok : ∀ x ∈ l, RowOk x ∧ Ris x.refs) :
    Calls Tryz.prog 66 #[.pointer (some ⟨sb, 0, none⟩), .slice A l.length c] w fun e w' => ∃ v6, e = .returned (.tuple #[v6, .int .i64 (stageL l rows0 []).2.2]) ∧
      (∃ jv' J, TableAt w' tb lb jv' (stageL l rows0 []).1 J ∧ J.foldr undo1 (stageL l rows0 []).1 = rows0 ∧ J.length ≤ 1000 ∧ (jv'.ownBlock = jv.ownBlock ∨ ∃ b, jv'.ownBlock = some b ∧ w.heap.size ≤ b)) ∧ Mut (TabF tb lb jv) w w' ∧
      ((stageL l rows0 []).2.2 = 0 → kRow.R 44 w' 0 tr v6 (stageL l rows0 []).2.1) ∧ (stageL l rows0 []).2.1.length ≤ 1000 := by
  have H := Lib.hid (And.intro hg (And.intro hc0 (And.intro hsb (And.intro hg0 (And.intro hg1 (And.intro ht (And.intro hl hok)))))))
  clear hg hc0 hsb hg0 hg1 ht hl hok
  go_enter Tryz.func66, Tryz.ntmps66
  go_wp2
  go_loopg [6, 12] l.length (fun n v6 v12 w' => ∃ (i : Nat) (rows : List (ByteArray × Row)) (fr : List Row), v12 = .int .i64 (i : Int) ∧ Hid (n + i = l.length ∧ stageL l rows0 [] = stageL (l.drop i) rows fr ∧ StageAt w tb lb jv rows0 w' rows v6 fr i))
  case atStart => exact ⟨0, rows0, [], rfl, by omega, rfl, ⟨_, [], H.out.2.2.2.2.2.1, rfl, by simp, .inl rfl⟩, Kd.R_nil _ _ _ _ _, fun k hk => by simp [Value.ownBlock] at hk, Mut.refl _ _, by simp⟩
  case round =>
    obtain ⟨i, rows, fr, rfl, hrel⟩ := hrel
    obtain ⟨hn1, hst, hS⟩ := hrel.out
    clear hrel
    have hK : KeepT D w wr := hS.mt.keepT H.out.2.2.2.2.2.1.typ
    rcases Nat.lt_or_ge i l.length with hi | hi
    · obtain ⟨ad, A2, c2, A3, c3, rfl, d0, d1, d2, d3, hv⟩ := (H.out.2.2.2.2.2.2.1.keep hK) wr (KeepT.refl _ _) i hi
      obtain ⟨x, hx⟩ : ∃ x, x = l.getD i zRow := ⟨_, rfl⟩
      rw [← hx] at d0 d1 d2 d3 hv
      have hxl : x ∈ l := by rw [hx, List.getD_eq_getElem?_getD, List.getElem?_eq_getElem hi]; exact List.getElem_mem hi
      have hdr : l.drop i = x :: l.drop (i + 1) := by rw [hx, List.drop_eq_getElem_cons hi, List.getD_eq_getElem?_getD, List.getElem?_eq_getElem hi]; rfl
      rw [hdr] at hst
      have q0 : ((i : Int) < (l.length : Int)) = True := eq_true (by omega)
      obtain ⟨jv1, J, htab, hund, hJ, hown⟩ := hS.tab
      obtain ⟨hxo, hxr⟩ := H.out.2.2.2.2.2.2.2 x hxl
      obtain ⟨v, hve⟩ : ∃ v, v = Value.agg #[.string x.path, .string x.name, .slice A2 x.arch.length c2, .slice A3 x.refs.length c3] := ⟨_, rfl⟩
      have hb1 : Below wr.heap.size wr (wr.alloc (.cells #[.string x.path, .string x.name, .slice A2 x.arch.length c2, .slice A3 x.refs.length c3] 44)) := below_alloc (Below.refl _ _) _
      have hD1 : Rdy sb tb lb jv1 rows J x v wr.heap.size u6 fr (wr.alloc (.cells #[.string x.path, .string x.name, .slice A2 x.arch.length c2, .slice A3 x.refs.length c3] 44)) :=
        ⟨cell_belowR (cell_mut H.out.2.1 hS.mt H.out.2.2.1) hb1, htab.below hb1, (H.out.1.mut hS.mt H.out.2.2.2.1 H.out.2.2.2.2.1).below hb1, by rw [hve]; exact hv.below hb1, ⟨A2, c2, A3, c3, hve, heap_alloc_new _ _⟩, Kd.R_below hS.row hb1⟩
      have HD1 := Lib.hid hD1
      have HR := Lib.hid (And.intro hn1 (And.intro hst (And.intro hS (And.intro hund (And.intro hJ (And.intro hown (And.intro hxo (And.intro hxr hb1))))))))
      have HV := Lib.hid hve
      have hrv : ∀ W, RowV W x v → RisV W x v := fun W h => RisV.of h hxr
      have h1 : ∀ W, Rdy sb tb lb jv1 rows J x v wr.heap.size u6 fr W → Calls Tryz.prog 50 #[.pointer (some ⟨sb, 0, none⟩), .string x.path] W fun e w' => e = .returned (.bool (mlook rows x.path).isSome) ∧ Below W.heap.size W w' := fun W hW => rows_has W sb tb lb rows x.path hW.rowsAt
      have h2 : ∀ W, Rdy sb tb lb jv1 rows J x v wr.heap.size u6 fr W → Calls Tryz.prog 98 #[.agg #[.string x.path, .string x.name, .slice A2 x.arch.length c2, .slice A3 x.refs.length c3]] W fun e w' => e = .returned (.bool (fitsB x)) ∧ Below W.heap.size W w' := fun W hW => by
        have := name_Fits W x v hW.glob hW.rv hxo (hrv _ hW.rv)
        rwa [hve] at this
      have h3 : ∀ W, Rdy sb tb lb jv1 rows J x v wr.heap.size u6 fr W → Calls Tryz.prog 111 #[.pointer (some ⟨sb, 0, none⟩), .agg #[.string x.path, .string x.name, .slice A2 x.arch.length c2, .slice A3 x.refs.length c3]] W fun e w' => e = .returned (.int .i64 (mayE rows x)) ∧ Below W.heap.size W w' := fun W hW => by
        have := store_may W sb tb lb rows x v hW.rowsAt hW.glob hW.rv hxo (hrv _ hW.rv)
        rwa [hve] at this
      have h4 : ∀ W, Rdy sb tb lb jv1 rows J x v wr.heap.size u6 fr W → Calls Tryz.prog 93 #[.agg #[.string x.path, .string x.name, .slice A2 x.arch.length c2, .slice A3 x.refs.length c3]] W fun e w' => ∃ v', e = .returned v' ∧ RowV w' x v' ∧ Below W.heap.size W w' := fun W hW => by
        have := db_copied W x v hW.rv hxo.al (by have := hxo.rl; omega)
        rwa [hve] at this
      have hcell : ∀ W, Below (wr.alloc (.cells #[.string x.path, .string x.name, .slice A2 x.arch.length c2, .slice A3 x.refs.length c3] 44)).heap.size (wr.alloc (.cells #[.string x.path, .string x.name, .slice A2 x.arch.length c2, .slice A3 x.refs.length c3] 44)) W → W.heap[wr.heap.size]? = some (.cells #[.string x.path, .string x.name, .slice A2 x.arch.length c2, .slice A3 x.refs.length c3] 44 (0, 0)) := fun W hW => blk_below (heap_alloc_new _ _) hW
      have HC := Lib.hid hcell
      clear hn1 hst hS hK hv hx hxl hdr htab hund hJ hown hxo hxr hb1 hD1 hrv hve hcell
      cases hsome : (mlook rows x.path).isSome
      · rw [hsome] at h1
        have K1 := Lib.hid h1
        cases hmay : decide (mayE rows x = 0)
        · have hm0 : ¬ mayE rows x = 0 := of_decide_eq_false hmay
          obtain ⟨ee, hee⟩ : ∃ ee, ee = mayE rows x := ⟨_, rfl⟩
          rw [← hee] at h3 hm0
          have K3 := Lib.hid h3
          have qe : ((ee : Int) != 0) = true := bne_iff_ne.mpr hm0
          have HS := Lib.hid (And.intro hsome (And.intro hm0 hee))
          clear hsome hmay hm0 hee h1 h2 h3 h4
          go_wp2_with (first
            | (go_at_call 50; (with_reducible refine (K1.out _ HD1.out).mono ?_); rintro e w2 ⟨rfl, hb2⟩; have HD2 := Lib.hid (HD1.out.below hb2); have HB2 := Lib.hid hb2; obtain ⟨q0', q1, q2, q3⟩ := cells4 (HC.out _ hb2); clear hb2)
            | (go_at_call 111; (with_reducible refine (K3.out _ HD2.out).mono ?_); rintro e w3 ⟨rfl, hb3⟩))
          go_returns
          obtain ⟨hn1, hst, hS, hund, hJ, hown, hxo, hxr, hb1⟩ := HR.out
          have hB3 : Below wr.heap.size wr w3 := hb1.trans ((HB2.out.mono hb1.size).trans (hb3.mono (Nat.le_trans hb1.size HB2.out.size)))
          have e : stageL l rows0 [] = (rows, fr, ee) := by rw [hst, stageL, if_neg (fun h => by rw [HS.out.1] at h; exact absurd h.1 (by decide)), if_neg (by rw [← HS.out.2.2]; exact HS.out.2.1), ← HS.out.2.2]
          exact ⟨_, by rw [e]; rfl, hS.err hB3 e HS.out.2.1 (by omega)⟩
        · have hm0 : mayE rows x = 0 := of_decide_eq_true hmay
          rw [hm0] at h3
          have K3 := Lib.hid h3
          have K4 := Lib.hid h4
          have HS := Lib.hid (And.intro hsome hm0)
          clear hsome hmay hm0 h1 h2 h3 h4
          go_wp2_with (first
            | (go_at_call 50; (with_reducible refine (K1.out _ HD1.out).mono ?_); rintro e w2 ⟨rfl, hb2⟩; have HD2 := Lib.hid (HD1.out.below hb2); have HB2 := Lib.hid hb2; obtain ⟨q0', q1, q2, q3⟩ := cells4 (HC.out _ hb2); clear hb2)
            | (go_at_call 111; (with_reducible refine (K3.out _ HD2.out).mono ?_); rintro e w3 ⟨rfl, hb3⟩; have HD3 := Lib.hid (HD2.out.below hb3); have HB3 := Lib.hid (HB2.out.trans (hb3.mono HB2.out.size)); clear q0' q1 q2 q3; obtain ⟨q0', q1, q2, q3⟩ := cells4 (HC.out _ HB3.out); clear hb3)
            | (go_at_call 93; (with_reducible refine (K4.out _ HD3.out).mono ?_); rintro e w4 ⟨v4, rfl, hv4, hb4⟩; obtain ⟨A5, c5, A6, c6, rfl, _, _⟩ := hv4.open_; have HV4 := Lib.hid hv4; have HD4 := Lib.hid (HD3.out.below hb4); have HB4 := Lib.hid (HB3.out.trans (hb4.mono HB3.out.size)); have e4 := HC.out _ HB4.out; clear q0' q1 q2 q3; obtain ⟨q0', q1, q2, q3⟩ := cells4 e4; have f0 := blk_frozen e4 0; have f1 := blk_frozen e4 1; have f2 := blk_frozen e4 2; have f3 := blk_frozen e4 3; have E4 := Lib.hid e4; clear hb4 hv4 e4))
          obtain ⟨W5, hW5⟩ : ∃ W5, W5 = set4 w4 wr.heap.size (.string x.path) (.string x.name) (.slice A5 x.arch.length c5) (.slice A6 x.refs.length c6) := ⟨_, rfl⟩
          have hW5' := hW5
          unfold set4 at hW5'
          rw [← hW5']
          have hBr : Below wr.heap.size wr w4 := HR.out.2.2.2.2.2.2.2.2.trans (HB4.out.mono HR.out.2.2.2.2.2.2.2.2.size)
          have g5 : w4.grownBy W5 (some wr.heap.size) := by rw [hW5]; exact set4_grown _ _ _ _ _ _
          have e5 : W5.heap[wr.heap.size]? = some (.cells #[.string x.path, .string x.name, .slice A5 x.arch.length c5, .slice A6 x.refs.length c6] 44 (0, 0)) := by rw [hW5]; exact set4_blk E4.out _ _ _ _
          have hv5 : RowV W5 x (.agg #[.string x.path, .string x.name, .slice A5 x.arch.length c5, .slice A6 x.refs.length c6]) := by rw [hW5]; exact HV4.out.set4 E4.out _ _ _ _
          have t5 : TableAt W5 tb lb jv1 rows J := HD4.out.tab.grown g5 (fun k hk => by injection hk with hk; subst hk; exact ⟨_, _, E4.out⟩)
          have hB5 : Below wr.heap.size wr W5 := by rw [hW5]; exact hBr.trans ((set4_mut _ _ _ _ _ _).below hBr.size (fun k _ hk => by omega))
          have c5' : W5.cell? ⟨sb, 0, none⟩ = some (.pointer (some ⟨tb, 0, none⟩)) := cell_belowR (cell_mut H.out.2.1 HR.out.2.2.1.mt H.out.2.2.1) hB5
          have r5 : kRow.R 44 W5 0 tr u6 fr := Kd.R_below HR.out.2.2.1.row hB5
          have H5 := Lib.hid (And.intro e5 (And.intro hv5 (And.intro t5 (And.intro hB5 r5))))
          clear q0' q1 q2 q3 f0 f1 f2 f3 hW5 hW5' hBr g5 hv5 t5 hB5 r5
          obtain ⟨q0', q1, q2, q3⟩ := cells4 e5
          clear e5
          go_wp2_with fail
          go_still_tail 7, (by kernel_rfl)
          change wpList _ _ _ _ _ (World.drew _)
          go_wp2_with (first
            | (go_at_call 112; (with_reducible refine (table_set _ tb lb jv1 rows J x.path x _ (H5.out.2.2.1.below (below_drew (Below.refl _ _))) (by have := HR.out.2.2.2.2.1; omega) (H5.out.2.1.below (below_drew (Below.refl _ _)))).mono ?_); rintro e w6 ⟨rfl, jv2, ht6, hM6, hat6⟩; have hM6' : Mut (TabF tb lb jv1) W5 w6 := ⟨hM6.os, hM6.tape, hM6.output, hM6.size, hM6.block⟩; have e6 := hM6'.at_ H5.out.1 (fun hk => absurd (H5.out.2.2.1.typ _ _ _ _ hk H5.out.1) (by decide)); have k6 := hM6'.keepT H5.out.2.2.1.typ; have r6 := R_keepT H5.out.2.2.2.2 (by decide) k6; have hv6 := H5.out.2.1.keep k6; clear q0' q1 q2 q3; obtain ⟨q0', q1, q2, q3⟩ := cells4 e6; have H6 := Lib.hid (And.intro ht6 (And.intro hM6' (And.intro hat6 (And.intro r6 hv6)))); clear ht6 hM6 hM6' hat6 e6 k6 r6 hv6)
            | (at_builtin; refine R_app kRow rfl (.tmp 40) (.tmp 42) 39 44 _ 80 rfl und_rowl info_row rfl (by decide) (by decide) (by decide) u6 fr x [.string x.path, .string x.name, .slice A5 x.arch.length c5, .slice A6 x.refs.length c6] rfl rfl ?hp H6.out.2.2.2.1 ?hlen ?_; (case hp => (obtain ⟨_, _, e, g2, g3⟩ := H6.out.2.2.2.2); (injection e with e); (simp only [Array.mk.injEq, List.cons.injEq, and_true, true_and] at e); (obtain ⟨rfl, rfl⟩ := e); exact kRow_mkM _ _ _ _ g2 g3); (case hlen => have := HR.out.2.2.1.frl; have := HR.out.1; omega); intro v7 w7 hR7 hg7 hat7; have H7 := Lib.hid (And.intro hR7 (And.intro hg7 hat7)); clear hR7 hg7 hat7))
          go_roundg (gk - 1)
          case measure => have := HR.out.1; omega
          case rel =>
            obtain ⟨hn1, hst, hS, hund, hJ, hown, hxo, hxr, hb1⟩ := HR.out
            have hnone : mlook rows x.path = none := by
              have := HS.out.1
              cases e : mlook rows x.path with
              | none => rfl
              | some y => rw [e] at this; cases this
            refine ⟨i + 1, mset rows x.path x, fr ++ [x], by go_num, by omega, ?_, ?_⟩
            · rw [hst, stageL, if_neg (fun h => by rw [HS.out.1] at h; exact absurd h.1 (by decide)), if_pos HS.out.2]
            · exact hS.put hund hJ hown hnone H5.out.2.2.2.1 H6.out.1 H6.out.2.1 H6.out.2.2.1 H6.out.2.2.2.1 H7.out.1 H7.out.2.1 H7.out.2.2
      · rw [hsome] at h1
        have K1 := Lib.hid h1
        cases hfit : fitsB x
        · rw [hfit] at h2
          have K2 := Lib.hid h2
          have hm4 : mayE rows x = 4 := by unfold mayE; rw [hfit]; rfl
          rw [hm4] at h3
          have K3 := Lib.hid h3
          have HS := Lib.hid (And.intro hsome (And.intro hfit hm4))
          clear hsome hfit h1 h2 h3 h4 hm4
          go_wp2_with (first
            | (go_at_call 50; (with_reducible refine (K1.out _ HD1.out).mono ?_); rintro e w2 ⟨rfl, hb2⟩; have HD2 := Lib.hid (HD1.out.below hb2); have HB2 := Lib.hid hb2; obtain ⟨q0', q1, q2, q3⟩ := cells4 (HC.out _ hb2); clear hb2)
            | (go_at_call 98; (with_reducible refine (K2.out _ HD2.out).mono ?_); rintro e w3 ⟨rfl, hb3⟩; have HD3 := Lib.hid (HD2.out.below hb3); have HB3 := Lib.hid (HB2.out.trans (hb3.mono HB2.out.size)); clear q0' q1 q2 q3; obtain ⟨q0', q1, q2, q3⟩ := cells4 (HC.out _ HB3.out); clear hb3)
            | (go_at_call 111; (with_reducible refine (K3.out _ HD3.out).mono ?_); rintro e w4 ⟨rfl, hb4⟩))
          go_returns
          obtain ⟨hn1, hst, hS, hund, hJ, hown, hxo, hxr, hb1⟩ := HR.out
          have hB3 : Below wr.heap.size wr w4 := hb1.trans ((HB3.out.mono hb1.size).trans (hb4.mono (Nat.le_trans hb1.size HB3.out.size)))
          have e : stageL l rows0 [] = (rows, fr, 4) := by rw [hst, stageL, if_neg (fun h => by rw [HS.out.2.1] at h; exact absurd h.2 (by decide)), if_neg (by rw [HS.out.2.2]; decide), HS.out.2.2]
          exact ⟨_, by rw [e]; rfl, hS.err hB3 e (by decide) (by omega)⟩
        · rw [hfit] at h2
          have K2 := Lib.hid h2
          have HS := Lib.hid (And.intro hsome hfit)
          clear hsome hfit h1 h2 h3 h4
          go_wp2_with (first
            | (go_at_call 50; (with_reducible refine (K1.out _ HD1.out).mono ?_); rintro e w2 ⟨rfl, hb2⟩; have HD2 := Lib.hid (HD1.out.below hb2); have HB2 := Lib.hid hb2; obtain ⟨q0', q1, q2, q3⟩ := cells4 (HC.out _ hb2); clear hb2)
            | (go_at_call 98; (with_reducible refine (K2.out _ HD2.out).mono ?_); rintro e w3 ⟨rfl, hb3⟩))
          go_roundg (gk - 1)
          case measure => have := HR.out.1; omega
          case rel =>
            obtain ⟨hn1, hst, hS, hund, hJ, hown, hxo, hxr, hb1⟩ := HR.out
            have hB3 : Below wr.heap.size wr w3 := hb1.trans ((HB2.out.mono hb1.size).trans (hb3.mono (Nat.le_trans hb1.size HB2.out.size)))
            refine ⟨i + 1, rows, fr, by go_num, by omega, ?_, ?_⟩
            · rw [hst, stageL, if_pos HS.out]
            · exact hS.next hB3
    · obtain rfl : i = l.length := by omega
      rw [List.drop_eq_nil_of_le (Nat.le_refl _)] at hst
      have HR := Lib.hid (And.intro hst hS)
      clear hn1 hst hS hK
      go_wp2
      go_returns
      obtain ⟨hst, hS⟩ := HR.out
      have e : stageL l rows0 [] = (rows, fr, 0) := hst
      rw [e]
      obtain ⟨jv1, J, htab, hund, hJ, hown⟩ := hS.tab
      exact ⟨_, rfl, ⟨jv1, J, htab, hund, by omega, hown⟩, hS.mt, fun _ => hS.row, (show fr.length ≤ 1000 by have := hS.frl; omega)⟩
end Go.Proofs.YtdhghaiifeienaaGreatDoor

/- The store (package db): Put. -/
set_option linter.unusedVariables false
set_option linter.unusedSimpArgs false
namespace Go.Proofs.YtdhghaiifeienaaGreatDoor
open Go.RowKit Go.Proofs.YtdhghaiifeienaaGreatDoorW.PrintWords

/-- The abstract store: rows, who refers to whom, roots, stamps, version. -/
structure Ab where
  rows : List (ByteArray × Row)
  back : List (ByteArray × SetL)
  roots : SetL
  stamps : List (ByteArray × Int)
  ver : Int
def St.ab (S : St) : Ab := ⟨S.rows, abk S.back, S.roots, S.stamps, S.ver⟩
/-- A new row linked. -/
def linkR (ver : Int) (s : List (ByteArray × SetL) × List (ByteArray × Int)) (x : Row) : List (ByteArray × SetL) × List (ByteArray × Int) := (x.refs.foldl (linkA x.path) s.1, touchL (touchL s.2 [x.path] ver) x.refs ver)
def putA (S : Ab) (l : List Row) : Ab × Int :=
  if (stageL l S.rows []).2.2 = 0 then
    let v := if (stageL l S.rows []).2.1 = [] then S.ver else IntKind.u64.wrap (S.ver + 1)
    let s := (stageL l S.rows []).2.1.foldl (linkR v) (S.back, S.stamps)
    (⟨(stageL l S.rows []).1, s.1, S.roots, s.2, v⟩, 0)
  else (S, (stageL l S.rows []).2.2)
/-- The table of a store changed: its journal done. -/
theorem StoreAt.setRows {w w2 : World} {B : Bl} {S : St} (h : StoreAt w B S) {rows : List (ByteArray × Row)} {jv : Value} (ht : TableAt w2 B.tb B.lb jv rows []) (hM : Mut (TabF B.tb B.lb B.jv) w w2) : StoreAt w2 { B with jv := jv } { S with rows := rows } := by
  obtain ⟨⟨s1, s2, s3, s4, s5, s6⟩, s7, s8⟩ := St.sep h.nd
  have hF : ∀ k, k ∈ [B.lb, B.bb, B.rb, B.stb] ++ S.back.map (fun p => p.2.1) → k ≠ B.lb → ¬ TabF B.tb B.lb B.jv k := fun k hk hne hf => by
    rcases hf with e | e | e
    · exact (h.maps hk).2 _ _ _ (e ▸ h.tab.blk)
    · exact hne e
    · obtain ⟨inner, ho⟩ := Kd.R_own h.tab.jour
      obtain ⟨cells, hc⟩ := own_typed ho k e
      exact (h.maps hk).2 _ _ _ hc
  have hsb : ¬ TabF B.tb B.lb B.jv B.sb := fun hf => by
    rcases hf with e | e | e
    · have h1 := h.blk
      rw [e, h.tab.blk] at h1
      injection h1 with h1
      injection h1 with _ e2 _
      exact absurd e2 (by decide)
    · exact (h.maps (k := B.lb) (by simp)).2 _ _ _ (e ▸ h.blk)
    · obtain ⟨inner, ho⟩ := Kd.R_own h.tab.jour
      obtain ⟨cells, hc⟩ := own_typed ho _ e
      rw [h.blk] at hc
      injection hc with hc
      injection hc with _ e2 _
      exact absurd e2 (by decide)
  exact ⟨hM.at_ h.blk hsb, ht, h.back.same (hM.block _ h.back.lt (hF _ (by simp) (fun e => s1 e.symm))), fun p hp => (h.sets p hp).same (hM.block _ (h.sets p hp).lt (hF _ (List.mem_append_right _ (List.mem_map.2 ⟨p, hp, rfl⟩)) (s7 p hp).1)), h.roots.same (hM.block _ h.roots.lt (hF _ (by simp) (fun e => s2 e.symm))), h.stamps.same (hM.block _ h.stamps.lt (hF _ (by simp) (fun e => s3 e.symm))), h.nd⟩
theorem StoreAt.sbF {w : World} {B : Bl} {S : St} (h : StoreAt w B S) : ¬ TabF B.tb B.lb B.jv B.sb := fun hf => by
  rcases hf with e | e | e
  · have h1 := h.blk
    rw [e, h.tab.blk] at h1
    injection h1 with h1
    injection h1 with _ e2 _
    exact absurd e2 (by decide)
  · exact (h.maps (k := B.lb) (by simp)).2 _ _ _ (e ▸ h.blk)
  · obtain ⟨inner, ho⟩ := Kd.R_own h.tab.jour
    obtain ⟨cells, hc⟩ := own_typed ho _ e
    rw [h.blk] at hc
    injection hc with hc
    injection hc with _ e2 _
    exact absurd e2 (by decide)
theorem StoreAt.setVer {w : World} {B : Bl} {S : St} (h : StoreAt w B S) (v : Int) : StoreAt (w.setCell ⟨B.sb, 4, none⟩ (.int .u64 v)) B { S with ver := v } ∧ Mut (fun k => k = B.sb) w (w.setCell ⟨B.sb, 4, none⟩ (.int .u64 v)) := by
  have hM : Mut (fun k => k = B.sb) w (w.setCell ⟨B.sb, 4, none⟩ (.int .u64 v)) := (Mut.refl (fun k => k = B.sb) w).setCell (p := ⟨B.sb, 4, none⟩) (fun _ => rfl) _
  have hK : KeepT D w (w.setCell ⟨B.sb, 4, none⟩ (.int .u64 v)) := hM.keepT (fun k C t fr hk hc => h.typ k C t fr (.inl hk) hc)
  have hmap : ∀ k, k ∈ [B.lb, B.bb, B.rb, B.stb] ++ S.back.map (fun p => p.2.1) → (w.setCell ⟨B.sb, 4, none⟩ (.int .u64 v)).heap[k]? = w.heap[k]? := fun k hk => hM.block k (h.maps hk).1 (fun e => (h.maps hk).2 _ _ _ (e ▸ h.blk))
  have htb : B.tb ≠ B.sb := fun e => h.sbF (.inl e.symm)
  exact ⟨⟨blk_set h.blk 4 _, ⟨hM.at_ h.tab.blk htb, rows_move h.tab.map (hmap _ (by simp)) hK, Kd.R_mono (Kd.R_set h.tab.jour h.blk (by decide) 4 _) (fun _ _ => trivial)⟩, h.back.same (hmap _ (by simp)), fun p hp => (h.sets p hp).same (hmap _ (List.mem_append_right _ (List.mem_map.2 ⟨p, hp, rfl⟩))), h.roots.same (hmap _ (by simp)), h.stamps.same (hmap _ (by simp)), h.nd⟩, hM⟩
end Go.Proofs.YtdhghaiifeienaaGreatDoor

/- The store (package db): Put, walked. -/
set_option linter.unusedVariables false
set_option linter.unusedSimpArgs false
namespace Go.Proofs.YtdhghaiifeienaaGreatDoor
open Go.RowKit Go.Proofs.YtdhghaiifeienaaGreatDoorW.PrintWords

theorem StF.tab {B : Bl} {S : St} {k : Nat} (h : TabF B.tb B.lb B.jv k) : StF B S k := by
  rcases h with h | h | h
  · exact .inr (.inl h)
  · exact .inr (.inr (.inr (by rw [h]; simp)))
  · exact .inr (.inr (.inl h))
theorem StF.back {B : Bl} {S : St} {k : Nat} (h : BackF B S k ∨ k = B.stb) : StF B S k := by
  rcases h with (h | h) | h
  · exact .inr (.inr (.inr (by rw [h]; simp)))
  · exact .inr (.inr (.inr (List.mem_append_right _ h)))
  · exact .inr (.inr (.inr (by rw [h]; simp)))
/-- What a call has made of a store. -/
structure Put1 (w : World) (B : Bl) (S : St) (w' : World) (B' : Bl) (S' : St) (a : Ab) : Prop where
  at_ : StoreAt w' B' S'
  ab : S'.ab = a
  sb : B'.sb = B.sb
  mt : Mut (StF B S) w w'
  nw : ∀ k, StF B' S' k → StF B S k ∨ w.heap.size ≤ k
theorem Put1.link {w wr w5 : World} {B B1 : Bl} {S S4 : St} {rs : List (ByteArray × Row)} {s : List (ByteArray × SetL) × List (ByteArray × Int)} {ro : SetL} {v : Int} {x : Row} {bk : List (ByteArray × (Nat × SetL))} (h : Put1 w B S wr B1 S4 ⟨rs, s.1, ro, s.2, v⟩)
    (hS : StoreAt w5 B1 { S4 with back := bk, stamps := touchL (touchL S4.stamps [x.path] S4.ver) x.refs S4.ver }) (hab : abk bk = x.refs.foldl (linkA x.path) (abk S4.back)) {w4 : World} (hb4 : Below wr.heap.size wr w4)
    (hM : Mut (fun k => BackF B1 S4 k ∨ k = B1.stb) w4 w5) (hnew : ∀ k, k ∈ bk.map (fun p => p.2.1) → k ∈ S4.back.map (fun p => p.2.1) ∨ w4.heap.size ≤ k) :
    Put1 w B S w5 B1 { S4 with back := bk, stamps := touchL (touchL S4.stamps [x.path] S4.ver) x.refs S4.ver } ⟨rs, (linkR v s x).1, ro, (linkR v s x).2, v⟩ := by
  have e := h.ab
  unfold St.ab at e
  injection e with e1 e2 e3 e4 e5
  have hs1 := h.mt.size
  have hs2 := hb4.size
  refine ⟨hS, ?_, h.sb, ?_, fun k hk => ?_⟩
  · unfold St.ab linkR
    simp only [hab, e1, e2, e3, e4, e5]
  · refine (h.mt.trans (Mut.of_below (F := fun _ => False) hb4) (fun _ _ hf => hf.elim)).trans hM (fun k hk hf => ?_)
    rcases h.nw k (StF.back hf) with hf | hf
    · exact hf
    · omega
  · rcases hk with hk | hk | hk | hk
    · exact h.nw k (.inl hk)
    · exact h.nw k (.inr (.inl hk))
    · exact h.nw k (.inr (.inr (.inl hk)))
    · rcases List.mem_append.1 hk with hk | hk
      · exact h.nw k (.inr (.inr (.inr (List.mem_append_left _ hk))))
      · rcases hnew k hk with hk | hk
        · exact h.nw k (.inr (.inr (.inr (List.mem_append_right _ hk))))
        · exact .inr (by omega)
theorem stage_mem : ∀ (l : List Row) (rows : List (ByteArray × Row)) (fr : List Row) (rs : List (ByteArray × Row)) (fr' : List Row) (e : Int), stageL l rows fr = (rs, fr', e) → ∀ x ∈ fr', x ∈ fr ∨ x ∈ l
  | [], rows, fr, rs, fr', e, h, x, hx => by
    rw [stageL] at h
    injection h with _ h
    injection h with h _
    exact .inl (by rw [h]; exact hx)
  | y :: l, rows, fr, rs, fr', e, h, x, hx => by
    rw [stageL] at h
    split at h
    · exact (stage_mem l _ _ _ _ _ h x hx).imp id (.tail _)
    · split at h
      · rcases stage_mem l _ _ _ _ _ h x hx with h | h
        · rcases List.mem_append.1 h with h | h
          · exact .inl h
          · rw [List.mem_singleton] at h; exact .inr (by rw [h]; exact .head _)
        · exact .inr (.tail _ h)
      · injection h with _ h
        injection h with h _
        exact .inl (by rw [h]; exact hx)
theorem back_typ {w : World} {B : Bl} {S : St} (h : StoreAt w B S) (k : Nat) (C : Array Value) (t : TypeId) (fr : Nat × Nat) (hk : BackF B S k ∨ k = B.stb) (hb : w.heap[k]? = some (Obj.cells C t fr)) : D t = false := h.typ k C t fr (StF.back hk) hb
set_option maxRecDepth 20000 in
set_option maxHeartbeats 4000000 in
theorem store_put (w : World) (B : Bl) (S : St) (A : Option Addr) (c : Nat) (l : List Row) (h : StoreAt w B S) (hg : Glob w) (hg0 : ¬ StF B S 0) (hg1 : ¬ StF B S 1) (hl : RowsC w A l) (hn : l.length ≤ 1000) (hok : ∀ x ∈ l, RowOk x ∧ Ris x.refs) :
    Calls Tryz.prog 20 #[B.ptr, .slice A l.length c] w fun e w' => e = .returned (.int .i64 (putA S.ab l).2) ∧ ∃ B' S', Put1 w B S w' B' S' (putA S.ab l).1 := by
  have hst := store_stage w B.sb B.tb B.lb B.jv S.rows A c l hg h.cells.1 h.sbF (fun hk => hg0 (StF.tab hk)) (fun hk => hg1 (StF.tab hk)) h.tab hl hn hok
  obtain ⟨rs, fr, ee, hss⟩ : ∃ rs fr ee, stageL l S.rows [] = (rs, fr, ee) := ⟨_, _, _, rfl⟩
  rw [hss] at hst
  simp only at hst
  have HSt := Lib.hid hst
  have H := Lib.hid (And.intro h (And.intro hss hok))
  clear h hg hg0 hg1 hl hok hst hss
  by_cases he : ee = 0
  · subst he
    go_enter Tryz.func20, Tryz.ntmps20
    go_wp2_with (go_at_call 66; (with_reducible refine HSt.out.mono ?_); rintro e w1 ⟨v6, rfl, ⟨jv1, J, ht1, hund, hJ, hown⟩, hM1, hfr, hfl⟩; obtain ⟨A6, c6, rfl⟩ := Kd.R_slice (hfr rfl); have c0 := cell_mut H.out.1.cells.1 hM1 H.out.1.sbF; have H1 := Lib.hid (And.intro ht1 (And.intro hown (And.intro hM1 (And.intro (hfr rfl) hfl)))); clear ht1 hund hJ hown hM1 hfr hfl)
    (with_reducible refine (table_done w1 B.tb B.lb jv1 rs J H1.out.1).mono ?_)
    rintro e w2 ⟨rfl, ht2, hM2⟩
    have hs1 := H1.out.2.2.1.size
    have hMt : Mut (TabF B.tb B.lb B.jv) w w2 := H1.out.2.2.1.trans hM2 (fun k _ hk => .inl hk)
    have hS2 := H.out.1.setRows ht2 hMt
    have hk12 : KeepT D w1 w2 := hM2.keepT (fun k C t fr hk hb => H1.out.1.typ k C t fr (.inl hk) hb)
    have hP2 : Put1 w B S w2 { B with jv := .slice none 0 0 } { S with rows := rs } ⟨rs, abk S.back, S.roots, S.stamps, S.ver⟩ := ⟨hS2, rfl, rfl, hMt.mono (fun k _ hk => StF.tab hk), fun k hk => by
      rcases hk with hk | hk | hk | hk
      · exact .inl (.inl hk)
      · exact .inl (.inr (.inl hk))
      · simp [Value.ownBlock] at hk
      · exact .inl (.inr (.inr (.inr hk)))⟩
    obtain ⟨d0, d1, d2, d3, d4⟩ := hS2.cells
    have f4 : w2.frozen? ⟨B.sb, 4, none⟩ = false := blk_frozen hS2.blk 4
    have hrc := RowsC.of_R H1.out.2.2.2.1
    have hPA : putA S.ab l = (⟨rs, (fr.foldl (linkR (if fr = [] then S.ver else IntKind.u64.wrap (S.ver + 1))) (abk S.back, S.stamps)).1, S.roots, (fr.foldl (linkR (if fr = [] then S.ver else IntKind.u64.wrap (S.ver + 1))) (abk S.back, S.stamps)).2, (if fr = [] then S.ver else IntKind.u64.wrap (S.ver + 1))⟩, 0) := by
      unfold putA
      rw [show S.ab.rows = S.rows from rfl, H.out.2.1]
      rfl
    have HPA := Lib.hid hPA
    have H2 := Lib.hid (And.intro hP2 (And.intro hk12 hrc))
    clear ht2 hM2 hMt hS2 hk12 hP2 hrc c0 hPA
    by_cases hfr : fr = []
    · subst hfr
      go_wp2_with fail
      go_loopg [42] 0 (fun n v42 w' => v42 = .int .i64 0 ∧ w' = w2)
      case atStart => exact ⟨rfl, rfl⟩
      case round =>
        obtain ⟨rfl, rfl⟩ := hrel
        go_wp2
        go_returns
        rw [HPA.out]
        exact ⟨rfl, _, _, H2.out.1⟩
    · have hpos : 0 < fr.length := List.length_pos_iff.2 hfr
      have q0 : decide (0 < (fr.length : Int)) = true := decide_eq_true (by omega)
      have HF := Lib.hid hfr
      clear hfr
      go_wp2_with fail
      obtain ⟨v, hv⟩ : ∃ v, v = IntKind.u64.wrap (S.ver + 1) := ⟨_, rfl⟩
      rw [← hv]
      have hPA := HPA.out
      rw [if_neg HF.out, ← hv] at hPA
      have HPA2 := Lib.hid hPA
      obtain ⟨W3, hW3⟩ : ∃ W3, W3 = w2.setCell ⟨B.sb, 4, none⟩ (.int .u64 v) := ⟨_, rfl⟩
      rw [← hW3]
      obtain ⟨hS3, hM3⟩ := H2.out.1.at_.setVer v
      have hb3 := H2.out.1
      have hP3 : Put1 w B S W3 { B with jv := .slice none 0 0 } { rows := rs, back := S.back, roots := S.roots, stamps := S.stamps, ver := v } ⟨rs, abk S.back, S.roots, S.stamps, v⟩ :=
        ⟨by rw [hW3]; exact hS3, rfl, rfl, by rw [hW3]; exact hb3.mt.trans hM3 (fun k _ hk => .inl hk), hb3.nw⟩
      have hk13 : KeepT D w1 W3 := by rw [hW3]; exact H2.out.2.1.trans (hM3.keepT (fun k C t fr hk hc => H2.out.1.at_.typ k C t fr (.inl hk) hc))
      have H3 := Lib.hid (And.intro hP3 hk13)
      clear hv hW3 hS3 hM3 hb3 hP3 hk13 hPA q0 d0 d1 d2 d3 d4 f4
      go_loopg [42] fr.length (fun n v42 w' => ∃ (i : Nat) (S4 : St), v42 = .int .i64 (i : Int) ∧ Hid (n + i = fr.length ∧ Put1 w B S w' { B with jv := .slice none 0 0 } S4 ⟨rs, ((fr.take i).foldl (linkR v) (abk S.back, S.stamps)).1, S.roots, ((fr.take i).foldl (linkR v) (abk S.back, S.stamps)).2, v⟩ ∧ KeepT D w1 w'))
      case atStart => exact ⟨0, _, rfl, by omega, H3.out⟩
      case round =>
        obtain ⟨i, S4, rfl, hrel⟩ := hrel
        obtain ⟨hn1, hP, hK⟩ := hrel.out
        clear hrel
        have hfl := H1.out.2.2.2.2
        rcases Nat.lt_or_ge i fr.length with hi | hi
        · obtain ⟨ad, A2, c2, A3, c3, rfl, d0, d1, d2, d3, hv⟩ := (H2.out.2.2.keep hK) wr (KeepT.refl _ _) i hi
          obtain ⟨x, hx⟩ : ∃ x, x = fr.getD i zRow := ⟨_, rfl⟩
          rw [← hx] at d0 d1 d2 d3 hv
          have q0 : ((i : Int) < (fr.length : Int)) = True := eq_true (by omega)
          have hb4 : Below wr.heap.size wr (wr.alloc (.cells #[.string x.path, .string x.name, .slice A2 x.arch.length c2, .slice A3 x.refs.length c3] 44)) := below_alloc (Below.refl _ _) _
          have hrl : x.refs.length ≤ 1000000 := by
            have := stage_mem l S.rows [] rs fr 0 H.out.2.1 x (by rw [hx, List.getD_eq_getElem?_getD, List.getElem?_eq_getElem hi]; exact List.getElem_mem hi)
            rcases this with h | h
            · simp at h
            · have := (H.out.2.2 x h).1.rl; omega
          obtain ⟨q0', q1, q2, q3⟩ := cells4 (heap_alloc_new wr (.cells #[.string x.path, .string x.name, .slice A2 x.arch.length c2, .slice A3 x.refs.length c3] 44))
          have HR := Lib.hid (And.intro hn1 (And.intro hP (And.intro hK (And.intro hx (And.intro hv (And.intro hb4 hrl))))))
          clear hn1 hP hK hx hv hb4 hrl
          go_wp2_with (go_at_call 69; (with_reducible refine (store_link _ _ S4 x _ (HR.out.2.1.at_.below HR.out.2.2.2.2.2.1) (HR.out.2.2.2.2.1.below HR.out.2.2.2.2.2.1) HR.out.2.2.2.2.2.2).mono ?_); rintro e w5 ⟨rfl, bk, hS5, hab5, hM5, hnw5⟩; have H5 := Lib.hid (And.intro hS5 (And.intro hab5 (And.intro hM5 hnw5))); clear hS5 hab5 hM5 hnw5)
          go_roundg (gk - 1)
          case measure => have := HR.out.1; omega
          case rel =>
            refine ⟨i + 1, { S4 with back := bk, stamps := touchL (touchL S4.stamps [x.path] S4.ver) x.refs S4.ver }, by go_num, by have := HR.out.1; omega, ?_, ?_⟩
            · have := HR.out.2.1.link (s := (fr.take i).foldl (linkR v) (abk S.back, S.stamps)) H5.out.1 H5.out.2.1 HR.out.2.2.2.2.2.1 H5.out.2.2.1 H5.out.2.2.2
              rw [take_snoc fr i hi zRow, List.foldl_append, ← HR.out.2.2.2.1]
              exact this
            · exact (HR.out.2.2.1.trans (KeepT.of_below HR.out.2.2.2.2.2.1)).trans (H5.out.2.2.1.keepT (back_typ (HR.out.2.1.at_.below HR.out.2.2.2.2.2.1)))
        · obtain rfl : i = fr.length := by omega
          rw [List.take_length] at hP
          have HR := Lib.hid hP
          clear hn1 hP hK
          go_wp2
          go_returns
          rw [HPA2.out]
          exact ⟨rfl, _, _, HR.out⟩
  · have qe : ((ee : Int) != 0) = true := bne_iff_ne.mpr he
    have HE := Lib.hid he
    clear he
    go_enter Tryz.func20, Tryz.ntmps20
    go_wp2_with (first
      | (go_at_call 66; (with_reducible refine HSt.out.mono ?_); rintro e w1 ⟨v6, rfl, ⟨jv1, J, ht1, hund, hJ, hown⟩, hM1, hfr, hfl⟩; have c0 := cell_mut H.out.1.cells.1 hM1 H.out.1.sbF; have H1 := Lib.hid (And.intro ht1 (And.intro hown (And.intro hM1 (And.intro hund hJ)))); clear ht1 hund hJ hown hM1 hfr hfl)
      | (go_at_call 67; (with_reducible refine (table_undo _ B.tb B.lb jv1 rs J H1.out.1 (by have := H1.out.2.2.2.2; omega)).mono ?_); rintro e w2 ⟨rfl, jv2, ht2, hM2, hown2⟩; have H2 := Lib.hid (And.intro ht2 (And.intro hM2 hown2)); clear ht2 hM2 hown2))
    go_returns
    have hP : putA S.ab l = (S.ab, ee) := by
      unfold putA
      rw [show S.ab.rows = S.rows from rfl, H.out.2.1]
      simp only
      rw [if_neg HE.out]
    rw [hP]
    have hs1 := H1.out.2.2.1.size
    have hMt : Mut (TabF B.tb B.lb B.jv) w w2 := H1.out.2.2.1.trans H2.out.2.1 (fun k hk hf => TabF.old H1.out.2.1 hk hf)
    have ht := H2.out.1
    rw [H1.out.2.2.2.1] at ht
    refine ⟨rfl, { B with jv := jv2 }, S, ⟨H.out.1.setRows ht hMt, rfl, rfl, hMt.mono (fun k _ hk => StF.tab hk), fun k hk => ?_⟩⟩
    rcases hk with hk | hk | hk | hk
    · exact .inl (.inl hk)
    · exact .inl (.inr (.inl hk))
    · rw [H2.out.2.2] at hk
      rcases H1.out.2.1 with e | ⟨b, e, hb⟩
      · exact .inl (.inr (.inr (.inl (by rw [← e]; exact hk))))
      · rw [e] at hk; injection hk with hk; exact .inr (by omega)
    · exact .inl (.inr (.inr (.inr hk)))
end Go.Proofs.YtdhghaiifeienaaGreatDoor
