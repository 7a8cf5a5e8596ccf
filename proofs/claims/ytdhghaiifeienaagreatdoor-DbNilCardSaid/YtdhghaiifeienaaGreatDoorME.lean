/- The document's digests folded, its hasher, its paths (godownref02.Short, New; godownref07.Make). -/
import Derived.Test.YtdhghaiifeienaaGreatDoorMR
import Derived.Test.YtdhghaiifeienaaGreatDoorMP
import Derived.Test.YtdhghaiifeienaaGreatDoorMD
import Derived.Test.YtdhghaiifeienaaGreatDoorMK
import Derived.Test.YtdhghaiifeienaaGreatDoorRows
import Derived.Test.YtdhghaiifeienaaGreatDoorMH
import Derived.ProofKit
import Derived.OpenShut
import Derived.LaidMore
import Derived.Lay
import Derived.Stop.Joined

/- The document's digests folded, its hasher, its paths (godownref02.Short, New; godownref07.Make). -/
set_option linter.unusedVariables false
set_option linter.unusedSimpArgs false
namespace Go.Proofs.YtdhghaiifeienaaGreatDoor
open Go.RowKit Go.Proofs.YtdhghaiifeienaaGreatDoorW.PrintWords

/-- A hasher's tables, in memory. -/
structure HashV (w : World) (AH : Option Addr) (AK : Option Addr) : Prop where
  h : kU.C w AH 8 H0.l
  k : kU.C w AK 64 K0
theorem HashV.below {w w1 : World} {AH AK : Option Addr} (h : HashV w AH AK) (hb : Below w.heap.size w w1) : HashV w1 AH AK := ⟨Kd.C_below h.h hb, Kd.C_below h.k hb⟩
theorem C_conv {w : World} {A : Option Addr} {n : Nat} {xs : List Int} {ys : List B32} (h : (Kd.int .u32).C w A n xs) (he : xs = ys.map (fun y => (y.toNat : Int))) : kU.C w A n ys := by
  have h1 := Kd.reads_of_C (enc := Value.int .u32) (d := (0 : Int)) (h1 := fun _ => rfl) h
  refine Kd.C_of_reads (enc := U) (d := (0 : B32)) (h1 := fun _ => rfl) ⟨by have := h1.1; rw [he, List.length_map] at this; exact this, h1.2.1, fun hn => ?_⟩
  obtain ⟨ad, e, hc⟩ := h1.2.2 hn
  refine ⟨ad, e, fun j hj => ?_⟩
  have := hc j hj
  rw [this, he]
  have hl : ys.length = n := by have := h1.1; rw [he, List.length_map] at this; exact this
  simp [U, List.getD_eq_getElem?_getD, List.getElem?_eq_getElem (show j < ys.length by omega)]
theorem first_H0 : first0 = H0.l.map (fun y => (y.toNat : Int)) := by decide
theorem keys_K0 : keys0 = K0.map (fun y => (y.toNat : Int)) := by decide +kernel
theorem r02_New (w : World) : Calls Tryz.prog 62 #[] w fun e w' => ∃ AH cH AK cK, e = .returned (.agg #[.slice AH 8 cH, .slice AK 64 cK]) ∧ HashV w' AH AK ∧ Below w.heap.size w w' := by
  refine (PClaimPlays.godownref02_New.calls 20000 first0 keys0 w r02_tabs).mono fun e w' h => ?_
  obtain ⟨v0, v1, rfl, h0, h1, hb⟩ := h
  obtain ⟨AH, cH, rfl, _, hC0⟩ := Kd.R_reads h0
  obtain ⟨AK, cK, rfl, _, hC1⟩ := Kd.R_reads h1
  exact ⟨AH, cH, AK, cK, rfl, ⟨C_conv hC0 first_H0, C_conv hC1 keys_K0⟩, hb⟩
theorem r10_New_val : PClaimPlays.godownref10_New.f 20000 = some (first0, keys0, [], [], 0, []) := by
  unfold PClaimPlays.godownref10_New.f
  rw [r02_tabs]
  rfl
theorem r10_New (w : World) : Calls Tryz.prog 28 #[] w fun e w' => ∃ AH cH AK cK v2 v3 v5, e = .returned (.agg #[.slice AH 8 cH, .slice AK 64 cK, v2, v3, .int .u64 0, v5]) ∧ HashV w' AH AK ∧ Below w.heap.size w w' := by
  refine (PClaimPlays.godownref10_New.calls 20000 first0 keys0 [] [] 0 [] w r10_New_val).mono fun e w' h => ?_
  obtain ⟨v0, v1, v2, v3, v5, rfl, h0, h1, h2, h3, h5, hb⟩ := h
  obtain ⟨AH, cH, rfl, _, hC0⟩ := Kd.R_reads h0
  obtain ⟨AK, cK, rfl, _, hC1⟩ := Kd.R_reads h1
  exact ⟨AH, cH, AK, cK, v2, v3, v5, rfl, ⟨C_conv hC0 first_H0, C_conv hC1 keys_K0⟩, hb⟩
theorem take_snocI {α : Type} (l : List α) (i : Nat) (hi : i < l.length) (d : α) : l.take (i + 1) = l.take i ++ [l.getD i d] := by
  rw [List.take_add_one, List.getD_eq_getElem?_getD, List.getElem?_eq_getElem hi]
  rfl
set_option maxRecDepth 20000 in
theorem r02_Short (w : World) (AH : Option Addr) (cH : Nat) (AK : Option Addr) (cK : Nat) (A : Option Addr) (c : Nat) (p : List Int) (hh : HashV w AH AK) (hp : (Kd.int .u8).C w A p.length p) (hb : Bys p) (hl : p.length ≤ 1000000) :
    Calls Tryz.prog 89 #[.agg #[.slice AH 8 cH, .slice AK 64 cK], .slice A p.length c] w fun e w' => ∃ v, e = .returned v ∧ Own (Kd.int .u8) 5 w w' v (short p) := by
  have H := Lib.hid (And.intro hh (And.intro hp hb))
  clear hh hp hb
  have hb0 : Below w.heap.size w (boxed w AH cH AK cK) := below_alloc (Below.refl _ _) _
  have HB0 := Lib.hid hb0
  clear hb0
  obtain ⟨s, hs⟩ : ∃ s, s = sum p := ⟨_, rfl⟩
  have hsl : s.length = 32 := by rw [hs]; exact sum_len p
  have HS := Lib.hid (And.intro hs hsl)
  have hsum := fun W A c hH hK hp hb hl => Lib.hid (r02_Sum W AH cH AK cK A c p hH hK hp hb hl)
  rw [← hs] at hsum
  have HSum := Lib.hid hsum
  clear hs hsum hsl
  go_enter Tryz.func89, Tryz.ntmps89
  go_wp2_with (go_at_call 86; (with_reducible refine (HSum.out _ A c (H.out.1.below HB0.out).h (H.out.1.below HB0.out).k (Kd.C_below H.out.2.1 HB0.out) H.out.2.2 hl).out.mono ?_); rintro e w1 ⟨v1, rfl, ho1⟩; obtain ⟨A5, c5, rfl, _, hC5⟩ := ho1.reads; obtain ⟨g5, rfl⟩ := own_addr ho1 (by have := HS.out.2; omega); have H1 := Lib.hid (And.intro ho1.2 hC5); clear ho1 hC5)
  rw [HS.out.2] at H1 ⊢
  go_loopg [6, 7] 20 (fun n v6 v7 w' => ∃ i : Nat, v7 = .int .i64 (i : Int) ∧ Hid (n + i = 20 ∧ Own (Kd.int .u8) 5 w1 w' v6 ((short p).take i)))
  case atStart => exact ⟨0, rfl, by omega, Own.nil _ _ _⟩
  case round =>
    obtain ⟨i, rfl, hrel⟩ := hrel
    obtain ⟨hn, ho⟩ := hrel.out
    clear hrel
    rcases Nat.lt_or_ge i 20 with hi | hi
    · have hC32 : (Kd.int .u8).C wr (some ⟨g5, 0, none⟩) s.length s := by rw [HS.out.2]; exact Kd.C_below H1.out.2 ho.2
      have d0 := byte_at hC32 i (by rw [HS.out.2]; omega)
      obtain ⟨x, hx⟩ : ∃ x, x = s.getD i 0 := ⟨_, rfl⟩
      rw [← hx] at d0
      have q0 : ((i : Int) < 20) = True := eq_true (by omega)
      have q2 : ((i : Int) < 32) = True := eq_true (by omega)
      have hsg := short_get p i hi
      rw [← HS.out.1] at hsg
      by_cases h12 : i < 12
      · have d1 := byte_at hC32 (i + 20) (by rw [HS.out.2]; omega)
        obtain ⟨y, hy⟩ : ∃ y, y = s.getD (i + 20) 0 := ⟨_, rfl⟩
        rw [← hy] at d1
        have q1 : decide ((i : Int) + 20 < 32) = true := decide_eq_true (by omega)
        have q3 : ((i : Int) + 20 < 32) = True := eq_true (by omega)
        rw [if_pos h12, ← hx, Nat.add_comm 20 i, ← hy] at hsg
        have HR := Lib.hid (And.intro hn (And.intro ho hsg))
        obtain ⟨A6, c6, rfl⟩ := ho.slice
        obtain ⟨n6, hn6⟩ : ∃ n, n = ((short p).take i).length := ⟨_, rfl⟩
        rw [← hn6] at HR ⊢
        clear hn ho hx hy hsg hn6 hC32
        go_wp2_with (at_builtin; refine app_int (k := .u8) (w0 := w1) rfl (.tmp 30) (.tmp 32) rfl und_bytes info_u8 (by omega) _ ((short p).take i) _ rfl rfl HR.out.2.1 (by rw [List.length_take, short_len]; omega) ?_; intro v2 w2 ho2 hg2; clear hg2; have HO2 := Lib.hid ho2; clear ho2)
        go_roundg (gk - 1)
        case measure => have := HR.out.1; omega
        case rel =>
          refine ⟨i + 1, by go_num, by have := HR.out.1; omega, ?_⟩
          rw [take_snocI (short p) i (by rw [short_len]; exact hi) 0, HR.out.2.2]
          exact HO2.out
      · have q1 : decide ((i : Int) + 20 < 32) = false := decide_eq_false (by omega)
        rw [if_neg h12, ← hx] at hsg
        have HR := Lib.hid (And.intro hn (And.intro ho hsg))
        obtain ⟨A6, c6, rfl⟩ := ho.slice
        obtain ⟨n6, hn6⟩ : ∃ n, n = ((short p).take i).length := ⟨_, rfl⟩
        rw [← hn6] at HR ⊢
        clear hn ho hx hsg hn6 hC32
        go_wp2_with (at_builtin; refine app_int (k := .u8) (w0 := w1) rfl (.tmp 30) (.tmp 32) rfl und_bytes info_u8 (by omega) _ ((short p).take i) _ rfl rfl HR.out.2.1 (by rw [List.length_take, short_len]; omega) ?_; intro v2 w2 ho2 hg2; clear hg2; have HO2 := Lib.hid ho2; clear ho2)
        go_roundg (gk - 1)
        case measure => have := HR.out.1; omega
        case rel =>
          refine ⟨i + 1, by go_num, by have := HR.out.1; omega, ?_⟩
          rw [take_snocI (short p) i (by rw [short_len]; exact hi) 0, HR.out.2.2]
          exact HO2.out
    · obtain rfl : i = 20 := by omega
      have hfull : (short p).take 20 = short p := List.take_of_length_le (by rw [short_len]; omega)
      rw [hfull] at ho
      have HR := Lib.hid ho
      clear hn ho hfull
      go_wp2
      go_returns
      exact ⟨_, rfl, HR.out.lower (HB0.out.trans (H1.out.1.mono (below_size HB0.out)))⟩

/-! ### godownref07.Make, of no references -/
theorem r01_Rise0 (w : World) : Calls Tryz.prog 65 #[.slice none 0 0] w fun e w' => ∃ A c, e = .returned (.slice A 0 c) ∧ Below w.heap.size w w' := by
  have hv : PClaimPlays.godownref01_Rise.f 1 [] = some [] := rfl
  refine (PClaimPlays.godownref01_Rise.calls 1 none 0 [] [] w (Kd.C_nil _ _) (Nat.le_refl _) hv).mono fun e w' h => ?_
  obtain ⟨v, rfl, hR, hb⟩ := h
  obtain ⟨A, c, rfl⟩ := Kd.R_slice hR
  exact ⟨A, c, rfl, hb⟩
theorem C_zero {α : Type} (d : Kd α) (w : World) (A : Option Addr) : d.C w A 0 [] := by
  have h := Kd.C_nil d w
  exact ⟨h.1, h.2.1, fun hn => absurd hn (Nat.lt_irrefl 0)⟩
theorem r01_Texts0 (w : World) (A : Option Addr) (c : Nat) : Calls Tryz.prog 48 #[.slice none 0 0, .slice A 0 c] w fun e w' => e = .returned (.bool true) ∧ Drawn0 w w' := by
  have hv : PClaimPlays.godownref01_Texts.f 1 [] [] = some true := rfl
  exact PClaimPlays.godownref01_Texts.calls 1 none 0 [] A c [] true w (Kd.C_nil _ _) (Nat.le_refl _) (C_zero _ _ _) (Nat.zero_le _) hv
theorem r04_Texts0 (w : World) : Calls Tryz.prog 87 #[.slice none 0 0] w fun e w' => ∃ v, e = .returned v ∧ Own (Kd.int .u8) 5 w w' v (wts []) := r04_Texts w none 0 [] (Kd.C_nil _ _) (by simp) (by simp)
theorem wt_bys (s : ByteArray) : Bys (wt s) := by
  intro x hx
  unfold wt num2 at hx
  rcases List.mem_append.1 hx with hx | hx
  · simp only [List.mem_cons, List.not_mem_nil, or_false] at hx
    rcases hx with rfl | rfl <;> omega
  · unfold bytesOf at hx
    obtain ⟨b, _, rfl⟩ := List.mem_map.1 hx
    have := b.toNat_lt
    omega
theorem bodyB_bys (arch : List Int) (refs : List ByteArray) (name : ByteArray) : Bys (bodyB arch refs name) := by
  unfold bodyB wts
  have h1 : Bys [(refs.length : Int) % 256] := fun x hx => by rw [List.mem_singleton] at hx; omega
  have h2 : Bys (refs.flatMap wt) := fun x hx => by
    obtain ⟨s, _, hs⟩ := List.mem_flatMap.1 hx
    exact wt_bys s x hs
  exact ((wt_bys _).append (h1.append h2)).append (wt_bys _)
set_option maxRecDepth 20000 in
set_option maxHeartbeats 4000000 in
theorem r07_Make0 (w : World) (AH : Option Addr) (cH : Nat) (AK : Option Addr) (cK : Nat) (name : ByteArray) (A : Option Addr) (c : Nat) (arch : List Int) (hh : HashV w AH AK) (hC : (Kd.int .u8).C w A arch.length arch) (hab : Bys arch) (hal : arch.length ≤ 1000000) (hn : right name = true) :
    Calls Tryz.prog 39 #[.agg #[.slice AH 8 cH, .slice AK 64 cK], .string name, .slice A arch.length c, .slice none 0 0] w fun e w' => e = .returned (.tuple #[.string (pathOf name arch []), .int .i64 0]) ∧ Below w.heap.size w w' := by
  have hsz := right_size hn
  have H := Lib.hid (And.intro hh (And.intro hC (And.intro hab (And.intro hal (And.intro hn hsz)))))
  have hb0 : Below w.heap.size w (w.alloc (.cells #[.slice AH 8 cH, .slice AK 64 cK] 31)) := below_alloc (Below.refl _ _) _
  have HB0 := Lib.hid hb0
  have gB := heap_alloc_new w (.cells #[.slice AH 8 cH, .slice AK 64 cK] 31)
  have HG := Lib.hid gB
  clear hh hC hab hal hn hsz hb0 gB
  obtain ⟨W0, hW0⟩ : ∃ W0, W0 = w.alloc (.cells #[.slice AH 8 cH, .slice AK 64 cK] 31) := ⟨_, rfl⟩
  have HW0 := Lib.hid hW0
  rw [← hW0] at HB0 HG
  go_enter Tryz.func39, Tryz.ntmps39
  go_wp2_with fail
  rw [← hW0]
  clear hW0
  go_wp2_with (first
    | (go_at_call 83; (with_reducible refine (r07_Right _ name (by have := H.out.2.2.2.2.2; omega)).mono ?_); rw [H.out.2.2.2.2.1]; rintro e w1 ⟨rfl, hd1⟩; have HB1 := Lib.hid hd1.below; clear hd1)
    | (go_at_call 65; (with_reducible refine (r01_Rise0 _).mono ?_); rintro e w2 ⟨A9, c9, rfl, hb2⟩; have HB2 := Lib.hid (HB1.out.trans (hb2.mono (below_size HB1.out))); clear hb2)
    | (go_at_call 48; (with_reducible refine (r01_Texts0 _ A9 c9).mono ?_); rintro e w3 ⟨rfl, hd3⟩; have HB3 := Lib.hid (HB2.out.trans (hd3.below.mono (below_size HB2.out))); clear hd3))
  obtain ⟨q0, q1⟩ := cells2 (blk_below HG.out HB3.out)
  go_loopg [10] 0 (fun n v10 w' => v10 = .int .i64 0 ∧ w' = w3)
  case atStart => exact ⟨rfl, rfl⟩
  case round =>
    obtain ⟨rfl, rfl⟩ := hrel
    obtain ⟨q, hq⟩ : ∃ q, q = strOfNums (sum arch) := ⟨_, rfl⟩
    have hql : q.size = 32 := by rw [hq, strOf_size, sum_len]
    have HQ := Lib.hid (And.intro hq hql)
    have hcs := fun (W : World) (A' : Option Addr) (c' : Nat) (hC : (Kd.int .u8).C W A' (sum arch).length (sum arch)) => Lib.hid (Kd.C_string (P := Tryz.prog) (c := c') und_bytes Tryz.underlying5 und_str hC)
    rw [← hq] at hcs
    have HCS := Lib.hid hcs
    clear hq hql hcs
    have h3 : Below w.heap.size w wr := HB0.out.trans (HB3.out.mono (below_size HB0.out))
    have H3 := Lib.hid h3
    clear h3
    go_wp2_with (go_at_call 86; (with_reducible refine (r02_Sum _ AH cH AK cK A c arch (H.out.1.below H3.out).h (H.out.1.below H3.out).k (Kd.C_below H.out.2.1 H3.out) H.out.2.2.1 H.out.2.2.2.1).mono ?_); rintro e w4 ⟨v4, rfl, ho4⟩; obtain ⟨A4, c4, rfl, _, hC4⟩ := ho4.reads; have hcv := (HCS.out _ A4 c4 hC4).out; have H4 := Lib.hid ho4.2; clear ho4 hC4)
    (with_reducible refine (r04_Text _ q (by have := HQ.out.2; omega)).mono ?_)
    rintro e w5 ⟨v5, rfl, ho5⟩
    obtain ⟨t5, ht5⟩ : ∃ t, t = wt q := ⟨_, rfl⟩
    rw [← ht5] at ho5
    have hl5 : t5.length = 34 := by rw [ht5, wt_len, HQ.out.2]
    have H5 := Lib.hid (And.intro ho5 (And.intro ht5 hl5))
    obtain ⟨A5, c5, rfl⟩ := ho5.slice
    clear ho5 ht5 hl5 hcv
    go_wp2_with fail
    (with_reducible refine (r04_Texts0 _).mono ?_)
    rintro e w6 ⟨v6, rfl, ho6⟩
    obtain ⟨t6, ht6⟩ : ∃ t : List Int, t = wts [] := ⟨_, rfl⟩
    rw [← ht6] at ho6
    have hl6 : t6.length = 1 := by rw [ht6]; rfl
    obtain ⟨A6, c6, rfl, _, hC6⟩ := ho6.reads
    have H6 := Lib.hid (And.intro ho6.2 (And.intro hC6 (And.intro ht6 hl6)))
    clear ho6 ht6 hl6 hC6
    go_wp2_with (at_builtin; refine app_intsN (k := .u8) (w0 := w4) rfl (.tmp 42) (.tmp 44) rfl und_bytes info_u8 (by omega) _ t5 t6 A6 _ c6 rfl rfl (H5.out.1.lift H6.out.1) H6.out.2.1 (by have := H5.out.2.2; have := H6.out.2.2.2; omega) ?_; intro v7 w7 ho7 hg7; clear hg7; have H7 := Lib.hid ho7; obtain ⟨A7, c7, rfl⟩ := ho7.slice; clear ho7)
    (with_reducible refine (r04_Text _ name (by have := H.out.2.2.2.2.2; omega)).mono ?_)
    rintro e w8 ⟨v8, rfl, ho8⟩
    obtain ⟨t8, ht8⟩ : ∃ t, t = wt name := ⟨_, rfl⟩
    rw [← ht8] at ho8
    have hl8 : t8.length ≤ 42 := by rw [ht8, wt_len]; have := H.out.2.2.2.2.2; omega
    obtain ⟨A8, c8, rfl, _, hC8⟩ := ho8.reads
    have H8 := Lib.hid (And.intro ho8.2 (And.intro hC8 (And.intro ht8 hl8)))
    clear ho8 ht8 hl8 hC8
    rw [List.length_append] at H7
    have hQ6 := Lib.hid HQ.out.1
    go_wp2_with (first
      | (at_builtin; refine app_intsN (k := .u8) (w0 := w4) rfl (.tmp 46) (.tmp 48) rfl und_bytes info_u8 (by omega) _ (t5 ++ t6) t8 A8 _ c8 rfl rfl (H7.out.lift H8.out.1) H8.out.2.1 (by have := H5.out.2.2; have := H6.out.2.2.2; have := H8.out.2.2.2; rw [List.length_append]; omega) ?_
         intro v9 w9 ho9 hg9
         clear hg9
         have hbody : t5 ++ t6 ++ t8 = bodyB arch [] name := by rw [H5.out.2.1, H6.out.2.2.1, H8.out.2.2.1, HQ.out.1]; rfl
         have hbl : (t5 ++ t6 ++ t8).length = t5.length + t6.length + t8.length := by rw [List.length_append, List.length_append]
         obtain ⟨z, hz⟩ : ∃ z, z = t5 ++ t6 ++ t8 := ⟨_, rfl⟩
         rw [← hz] at ho9 hbody hbl
         have hzl : z.length ≤ 1000 := by rw [hbl]; have := H5.out.2.2; have := H6.out.2.2.2; have := H8.out.2.2.2; omega
         have hzb : Bys z := by rw [hbody]; exact bodyB_bys _ _ _
         obtain ⟨A10, c10, rfl, _, hC9⟩ := ho9.reads
         have hbw : Below wr.heap.size wr w9 := H4.out.trans ((ho9.2.mono (below_size H4.out)))
         have hb9 : Below w.heap.size w w9 := H3.out.trans (hbw.mono (below_size H3.out))
         have gB9 := blk_below (blk_below HG.out HB3.out) hbw
         clear q0 q1
         obtain ⟨q0, q1⟩ := cells2 gB9
         have HZ := Lib.hid (And.intro hbody (And.intro hzl (And.intro hzb (And.intro hC9 hb9))))
         clear hbody hbl hz ho9 hzl hzb hC9 hbw hb9 gB9)
      | (go_at_call 89
         (with_reducible refine (r02_Short _ AH cH AK cK A10 c10 z (H.out.1.below HZ.out.2.2.2.2) HZ.out.2.2.2.1 HZ.out.2.2.1 (by have := HZ.out.2.1; omega)).mono ?_)
         rintro e w11 ⟨v11, rfl, ho11⟩
         obtain ⟨s, hs⟩ : ∃ s, s = short z := ⟨_, rfl⟩
         rw [← hs] at ho11
         have hsl : s.length = 20 := by rw [hs]; exact short_len z
         obtain ⟨A11, c11, rfl, hcap, hC11⟩ := ho11.reads
         have H11 := Lib.hid (And.intro hs (And.intro hsl (And.intro hC11 (And.intro ho11.2 hcap))))
         clear hs hsl hC11 ho11 hcap)
      | fail)
    have hbt := r03_Text w11 A11 c11 s H11.out.2.2.1 H11.out.2.2.2.2 (by rw [H11.out.1]; exact short_bys z) H11.out.2.1
    obtain ⟨T, hT⟩ : ∃ T : ByteArray, T = ⟨(txt s 32).toArray⟩ := ⟨_, rfl⟩
    rw [← hT] at hbt
    have hTs : T.size ≤ 32 := by rw [hT]; simp [ByteArray.size, txt_len]
    have HT := Lib.hid hT
    have HBT := Lib.hid hbt
    clear hT hbt
    (with_reducible refine HBT.out.mono ?_)
    rintro e w12 ⟨rfl, hb12⟩
    have HB12 := Lib.hid hb12
    have a1 := fun W => run_string_add_sum (P := Tryz.prog) (w := W) T { data := #[45] } (by have : (ByteArray.mk #[45]).size = 1 := rfl; omega)
    have a2 := fun W => run_string_add_sum (P := Tryz.prog) (w := W) (T ++ { data := #[45] }) name (by have : (ByteArray.mk #[45]).size = 1 := rfl; rw [ByteArray.size_append]; have := H.out.2.2.2.2.2; omega)
    clear hTs hb12
    go_wp2
    go_returns
    refine ⟨?_, ?_⟩
    · unfold pathOf
      rw [← HZ.out.1, ← H11.out.1, ← HT.out]
      rfl
    · exact HZ.out.2.2.2.2.trans ((H11.out.2.2.2.1.mono (below_size HZ.out.2.2.2.2)).trans (HB12.out.mono (Nat.le_trans (below_size HZ.out.2.2.2.2) (below_size H11.out.2.2.2.1))))
end Go.Proofs.YtdhghaiifeienaaGreatDoor

/- The law's own walk through a store and a book (godownlaw16.touched). -/
set_option linter.unusedVariables false
set_option linter.unusedSimpArgs false
namespace Go.Proofs.YtdhghaiifeienaaGreatDoor
open Go.RowKit Go.Proofs.YtdhghaiifeienaaGreatDoorW.PrintWords

theorem row1_lit (w : World) (p n : ByteArray) : RowsC (w.alloc (.cells #[.string p, .string n, .slice none 0 0, .slice none 0 0] 44)) (some ⟨w.heap.size, 0, none⟩) [⟨p, n, [], []⟩] := by
  refine RowsC.of_R (base := 0) (ok := tr) (c := 1) (n := 1) ⟨fun _ _ => trivial, [.string p, .string n, .slice none 0 0, .slice none 0 0], ?_, ⟨rfl, fun j q hq => ?_⟩⟩
  · have h2 := World.ownsRow_lit (base := 0) (e := 44) (size := 4) w #[.string p, .string n, .slice none 0 0, .slice none 0 0] 1 (Nat.zero_le _) (by unfold maxLen; omega) (by simp)
    simpa [show kRow.sz = 4 from rfl] using h2
  · match j, hq with
    | 0, hq =>
      injection hq with hq
      subst hq
      exact kRow_mkM _ _ _ _ (Kd.R_nil _ _ _ _ _) (Kd.R_nil _ _ _ _ _)
theorem Glob.lt {w : World} (h : Glob w) : 0 < w.heap.size ∧ 1 < w.heap.size := ⟨World.block_lt_of_cell? w _ (h.first 0 (by omega)), World.block_lt_of_cell? w _ (h.keys 0 (by omega))⟩
abbrev sN : ByteArray := ⟨#[110]⟩
def rN : Row := ⟨pathOf sN [] [], sN, [], []⟩
theorem right_sN : right sN = true := by decide +kernel
theorem rN_ok : RowOk rN ∧ Ris rN.refs := ⟨⟨right_sN, by simp [rN], by simp [rN], by simp [rN]⟩, Ris.nil⟩
theorem rN_fits : fitsB rN = true := (fitsB_iff _).2 rfl
theorem put_rN : putA ⟨[], [], [], [], 0⟩ [rN] = (⟨[(rN.path, rN)], [], [], [(rN.path, 1)], 1⟩, 0) := by
  have h1 : mayE [] rN = 0 := by unfold mayE; rw [if_pos rN_fits]; rfl
  have h2 : stageL [rN] [] [] = ([(rN.path, rN)], [rN], 0) := by
    unfold stageL
    rw [if_neg (by simp [mlook]), if_pos h1]
    rfl
  unfold putA
  rw [h2]
  have h3 : IntKind.u64.wrap (0 + 1) = 1 := by decide
  simp only [if_true, if_neg (show ([rN] : List Row) ≠ [] by simp), h3]
  simp [linkR, rN, touchL, mset]
theorem fld0 (W : World) (AH : Option Addr) (cH : Nat) (AK : Option Addr) (cK : Nat) (v2 v3 v5 : Value) : (Instr.field 66 (.agg #[.slice AH 8 cH, .slice AK 64 cK, v2, v3, .int .u64 0, v5]) 0).run Tryz.prog W = .ok (.agg #[.slice AH 8 cH, .slice AK 64 cK]) W := by kernel_rfl
abbrev S0 : St := ⟨[], [], [], [], 0⟩
theorem make_rN (W : World) (AH : Option Addr) (cH : Nat) (AK : Option Addr) (cK : Nat) (hh : HashV W AH AK) : Calls Tryz.prog 39 #[.agg #[.slice AH 8 cH, .slice AK 64 cK], .string { data := #[110] }, .slice none 0 0, .slice none 0 0] W fun e w' => e = .returned (.tuple #[.string rN.path, .int .i64 0]) ∧ Below W.heap.size W w' :=
  r07_Make0 W AH cH AK cK sN none 0 [] hh (Kd.C_nil _ _) (by intro x hx; cases hx) (by simp) right_sN
theorem stamp_S0 (w : World) (B : Bl) (p : ByteArray) (h : StoreAt w B S0) : Calls Tryz.prog 23 #[.pointer (some ⟨B.sb, 0, none⟩), .string p] w fun e w' => e = .returned (.int .u64 0) ∧ w = w' := store_stamp w B S0 p h
theorem note_1 (w : World) (kb lb : Nat) (p : ByteArray) (h : BookAt w kb lb []) : Calls Tryz.prog 22 #[.pointer (some ⟨kb, 0, none⟩), .int .i64 1, .string p, .int .u64 0] w fun e w' => e = .returned (.tuple #[]) ∧ ∃ v1, BookAt w' kb lb [(1, (v1, [⟨p, 0⟩]))] ∧ Mut (BookF kb lb []) w w' ∧ (∀ k, BookF kb lb [(1, (v1, [⟨p, 0⟩]))] k → BookF kb lb [] k ∨ w.heap.size ≤ k) :=
  book_note w kb lb [] 1 p 0 h (by simp [bkOf, mlook])
theorem fresh_a (w : World) (kb lb : Nat) (v1 : Value) (p : ByteArray) (b : Nat) (h : BookAt w kb lb [(1, (v1, [⟨p, 0⟩]))]) (hs : StOr w (.pointer (some ⟨b, 0, none⟩)) []) :
    Calls Tryz.prog 24 #[.pointer (some ⟨kb, 0, none⟩), .int .i64 1, .pointer (some ⟨b, 0, none⟩)] w fun e w' => e = .returned (.bool true) ∧ Below w.heap.size w w' := by
  have hx := book_fresh w kb lb _ 1 _ _ h hs (by simp [bkOf, mlook])
  have e : (!(bkOf [((1 : Int), (v1, [(⟨p, 0⟩ : Clm)]))] 1).2.any (staleB [])) = true := by simp [bkOf, mlook, staleB]
  rw [e] at hx
  exact hx
theorem fresh_b (w : World) (kb lb : Nat) (v1 : Value) (p : ByteArray) (b : Nat) (h : BookAt w kb lb [(1, (v1, [⟨p, 0⟩]))]) (hs : StOr w (.pointer (some ⟨b, 0, none⟩)) [(p, 1)]) :
    Calls Tryz.prog 24 #[.pointer (some ⟨kb, 0, none⟩), .int .i64 1, .pointer (some ⟨b, 0, none⟩)] w fun e w' => e = .returned (.bool false) ∧ Below w.heap.size w w' := by
  have hx := book_fresh w kb lb _ 1 _ _ h hs (by simp [bkOf, mlook])
  have e : (!(bkOf [((1 : Int), (v1, [(⟨p, 0⟩ : Clm)]))] 1).2.any (staleB [(p, 1)])) = false := by simp [bkOf, mlook, staleB]
  rw [e] at hx
  exact hx
theorem fresh_c (w : World) (kb lb : Nat) (v1 : Value) (p : ByteArray) (b : Nat) (h : BookAt w kb lb [(1, (v1, [⟨p, 0⟩]))]) (hs : StOr w (.pointer (some ⟨b, 0, none⟩)) [(p, 1)]) :
    Calls Tryz.prog 24 #[.pointer (some ⟨kb, 0, none⟩), .int .i64 2, .pointer (some ⟨b, 0, none⟩)] w fun e w' => e = .returned (.bool true) ∧ Below w.heap.size w w' := by
  have hx := book_fresh w kb lb _ 2 _ _ h hs (by simp [bkOf, mlook])
  have e : (!(bkOf [((1 : Int), (v1, [(⟨p, 0⟩ : Clm)]))] 2).2.any (staleB [(p, 1)])) = true := by simp [bkOf, mlook]
  rw [e] at hx
  exact hx
theorem put_first (w : World) (B : Bl) (p : ByteArray) (hp : p = rN.path) (A : Option Addr) (h : StoreAt w B S0) (hg : Glob w) (h0 : ¬ StF B S0 0) (h1 : ¬ StF B S0 1) (hl : RowsC w A [⟨p, sN, [], []⟩]) :
    Calls Tryz.prog 20 #[.pointer (some ⟨B.sb, 0, none⟩), .slice A 1 1] w fun e w' => e = .returned (.int .i64 0) ∧ ∃ B' S', StoreAt w' B' S' ∧ S'.stamps = [(p, 1)] ∧ B'.sb = B.sb ∧ Mut (StF B S0) w w' := by
  subst hp
  have hx := store_put w B S0 A 1 [rN] h hg h0 h1 hl (by simp) (fun x hx => by rw [List.mem_singleton] at hx; subst hx; exact rN_ok)
  have e : putA (St.ab S0) [rN] = _ := put_rN
  rw [e] at hx
  refine hx.mono fun e w' h => ?_
  obtain ⟨he, B', S', hp⟩ := h
  exact ⟨he, B', S', hp.at_, congrArg Ab.stamps hp.ab, hp.sb, hp.mt⟩
set_option maxRecDepth 20000 in
set_option maxHeartbeats 4000000 in
theorem touched_true (w : World) (hg : Glob w) :
    Calls Tryz.prog 15 #[] w fun e w' => e = .returned (.bool true) ∧ Below w.heap.size w w' := by
  have HG := Lib.hid hg
  obtain ⟨p, hp⟩ : ∃ p, p = rN.path := ⟨_, rfl⟩
  have HP := Lib.hid hp
  have hmk := fun W AH cH AK cK (hh : HashV W AH AK) => Lib.hid (make_rN W AH cH AK cK hh)
  rw [← hp] at hmk
  have HMk := Lib.hid hmk
  clear hg hp hmk
  go_enter Tryz.func15, Tryz.ntmps15
  go_wp2_with (first
    | (go_at_call 18; (with_reducible refine (db_new _).mono ?_); rintro e w1 ⟨B, rfl, hs, hf, hb⟩; have H1 := Lib.hid (And.intro hs (And.intro hf hb)); clear hs hf hb)
    | (go_at_call 21; (with_reducible refine (book_new _).mono ?_); rintro e w2 ⟨kb, lb, rfl, hk, hkb, hlb, hb⟩; have H2 := Lib.hid (And.intro hk (And.intro hkb (And.intro hlb hb))); clear hk hkb hlb hb)
    | (go_at_call 28; (with_reducible refine (r10_New _).mono ?_); rintro e w3 ⟨AH, cH, AK, cK, v2, v3, v5, rfl, hh, hb⟩; have H3 := Lib.hid (And.intro hh hb); have hfl := fld0 w3 AH cH AK cK v2 v3 v5; clear hh hb)
    | (go_at_call 39; (with_reducible refine (HMk.out _ AH cH AK cK H3.out.1).out.mono ?_); rintro e w4 ⟨rfl, hb⟩
       have hb24 : Below w2.heap.size w2 w4 := H3.out.2.trans (hb.mono (below_size H3.out.2))
       have hb14 : Below w1.heap.size w1 w4 := H2.out.2.2.2.trans (hb24.mono (below_size H2.out.2.2.2))
       have hs4 := H1.out.1.below hb14
       have hk4 := H2.out.1.below hb24
       have hb04 := H1.out.2.2.trans (hb14.mono (below_size H1.out.2.2))
       have H4 := Lib.hid (And.intro hs4 (And.intro hk4 (And.intro hb04 hb14.size)))
       clear hb hb24 hb14 hs4 hk4 hb04)
    | (go_at_call 23; (with_reducible refine (stamp_S0 _ B p H4.out.1).mono ?_); rintro e w5 ⟨rfl, rfl⟩)
    | (go_at_call 22; (with_reducible refine (note_1 _ kb lb p H4.out.2.1).mono ?_); rintro e w5 ⟨rfl, v1, hk5, hm5, hn5⟩
       have hsep0 : ∀ k, BookF kb lb [] k → w1.heap.size ≤ k := fun k hk => by
         rcases hk with rfl | rfl | ⟨q, hq, _⟩
         · exact H2.out.2.1
         · exact H2.out.2.2.1
         · cases hq
       have h14 : w1.heap.size ≤ w4.heap.size := H4.out.2.2.2
       have hsep : ∀ k, BookF kb lb [(1, (v1, [⟨p, 0⟩]))] k → w1.heap.size ≤ k := fun k hk => by
         rcases hn5 k hk with h | h
         · exact hsep0 k h
         · omega
       have hF : ∀ k, StF B S0 k → k < w1.heap.size := fun k hk => H1.out.1.F_lt hk
       have hs5 : StoreAt w5 B S0 := H4.out.1.move hm5 (fun k hk hk2 => by have := hF k hk; have := hsep0 k hk2; omega) (hm5.keepT (fun k C t fr hk hb => H4.out.2.1.typ k C t fr hk hb))
       have hb5 : Below w.heap.size w w5 := H4.out.2.2.1.trans (hm5.below (below_size H4.out.2.2.1) (fun k _ hk => by have := hsep0 k hk; have := below_size H1.out.2.2; omega))
       have hor : StOr w5 (.pointer (some ⟨B.sb, 0, none⟩)) [] := Or.inr ⟨B, S0, rfl, hs5, rfl⟩
       have H5 := Lib.hid (And.intro hs5 (And.intro hk5 (And.intro hb5 (And.intro hor (fun k (hk : BookF kb lb [(1, (v1, [⟨p, 0⟩]))] k) (hk2 : StF B S0 k) => show False by have := hF k hk2; have := hsep k hk; omega)))))
       clear hor hsep0 h14 hsep hF hs5 hb5 hk5 hm5 hn5)
    | (go_at_call 24; (with_reducible refine (fresh_a _ kb lb v1 p B.sb H5.out.2.1 H5.out.2.2.2.1).mono ?_); rintro e w6 ⟨rfl, hb⟩
       have hb6 : Below w5.heap.size w5 (w6.alloc (.cells #[.string p, .string { data := #[110] }, .slice none 0 0, .slice none 0 0] 44)) := below_alloc hb _
       have hl := row1_lit w6 p { data := #[110] }
       obtain ⟨W6, hW6⟩ : ∃ W, W = w6.alloc (.cells #[.string p, .string { data := #[110] }, .slice none 0 0, .slice none 0 0] 44) := ⟨_, rfl⟩
       have hb06 : Below w.heap.size w W6 := by rw [hW6]; exact H5.out.2.2.1.trans (hb6.mono (below_size H5.out.2.2.1))
       have hp := put_first W6 B p HP.out (some ⟨w6.heap.size, 0, none⟩) (by rw [hW6]; exact H5.out.1.below hb6) (HG.out.below hb06) (fun hk => by have := H1.out.2.1 _ hk; have := HG.out.lt.1; omega) (fun hk => by have := H1.out.2.1 _ hk; have := HG.out.lt.2; omega) (by rw [hW6]; exact hl)
       have hk6 : BookAt W6 kb lb [(1, (v1, [⟨p, 0⟩]))] := by rw [hW6]; exact H5.out.2.1.below hb6
       have H6 := Lib.hid (And.intro hW6 (And.intro hb06 (And.intro hp hk6)))
       clear hb hb6 hl hb06 hp hk6 hW6)
    | (go_at_call 20; (rw [← H6.out.1]); (with_reducible refine H6.out.2.2.1.mono ?_); rintro e w7 ⟨rfl, B', S', hs7, hst7, hsb7, hm7⟩
       have hk7 := H6.out.2.2.2.mut hm7 (fun k hk hk2 => H5.out.2.2.2.2 k hk hk2)
       have hb7 : Below w.heap.size w w7 := H6.out.2.1.trans (hm7.below (below_size H6.out.2.1) (fun k _ hk => H1.out.2.1 k hk))
       have hor : StOr w7 (.pointer (some ⟨B.sb, 0, none⟩)) [(p, 1)] := Or.inr ⟨B', S', by rw [← hsb7], hs7, hst7⟩
       have H7 := Lib.hid (And.intro hk7 (And.intro hb7 hor))
       clear hs7 hst7 hsb7 hm7 hk7 hb7 hor)
    | (go_at_call 24; (with_reducible refine (fresh_b _ kb lb v1 p B.sb H7.out.1 H7.out.2.2).mono ?_); rintro e w8 ⟨rfl, hb8⟩; have hk8 := H7.out.1.below hb8; have hor8 := H7.out.2.2.below hb8; have H8 := Lib.hid (And.intro hk8 (And.intro hor8 (H7.out.2.1.trans (hb8.mono (below_size H7.out.2.1))))); clear hb8 hk8 hor8)
    | (go_at_call 24; (with_reducible refine (fresh_c _ kb lb v1 p B.sb H8.out.1 H8.out.2.1).mono ?_); rintro e w9 ⟨rfl, hb9⟩; have H9 := Lib.hid (H8.out.2.2.trans (hb9.mono (below_size H8.out.2.2))); clear hb9)
    | fail)
  go_returns
  exact ⟨rfl, H9.out⟩
end Go.Proofs.YtdhghaiifeienaaGreatDoor

/- What the laid variables give a walk: the two tables of package hash. -/
set_option linter.unusedVariables false
set_option linter.unusedSimpArgs false
namespace Go.Proofs.YtdhghaiifeienaaGreatDoor
open Go.ChangeShapes Go.WideShapes Go.ChangeAt Go.RowKit

theorem own : ownKnob Tryz.prog.godebug = none := by kernel_rfl
theorem laid_first : (Rows.laid_godown_hash_first : DataW Unit) = .agg (first0.map fun n => .lit (.int .u32 n)) := by kernel_rfl
theorem laid_keys : (Rows.laid_godown_hash_keys : DataW Unit) = .agg (keys0.map fun n => .lit (.int .u32 n)) := by kernel_rfl
theorem arr_cell {W : World} {g : Nat} {nm : String} {cs : Array Value} {t : TypeId} {n fuel : Nat} {zs : List Int} {enc : TypeId × Value → Unit} {base : Nat} {spare : Nat → Bool} {held : Bool} {q : List MemPlace}
    (hg : Tryz.prog.globalNamed nm = some g) (hv : W.var? Tryz.prog nm = some cs) (hu : Tryz.prog.underlying t = some (.array n 184)) (hlen : zs.length = n)
    (hd : DataW.trod enc Tryz.prog W base spare held fuel t cs.toList = some (.agg (zs.map fun n => .lit (.int .u32 n)), q)) (r : Nat) (hr : r < n) : W.cell? ⟨g, r, none⟩ = some (.int .u32 (zs.getD r 0)) := by
  obtain ⟨xs, m, _, ex, _, hl, hel⟩ := DataW.trod_array hu hd
  have c5 : Tryz.prog.cellsOf 184 = 1 := by kernel_rfl
  have hE := hel r hr
  rw [c5, Nat.mul_one, List.getElem?_eq_getElem (by omega)] at hE
  obtain ⟨z, e1, e2, _⟩ := DataW.trod_int Tryz.underlying184 hE
  have e3 : (xs.map (·.1)) = zs.map fun n => .lit (.int .u32 n) := (DataW.agg.inj (Prod.mk.inj ex).1).symm
  have e4 : (xs.map (·.1))[r]? = (zs.map fun n => (DataW.lit (.int .u32 n) : DataW Unit))[r]? := by rw [e3]
  rw [List.getElem?_map, List.getElem?_map, List.getElem?_eq_getElem (by omega : r < xs.length), List.getElem?_eq_getElem (by omega : r < zs.length), e2] at e4
  have hz : z = zs.getD r 0 := by
    simp only [Option.map_some, Option.some.injEq, DataW.lit.injEq, Lit.int.injEq, true_and] at e4
    rw [e4, List.getD, List.getElem?_eq_getElem (by omega : r < zs.length)]; rfl
  rw [World.var?_cell hg hv r, ← hz]
  have : cs.toList[r]? = some (.int .u32 z) := by
    have h0 : ((cs.toList.drop r).take 1)[0]? = some (.int .u32 z) := by rw [e1]; rfl
    simpa using h0
  simpa using this
theorem glob_of_laid {W : World} (h : laidMet Tryz.prog Rows.claimNilRow.laid W) : Glob W := by
  obtain ⟨ps, ⟨g0, t0, cs0, f0, p0, q0, hg0, ht0, hv0, hd0, ⟨g1, t1, cs1, f1, p1, q1, hg1, ht1, hv1, hd1, _, _⟩, _⟩, _, _⟩ := h
  obtain rfl := Option.some.inj ((show Tryz.prog.globalNamed "godown/hash.first" = some 0 by kernel_rfl).symm.trans hg0)
  obtain rfl := Option.some.inj ((show Tryz.prog.globalNamed "godown/hash.keys" = some 1 by kernel_rfl).symm.trans hg1)
  obtain rfl := Option.some.inj ((show (Tryz.prog.globals[0]?).map (·.type) = some 236 by kernel_rfl).symm.trans ht0)
  obtain rfl := Option.some.inj ((show (Tryz.prog.globals[1]?).map (·.type) = some 266 by kernel_rfl).symm.trans ht1)
  rw [laid_first] at hd0
  rw [laid_keys] at hd1
  exact ⟨fun i hi => arr_cell hg0 hv0 Tryz.underlying236 (by decide) hd0 i hi, fun i hi => arr_cell hg1 hv1 Tryz.underlying266 (by decide +kernel) hd1 i hi⟩
end Go.Proofs.YtdhghaiifeienaaGreatDoor
