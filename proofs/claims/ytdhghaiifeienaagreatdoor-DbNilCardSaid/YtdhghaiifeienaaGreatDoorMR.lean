/- The document's SHA-256: Sum. -/
import Derived.Test.YtdhghaiifeienaaGreatDoorMH
import Derived.Deep.RegionHeld3

/- The document's SHA-256: Sum. -/
set_option linter.unusedVariables false
set_option linter.unusedSimpArgs false
namespace Go.Proofs.YtdhghaiifeienaaGreatDoor
open Go.RowKit Go.Proofs.YtdhghaiifeienaaGreatDoorW.PrintWords

theorem cell_below {w w1 : World} {a : Addr} {v : Value} (h : w.cell? a = some v) (hb : Below w.heap.size w w1) : w1.cell? a = some v := by
  have hl := World.block_lt_of_cell? w _ h
  unfold World.cell? at h ⊢
  rw [hb.block _ hl]; exact h
theorem own_addr {d : Kd Int} {e : Nat} {w0 w : World} {A : Option Addr} {n c : Nat} {xs : List Int} (h : Own d e w0 w (.slice A n c) xs) (hx : 0 < xs.length) : ∃ g, A = some ⟨g, 0, none⟩ := by
  obtain ⟨inner, ho⟩ := Kd.R_own h.1
  rcases ho.2 with ⟨he, h0⟩ | ⟨g, cap, cur, he, _⟩
  · omega
  · injection he with h1 _ _
    exact ⟨g, h1⟩
/-- A byte of a row that begins its block. -/
theorem byte_at {w : World} {g : Nat} {xs : List Int} (h : (Kd.int .u8).C w (some ⟨g, 0, none⟩) xs.length xs) (i : Nat) (hi : i < xs.length) : w.cell? ⟨g, i, none⟩ = some (.int .u8 (xs.getD i 0)) := by
  obtain ⟨ad, e, d⟩ := Kd.at_int h (i : Int) (by omega) (by omega)
  injection e with e
  subst e
  rw [addr_add] at d
  simpa [rd] using d
theorem lit8_C (W : World) (e : TypeId) (s : S8) : kU.C (W.alloc (.cells (s.l.map U).toArray e)) (some ⟨W.heap.size, 0, none⟩) 8 s.l := by
  have h : kU.R e (W.alloc (.cells (s.l.map U).toArray e)) W.heap.size tr (.slice (some ⟨W.heap.size, 0, none⟩) s.l.length s.l.length) s.l :=
    Kd.R_of_own (enc := U) (h1 := fun _ => rfl) (by
      have := World.ownsRow_lit (base := W.heap.size) (e := e) (size := 1) W (s.l.map U).toArray s.l.length (Nat.le_refl _) (by rw [S8.l_len]; unfold maxLen; omega) (by simp)
      simpa [encs] using this) (fun _ _ => trivial)
  exact C_of_R h
/-- What a sum needs. -/
structure Pk (w : World) (AH : Option Addr) (cH : Nat) (AK : Option Addr) (cK : Nat) (A5 : Option Addr) (q : List Int) (w' : World) : Prop where
  box : w'.heap[w.heap.size]? = some (.cells #[.slice AH 8 cH, .slice AK 64 cK] 31 (0, 0))
  bw : Below w.heap.size w w'
  q : (Kd.int .u8).C w' A5 q.length q
  h : kU.C w' AH 8 H0.l
  k : kU.C w' AK 64 K0
theorem Pk.below {w : World} {AH : Option Addr} {cH : Nat} {AK : Option Addr} {cK : Nat} {A5 : Option Addr} {q : List Int} {w' w1 : World} (h : Pk w AH cH AK cK A5 q w') (hb : Below w'.heap.size w' w1) : Pk w AH cH AK cK A5 q w1 :=
  ⟨(hb.block _ (blk_lt h.box)).trans h.box, h.bw.trans (hb.mono (below_size h.bw)), Kd.C_below h.q hb, Kd.C_below h.h hb, Kd.C_below h.k hb⟩
/-- The box of a hasher. -/
def HashAt (w : World) (g : Nat) (AH : Option Addr) (cH : Nat) (AK : Option Addr) (cK : Nat) : Prop := w.heap[g]? = some (.cells #[.slice AH 8 cH, .slice AK 64 cK] 31 (0, 0))
abbrev boxed (w : World) (AH : Option Addr) (cH : Nat) (AK : Option Addr) (cK : Nat) : World := w.alloc (.cells #[.slice AH 8 cH, .slice AK 64 cK] 31)
set_option maxRecDepth 20000 in
set_option maxHeartbeats 60000000 in
theorem r02_Sum (w : World) (AH : Option Addr) (cH : Nat) (AK : Option Addr) (cK : Nat) (A : Option Addr) (c : Nat) (p : List Int) (hH : kU.C w AH 8 H0.l) (hK : kU.C w AK 64 K0) (hp : (Kd.int .u8).C w A p.length p) (hb : Bys p) (hl : p.length ≤ 1000000) :
    Calls Tryz.prog 86 #[.agg #[.slice AH 8 cH, .slice AK 64 cK], .slice A p.length c] w fun e w' => ∃ v, e = .returned v ∧ Own (Kd.int .u8) 5 w w' v (sum p) := by
  have HH := Lib.hid (And.intro hH hK)
  have HBY := Lib.hid hb
  clear hH hK hb
  have HP := Lib.hid hp
  clear hp
  go_enter Tryz.func86, Tryz.ntmps86
  go_wp2_with (first
    | (at_builtin; refine app_ints (k := .u8) (w0 := boxed w AH cH AK cK) rfl (.tmp 28) (.tmp 29) rfl und_bytes info_u8 (by omega) _ [] p A c rfl rfl (Own.nil (Kd.int .u8) 5 _) (Kd.C_below HP.out (below_alloc (Below.refl _ _) _)) (by simp; omega) ?_; intro v1 w1 ho1 hg1; clear hg1; have HO1 := Lib.hid ho1; clear ho1)
    | (at_builtin; refine app_int (k := .u8) (w0 := boxed w AH cH AK cK) rfl (.tmp 31) (.tmp 32) rfl und_bytes info_u8 (by omega) v1 _ 128 rfl rfl HO1.out (by simp; omega) ?_; intro v2 w2 ho2 hg2; clear hg2; have HO2 := Lib.hid ho2; clear ho2))
  go_loopg [5] (zeros p.length) (fun n v5 w' => ∃ j, Hid (n + j = zeros p.length ∧ Own (Kd.int .u8) 5 (boxed w AH cH AK cK) w' v5 (p ++ [128] ++ List.replicate j 0)))
  case atStart => exact ⟨0, by omega, by simpa using HO2.out⟩
  case round =>
    obtain ⟨j, hrel⟩ := hrel
    obtain ⟨hn, ho⟩ := hrel.out
    clear hrel HO1 HO2
    obtain ⟨q, hq⟩ : ∃ q : List Int, q = p ++ [128] ++ List.replicate j 0 := ⟨_, rfl⟩
    have hlen : q.length = p.length + 1 + j := by rw [hq]; simp; omega
    rw [← hq] at ho
    obtain ⟨A3, c3, rfl⟩ := ho.slice
    have HQ := Lib.hid hq
    have HL := Lib.hid hlen
    have HO := Lib.hid ho
    clear ho hq hlen
    unfold zeros at hn
    rcases Nat.lt_or_ge j (zeros p.length) with hj | hj
    · unfold zeros at hj
--[[P1
      as_aux_lemma =>
        have c1 : ((q.length : Int) % 64 != 56) = true := by rw [HL.out]; exact bne_iff_ne.mpr (by omega)
        go_wp2_with (at_builtin; refine app_int (k := .u8) (w0 := boxed w AH cH AK cK) rfl (.tmp 38) (.tmp 39) rfl und_bytes info_u8 (by omega) _ _ 0 rfl rfl HO.out (by have := HL.out; omega) ?_; intro v1 w1 ho1 hg1; clear hg1; have HO1 := Lib.hid ho1; clear ho1)
        go_roundg (gk - 1)
        case measure => omega
        case rel => exact ⟨j + 1, by unfold zeros; omega, by have := HO1.out; rw [HQ.out, List.append_assoc, ← List.replicate_succ'] at this; exact this⟩
--]]P1
    · unfold zeros at hj
      have c1 : ((q.length : Int) % 64 != 56) = false := by rw [HL.out]; exact bne_eq_false_iff_eq.mpr (by omega)
      have c2 : (p.length : Int) % 18446744073709551616 = (p.length : Int) := by omega
      have hjz : j = zeros p.length := by unfold zeros; omega
      obtain ⟨N, hN⟩ : ∃ N : Int, N = (p.length : Int) * 8 := ⟨_, rfl⟩
      have c3 : IntKind.u64.wrap ((p.length : Int) * 8) = N := by rw [Go.IntKind.wrap_u64, hN]; omega
      have HN := Lib.hid hN
      have HL0 := Lib.hid hl
      clear hN hl
      go_wp2
      clear c1 c2 c3 hn hj
      go_loopg [5, 7] 8 (fun n v5 v7 w' => ∃ t x7, v7 = .int .i64 x7 ∧ Hid (n + t = 8 ∧ x7 = (t : Int) ∧ Own (Kd.int .u8) 5 (boxed w AH cH AK cK) w' v5 (p ++ [128] ++ List.replicate (zeros p.length) 0 ++ (bytes8 N).take t)))
      case atStart => exact ⟨0, 0, rfl, by omega, by omega, by rw [List.take_zero, List.append_nil, ← hjz, ← HQ.out]; exact HO.out⟩
      case round =>
        obtain ⟨t, x7, rfl, hrel⟩ := hrel
        obtain ⟨hn7, hx7, ho⟩ := hrel.out
        clear hrel HO
        have HO := Lib.hid ho
        clear ho
        rcases (show t = 8 ∨ t = 0 ∨ t = 1 ∨ t = 2 ∨ t = 3 ∨ t = 4 ∨ t = 5 ∨ t = 6 ∨ t = 7 by omega) with rfl | rfl | rfl | rfl | rfl | rfl | rfl | rfl | rfl
        · obtain rfl : x7 = 8 := by omega
          clear hx7
          have ho := HO.out
          rw [show (bytes8 N).take 8 = bytes8 N from rfl, HN.out] at ho
          have ho' : Own (Kd.int .u8) 5 (boxed w AH cH AK cK) wr u5 (pad p) := ho
          clear HO ho
          obtain ⟨q, hq⟩ : ∃ q, q = pad p := ⟨_, rfl⟩
          rw [← hq] at ho'
          obtain ⟨A5, c5, rfl, hl5, hC5⟩ := ho'.reads
          obtain ⟨g5, rfl⟩ := own_addr ho' (by rw [hq, pad_len]; omega)
          have hB0 : HashAt wr w.heap.size AH cH AK cK := (ho'.2.block _ (by simp)).trans (heap_alloc_new _ _)
          have hBw : Below w.heap.size w wr := (below_alloc (Below.refl _ _) _).trans (ho'.2.mono (by simp))
          have hHH : kU.C wr AH 8 H0.l := Kd.C_below HH.out.1 hBw
          have hKK : kU.C wr AK 64 K0 := Kd.C_below HH.out.2 hBw
          obtain ⟨e0, e1⟩ := cells2 hB0
          have HPk := Lib.hid (Pk.mk hB0 hBw hC5 hHH hKK)
          have HQ5 := Lib.hid (And.intro hq hl5)
          clear hq hl5 hC5 hB0 hBw hHH hKK ho' HQ HL hjz
          go_wp2_with (at_builtin; refine app_Us (w0 := wr) rfl (.const (.slice none 0 0)) (.tmp 59) rfl und_u32l info_u32 _ [] H0.l AH 8 cH rfl rfl (Own.nil kU 184 wr) HPk.out.h (by simp) ?_; intro v3 w3 ho3 hg3; clear hg3; have HO3 := Lib.hid ho3; clear ho3)
          have hP3 := HPk.out.below HO3.out.2
          obtain ⟨A8, c8, rfl, hl8, hC8⟩ := HO3.out.reads
          obtain ⟨g8, rfl⟩ := own_addrU HO3.out (by simp [S8.l])
          have hmod := pad_mod p
          rw [← HQ5.out.1] at hmod
          have hM : q.length = 64 * (q.length / 64) := by omega
          obtain ⟨M, hMe⟩ : ∃ M, M = q.length / 64 := ⟨_, rfl⟩
          rw [← hMe] at hM
          have hf : blks K0 M H0 (q.drop (64 * 0)) = sumS p := by rw [hMe, HQ5.out.1]; rfl
          have HI := Lib.hid (And.intro hC8 (And.intro hf hP3))
          have HM := Lib.hid (And.intro hM (pad_len p))
          clear hC8 hf hP3 hM hMe hmod HO3 hl8 HPk e0 e1
          go_loopg [8, 9] M (fun n v8 v9 w' => ∃ g8 c8 m s, v8 = .slice (some ⟨g8, 0, none⟩) 8 c8 ∧ v9 = .int .i64 ((64 * m : Nat) : Int) ∧ Hid (n + m = M ∧ kU.C w' (some ⟨g8, 0, none⟩) 8 (S8.l s) ∧ blks K0 n s (q.drop (64 * m)) = sumS p ∧ Pk w AH cH AK cK (some ⟨g5, 0, none⟩) q w'))
          case atStart => exact ⟨g8, c8, 0, H0, rfl, rfl, by omega, HI.out⟩
          case round =>
            clear HI
            rename World => W8
            obtain ⟨g8, c8, m, s, rfl, rfl, hrel⟩ := hrel
            obtain ⟨hn, hC8, hf, hP⟩ := hrel.out
            clear hrel
            rcases Nat.lt_or_ge m M with hm | hm
            · have hm' := hm
--[[ROUND
              obtain ⟨G, hG⟩ : ∃ G, G = gk := ⟨_, rfl⟩
              have HGK := Lib.hid (And.intro hG (hG ▸ hn))
              clear hG
              obtain ⟨z9, hz9⟩ : ∃ z : Int, z = ((64 * m : Nat) : Int) := ⟨_, rfl⟩
              have hq64 : 64 * m + 64 ≤ q.length := by rw [HM.out.1]; omega
              have hqm : q.length ≤ 2000000 := by
                have e1 := HQ5.out.1
                have e2 := HM.out.2
                have e3 := HL0.out
                have e4 : zeros p.length < 64 := Nat.mod_lt _ (by decide)
                rw [e1, e2]; omega
              have q0 : decide (z9 < (q.length : Int)) = true := decide_eq_true (by omega)
              rw [← hz9]
              obtain ⟨B, hBe⟩ : ∃ B, B = (q.drop (64 * m)).take 64 := ⟨_, rfl⟩
              have HZ := Lib.hid (And.intro hz9 (And.intro hq64 (And.intro hqm hBe)))
              have HR := Lib.hid (And.intro hn (And.intro hC8 (And.intro hf hP)))
              clear hn hC8 hf hP hm hz9 hm' hq64 hqm hBe
              go_wp2
              clear q0
              go_loopg [10, 11] 64 (fun n v10 v11 w' => ∃ i : Nat, v11 = .int .i64 (i : Int) ∧ Hid (n + i = 64 ∧ Own kU 184 W8 w' v10 (sched B i)))
              case atStart => exact ⟨0, rfl, by omega, Own.nil _ _ _⟩
              case round =>
                obtain ⟨i, rfl, hrel⟩ := hrel
                obtain ⟨hn, ho⟩ := hrel.out
                clear hrel
                have HO := Lib.hid ho
                rcases Nat.lt_or_ge i 64 with hi64 | hi64
                · rcases Nat.lt_or_ge i 16 with hi | hi
--[[W1
                  as_aux_lemma =>
                    · obtain ⟨hz9, hq64, hqm, hBe⟩ := HZ.out
                      have hqC := HR.out.2.2.2.q
                      obtain ⟨k4, hk4⟩ : ∃ k : Int, k = 4 * (i : Int) := ⟨_, rfl⟩
                      obtain ⟨kk, hkk⟩ : ∃ k : Int, k = z9 + 4 * (i : Int) := ⟨_, rfl⟩
                      have e4 : IntKind.i64.wrap (4 * (i : Int)) = k4 := by rw [Go.IntKind.wrap_i64]; omega
                      have e5 : IntKind.i64.wrap (z9 + k4) = kk := by rw [Go.IntKind.wrap_i64]; omega
                      have hkn : kk.toNat = 64 * m + 4 * i := by omega
                      have hcf := cut_from (P := Tryz.prog) 42 5 .i64 und_bytes (i := Tryz.t5) rfl 1 rfl (some ⟨g5, 0, none⟩) q.length c5 kk (by omega) (by omega)
                      have hl5 := HQ5.out.2
                      rw [if_neg (by omega)] at hcf
                      obtain ⟨kn, hkn'⟩ : ∃ n, n = kk.toNat := ⟨_, rfl⟩
                      have hA9 : Option.map (fun x : Addr => x.add (kk.toNat * 1)) (some ⟨g5, 0, none⟩) = some ⟨g5, kn, none⟩ := by rw [Option.map_some, addr_add, hkn']; simp
                      rw [hA9] at hcf
                      obtain ⟨n9, hn9⟩ : ∃ n, n = q.length - kk.toNat := ⟨_, rfl⟩
                      obtain ⟨c9, hc9⟩ : ∃ n, n = c5 - kk.toNat := ⟨_, rfl⟩
                      rw [← hn9, ← hc9] at hcf
                      have d0 := byte_at hqC kn (by omega)
                      have d1 := byte_at hqC (kn + 1) (by omega)
                      have d2 := byte_at hqC (kn + 2) (by omega)
                      have d3 := byte_at hqC (kn + 3) (by omega)
                      have q0 : ((i : Int) < 64) = True := eq_true (by omega)
                      have q1 : ((i : Int) < 16) = True := eq_true (by omega)
                      have s0 : (0 < n9) = True := eq_true (by omega)
                      have s1 : (1 < n9) = True := eq_true (by omega)
                      have s2 : (2 < n9) = True := eq_true (by omega)
                      have s3 : (3 < n9) = True := eq_true (by omega)
                      have r0 : ((0 : Int) < (n9 : Int)) = True := eq_true (by omega)
                      have r1 : ((1 : Int) < (n9 : Int)) = True := eq_true (by omega)
                      have r2 : ((2 : Int) < (n9 : Int)) = True := eq_true (by omega)
                      have r3 : ((3 : Int) < (n9 : Int)) = True := eq_true (by omega)
                      obtain ⟨x0, hx0⟩ : ∃ x, x = q.getD kn 0 := ⟨_, rfl⟩
                      obtain ⟨x1, hx1⟩ : ∃ x, x = q.getD (kn + 1) 0 := ⟨_, rfl⟩
                      obtain ⟨x2, hx2⟩ : ∃ x, x = q.getD (kn + 2) 0 := ⟨_, rfl⟩
                      obtain ⟨x3, hx3⟩ : ∃ x, x = q.getD (kn + 3) 0 := ⟨_, rfl⟩
                      rw [← hx0] at d0
                      rw [← hx1] at d1
                      rw [← hx2] at d2
                      rw [← hx3] at d3
                      have hkm : kn = 64 * m + 4 * i := by omega
                      have DD := Lib.hid (And.intro d0 (And.intro d1 (And.intro d2 d3)))
                      have HX := Lib.hid (And.intro hx0 (And.intro hx1 (And.intro hx2 (And.intro hx3 hkm))))
                      replace d0 := cell_below d0 ho.2
                      replace d1 := cell_below d1 ho.2
                      replace d2 := cell_below d2 ho.2
                      replace d3 := cell_below d3 ho.2
                      have n0 := World.new_ne wr _ d0
                      have n1 := World.new_ne wr _ d1
                      have n2 := World.new_ne wr _ d2
                      have n3 := World.new_ne wr _ d3
                      have HB4 : Hid (be B (4 * i) = bw x0 <<< 24 ||| bw x1 <<< 16 ||| bw x2 <<< 8 ||| bw x3) := Lib.hid (by
                        unfold be
                        rw [hBe, getD_block _ _ _ (by omega), getD_block _ _ _ (by omega), getD_block _ _ _ (by omega), getD_block _ _ _ (by omega), hx0, hx1, hx2, hx3, hkm]
                        rfl)
                      have HN := Lib.hid hn
                      clear hx0 hx1 hx2 hx3 hkm hz9 hq64 hqm hBe hqC hk4 hkk hkn hn9 hc9 hA9 hn ho hkn' hl5
                      go_wp2_with fail
                      go_region_held3 (fun w' => w'.cell? ⟨g5, kn, none⟩ = some (.int .u8 x0) ∧ w'.cell? ⟨g5, kn + 1, none⟩ = some (.int .u8 x1) ∧ w'.cell? ⟨g5, kn + 2, none⟩ = some (.int .u8 x2) ∧ w'.cell? ⟨g5, kn + 3, none⟩ = some (.int .u8 x3)) (go_keep) (first | (refine app_U_step (W := wr.drew) (w0 := W8) rfl (.tmp 79) (.tmp 102) rfl und_u32l info_u32 u10 (sched B i) (be B (4 * i)) _ ?hz rfl rfl HO.out.drew ?hl ?_; (case hz => (have hby : Bys q := by rw [HQ5.out.1]; exact pad_bys HBY.out); rw [HB4.out]; exact be_wrap x0 x1 x2 x3 (by rw [HX.out.1]; exact hby.get _) (by rw [HX.out.2.1]; exact hby.get _) (by rw [HX.out.2.2.1]; exact hby.get _) (by rw [HX.out.2.2.2.1]; exact hby.get _)); (case hl => rw [sched_len]; omega); intro v1 w1 ho1 hg1; clear hg1; have d0 := cell_below DD.out.1 ho1.2; have d1 := cell_below DD.out.2.1 ho1.2; have d2 := cell_below DD.out.2.2.1 ho1.2; have d3 := cell_below DD.out.2.2.2 ho1.2; have HO1 := Lib.hid ho1; clear ho1))
                      go_wp2
                      go_roundg (gk - 1)
                      case measure => have := HN.out; omega
                      case rel =>
                        refine ⟨i + 1, rfl, by have := HN.out; omega, ?_⟩
                        rw [show sched B (i + 1) = sched B i ++ [be B (4 * i)] by simp [sched, nextW, sched_len, hi]]
                        exact HO1.out
--]]W1
                  · skip
--[[W2
                    as_aux_lemma =>
                      obtain ⟨A10, c10, rfl⟩ := ho.slice
                      have hsl := sched_len B i
                      obtain ⟨g10, rfl⟩ := own_addrU ho (by rw [hsl]; omega)
                      have hCw : kU.C wr (some ⟨g10, 0, none⟩) (sched B i).length (sched B i) := C_of_R ho.1
                      obtain ⟨m15, hm15⟩ : ∃ k : Nat, k = i - 15 := ⟨_, rfl⟩
                      obtain ⟨m2, hm2⟩ : ∃ k : Nat, k = i - 2 := ⟨_, rfl⟩
                      obtain ⟨m16, hm16⟩ : ∃ k : Nat, k = i - 16 := ⟨_, rfl⟩
                      obtain ⟨m7, hm7⟩ : ∃ k : Nat, k = i - 7 := ⟨_, rfl⟩
                      have a0 := word_at hCw m15 (by omega)
                      have a1 := word_at hCw m2 (by omega)
                      have a2 := word_at hCw m16 (by omega)
                      have a3 := word_at hCw m7 (by omega)
                      have w0 : IntKind.i64.wrap ((i : Int) - 15) = (m15 : Int) := by rw [Go.IntKind.wrap_i64]; omega
                      have w1' : IntKind.i64.wrap ((i : Int) - 2) = (m2 : Int) := by rw [Go.IntKind.wrap_i64]; omega
                      have w2' : IntKind.i64.wrap ((i : Int) - 16) = (m16 : Int) := by rw [Go.IntKind.wrap_i64]; omega
                      have w3' : IntKind.i64.wrap ((i : Int) - 7) = (m7 : Int) := by rw [Go.IntKind.wrap_i64]; omega
                      obtain ⟨x15, e15⟩ : ∃ x, x = (sched B i).getD m15 0 := ⟨_, rfl⟩
                      obtain ⟨x2, e2⟩ : ∃ x, x = (sched B i).getD m2 0 := ⟨_, rfl⟩
                      obtain ⟨x16, e16⟩ : ∃ x, x = (sched B i).getD m16 0 := ⟨_, rfl⟩
                      obtain ⟨x7, e7⟩ : ∃ x, x = (sched B i).getD m7 0 := ⟨_, rfl⟩
                      rw [← e15] at a0
                      rw [← e2] at a1
                      rw [← e16] at a2
                      rw [← e7] at a3
                      obtain ⟨n10, hn10⟩ : ∃ n, n = (sched B i).length := ⟨_, rfl⟩
                      have q0 : ((i : Int) < 64) = True := eq_true (by omega)
                      have q1 : ((i : Int) < 16) = False := eq_false (by omega)
                      have q15 : ((m15 : Int) < (n10 : Int)) = True := eq_true (by omega)
                      have q2 : ((m2 : Int) < (n10 : Int)) = True := eq_true (by omega)
                      have q16 : ((m16 : Int) < (n10 : Int)) = True := eq_true (by omega)
                      have q7 : ((m7 : Int) < (n10 : Int)) = True := eq_true (by omega)
                      have s15 : (m15 < n10) = True := eq_true (by omega)
                      have s2 : (m2 < n10) = True := eq_true (by omega)
                      have s16 : (m16 < n10) = True := eq_true (by omega)
                      have s7 : (m7 < n10) = True := eq_true (by omega)
                      have HN := Lib.hid hn
                      have HK := Lib.hid (And.intro hm15 (And.intro hm2 (And.intro hm16 (And.intro hm7 (And.intro hi hi64)))))
                      have HX := Lib.hid (And.intro e15 (And.intro e2 (And.intro e16 (And.intro e7 hn10))))
                      have HNX : Hid (nextW B (sched B i) = x16 + sg0 x15 + x7 + sg1 x2) := Lib.hid (by
                        unfold nextW
                        rw [sched_len, if_neg (by omega), ← hm15, ← hm2, ← hm16, ← hm7, ← e15, ← e2, ← e16, ← e7])
                      rw [← hn10]
                      clear hn ho hsl hCw hm15 hm2 hm16 hm7 e15 e2 e16 e7 hn10 hi hi64
                      go_wp2_with fail
                      go_quiet (fail)
                      obtain ⟨wd, hwd⟩ : ∃ wd, wd = wr.drewN nq := ⟨_, rfl⟩
                      rw [← hwd]
                      replace a2 : wd.cell? ⟨g10, m16, none⟩ = some (.int .u32 (x16.toNat : Int)) := by rw [hwd]; exact a2
                      replace a3 : wd.cell? ⟨g10, m7, none⟩ = some (.int .u32 (x7.toNat : Int)) := by rw [hwd]; exact a3
                      have HOd : Hid (Own kU 184 W8 wd (.slice (some ⟨g10, 0, none⟩) (sched B i).length c10) (sched B i)) := Lib.hid (by rw [hwd]; exact HO.out.drewN nq)
                      have r7 := Lib.hid (r02_turned x15 7 (by omega) 7 rfl)
                      have r18 := Lib.hid (r02_turned x15 18 (by omega) 18 rfl)
                      have r17 := Lib.hid (r02_turned x2 17 (by omega) 17 rfl)
                      have r19 := Lib.hid (r02_turned x2 19 (by omega) 19 rfl)
                      unfold U at r7 r18 r17 r19
                      have n2 := World.new_ne wd _ a2
                      have n3 := World.new_ne wd _ a3
                      clear hwd a0 a1
                      go_wp2_with fail
                      go_region_held3 (fun w' => w'.cell? ⟨g10, m16, none⟩ = some (.int .u32 (x16.toNat : Int)) ∧ w'.cell? ⟨g10, m7, none⟩ = some (.int .u32 (x7.toNat : Int))) (go_keep) (first
                        | (go_at_call 122; (with_reducible refine (r7.out _).mono ?_); rintro e w' ⟨rfl, qq, rfl⟩)
                        | (go_at_call 122; (with_reducible refine (r18.out _).mono ?_); rintro e w' ⟨rfl, qq, rfl⟩)
                        | (go_at_call 122; (with_reducible refine (r17.out _).mono ?_); rintro e w' ⟨rfl, qq, rfl⟩)
                        | (go_at_call 122; (with_reducible refine (r19.out _).mono ?_); rintro e w' ⟨rfl, qq, rfl⟩)
                        | (refine app_U_step_kept (w0 := W8) rfl (.tmp 114) (.tmp 144) rfl und_u32l info_u32 g10 c10 (sched B i) (nextW B (sched B i)) _ ?hz ?hs rfl ?hO ?hl ?_; (case hz => (simp only [Go.IntKind.wrap_u32]); (have hv := step_val x15 x2 x16 x7 (nextW B (sched B i)) HNX.out); omega); (case hs => rw [← HX.out.2.2.2.2]; rfl); (case hO => repeat (first | exact HOd.out | refine Own.drewN ?_ _ | refine Own.drew ?_)); (case hl => rw [sched_len]; have := HK.out; omega); intro v1 w1 ho1 hk1; have b2 := hk1 m16 (by rw [sched_len]; have := HK.out; omega); have b3 := hk1 m7 (by rw [sched_len]; have := HK.out; omega); rw [← HX.out.2.2.1] at b2; rw [← HX.out.2.2.2.1] at b3; clear hk1; have HO1 := Lib.hid ho1; clear ho1))
                      go_wp2
                      go_roundg (gk - 1)
                      case measure => have := HN.out; have := HK.out; omega
                      case rel =>
                        refine ⟨i + 1, congrArg (Value.int .i64) (by have := HK.out; unfold wrap64; omega), by have := HN.out; have := HK.out; omega, ?_⟩
                        exact HO1.out
--]]W2
                · skip
--[[RR
                  obtain rfl : i = 64 := by omega
                  obtain ⟨A10, c10, rfl⟩ := ho.slice
                  obtain ⟨S, hS⟩ : ∃ S, S = sched B 64 := ⟨_, rfl⟩
                  have hSl : S.length = 64 := by rw [hS, sched_len]
                  rw [← hS] at ho ⊢
                  obtain ⟨n10, hn10⟩ : ∃ n, n = S.length := ⟨_, rfl⟩
                  rw [← hn10] at ho ⊢
                  obtain ⟨g10, rfl⟩ := own_addrU ho (by rw [hSl]; omega)
                  have hCS : kU.C wr (some ⟨g10, 0, none⟩) S.length S := C_of_R ho.1
                  have hC8 : kU.C wr (some ⟨g8, 0, none⟩) s.l.length s.l := Kd.C_below HR.out.2.1 ho.2
                  have d0 : wr.cell? ⟨g8, 0, none⟩ = some (.int .u32 (s.a.toNat : Int)) := word_at hC8 0 (by rw [S8.l_len]; omega)
                  have d1 : wr.cell? ⟨g8, 1, none⟩ = some (.int .u32 (s.b.toNat : Int)) := word_at hC8 1 (by rw [S8.l_len]; omega)
                  have d2 : wr.cell? ⟨g8, 2, none⟩ = some (.int .u32 (s.c.toNat : Int)) := word_at hC8 2 (by rw [S8.l_len]; omega)
                  have d3 : wr.cell? ⟨g8, 3, none⟩ = some (.int .u32 (s.d.toNat : Int)) := word_at hC8 3 (by rw [S8.l_len]; omega)
                  have d4 : wr.cell? ⟨g8, 4, none⟩ = some (.int .u32 (s.e.toNat : Int)) := word_at hC8 4 (by rw [S8.l_len]; omega)
                  have d5 : wr.cell? ⟨g8, 5, none⟩ = some (.int .u32 (s.f.toNat : Int)) := word_at hC8 5 (by rw [S8.l_len]; omega)
                  have d6 : wr.cell? ⟨g8, 6, none⟩ = some (.int .u32 (s.g.toNat : Int)) := word_at hC8 6 (by rw [S8.l_len]; omega)
                  have d7 : wr.cell? ⟨g8, 7, none⟩ = some (.int .u32 (s.h.toNat : Int)) := word_at hC8 7 (by rw [S8.l_len]; omega)
                  have HSS := Lib.hid (And.intro hS (And.intro hSl (And.intro ho (And.intro hCS hC8))))
                  rw [hSl] at hn10
                  clear hS hSl ho hCS hC8 hn hi64 HO
                  go_wp2_with fail
                  go_quiet (fail)
                  obtain ⟨wd, hwd⟩ : ∃ wd, wd = wr.drewN nq := ⟨_, rfl⟩
                  rw [← hwd]
                  have hBd : Below W8.heap.size W8 wd := by rw [hwd]; exact pw_below_drewN HSS.out.2.2.1.2 nq
                  have hSd : kU.C wd (some ⟨g10, 0, none⟩) S.length S := by rw [hwd]; exact Kd.C_drewN HSS.out.2.2.2.1 nq
                  have hC8d : kU.C wd (some ⟨g8, 0, none⟩) s.l.length s.l := by rw [hwd]; exact Kd.C_drewN HSS.out.2.2.2.2 nq
                  have HI := Lib.hid (And.intro hBd (And.intro hSd hC8d))
                  clear d0 d1 d2 d3 d4 d5 d6 d7 hwd hBd hSd hC8d
                  go_wp2
                  go_loopg [15, 16, 17, 18, 19, 20, 21, 22, 23] 64 (fun n v15 v16 v17 v18 v19 v20 v21 v22 v23 w' => ∃ (i : Nat) (t : S8), v15 = .int .u32 (t.a.toNat : Int) ∧ v16 = .int .u32 (t.b.toNat : Int) ∧ v17 = .int .u32 (t.c.toNat : Int) ∧ v18 = .int .u32 (t.d.toNat : Int) ∧ v19 = .int .u32 (t.e.toNat : Int) ∧ v20 = .int .u32 (t.f.toNat : Int) ∧ v21 = .int .u32 (t.g.toNat : Int) ∧ v22 = .int .u32 (t.h.toNat : Int) ∧ v23 = .int .i64 (i : Int) ∧ Hid (n + i = 64 ∧ t = rnds K0 S s i ∧ ∃ k, w' = World.drewN wd k))
                  case atStart => exact ⟨0, s, rfl, rfl, rfl, rfl, rfl, rfl, rfl, rfl, rfl, by omega, rfl, 0, rfl⟩
                  case round =>
                    obtain ⟨i, t, rfl, rfl, rfl, rfl, rfl, rfl, rfl, rfl, rfl, hrel⟩ := hrel
                    obtain ⟨hn, ht, k, hw⟩ := hrel.out
                    clear hrel
                    rcases Nat.lt_or_ge i 64 with hi | hi
                    · skip
--[[R1
                      have hBw : Below W8.heap.size W8 wr := by rw [hw]; exact pw_below_drewN HI.out.1 k
                      have hP := (HR.out.2.2.2).below hBw
                      obtain ⟨adK, rfl, dK⟩ := at_U hP.k (i : Int) (by omega) (by omega)
                      rw [Int.toNat_natCast] at dK
                      obtain ⟨e0, e1⟩ := cells2 hP.box
                      have hSw : kU.C wr (some ⟨g10, 0, none⟩) S.length S := by rw [hw]; exact Kd.C_drewN HI.out.2.1 k
                      have dS := word_at hSw i (by rw [HSS.out.2.1]; exact hi)
                      obtain ⟨kk, hkk⟩ : ∃ x, x = K0.getD i 0 := ⟨_, rfl⟩
                      obtain ⟨xw, hxw⟩ : ∃ x, x = S.getD i 0 := ⟨_, rfl⟩
                      rw [← hkk] at dK
                      rw [← hxw] at dS
                      have q0 : ((i : Int) < 64) = True := eq_true (by omega)
                      have r6 := Lib.hid (r02_turned t.e 6 (by omega) 6 rfl)
                      have r11 := Lib.hid (r02_turned t.e 11 (by omega) 11 rfl)
                      have r25 := Lib.hid (r02_turned t.e 25 (by omega) 25 rfl)
                      have r2 := Lib.hid (r02_turned t.a 2 (by omega) 2 rfl)
                      have r13 := Lib.hid (r02_turned t.a 13 (by omega) 13 rfl)
                      have r22 := Lib.hid (r02_turned t.a 22 (by omega) 22 rfl)
                      unfold U at r6 r11 r25 r2 r13 r22
                      have vE := bigE_val t.e
                      have vA := bigA_val t.a
                      have vC := chz_val t.e t.f t.g
                      have vM := mjo_val t.a t.b t.c
                      have q1 : ((i : Int) < (n10 : Int)) = True := eq_true (by omega)
                      have q2 : (i < n10) = True := eq_true (by omega)
                      have HT := Lib.hid (And.intro hn (And.intro ht (And.intro hkk (And.intro hxw (And.intro hi hw)))))
                      clear hn ht hkk hxw hi hw hBw hP hSw hn10
                      go_wp2_with fail
                      go_quiet (first
                       | (go_at_call 122; with_reducible exact Calls.quiet_of (r6.out _))
                       | (go_at_call 122; with_reducible exact Calls.quiet_of (r11.out _))
                       | (go_at_call 122; with_reducible exact Calls.quiet_of (r25.out _)))
                      clear r6 r11 r25
                      obtain ⟨we, hwe⟩ : ∃ we, we = wr.drewN nq := ⟨_, rfl⟩
                      rw [← hwe]
                      have HWE := Lib.hid hwe
                      clear hwe e0 e1 dK dS
                      go_wp2_with (first
                       | (go_at_call 122; (with_reducible refine (r2.out _).mono ?_); rintro e w' ⟨rfl, qa, rfl⟩)
                       | (go_at_call 122; (with_reducible refine (r13.out _).mono ?_); rintro e w' ⟨rfl, qb, rfl⟩)
                       | (go_at_call 122; (with_reducible refine (r22.out _).mono ?_); rintro e w' ⟨rfl, qc, rfl⟩))
                      go_roundg (gk - 1)
                      case measure => have := HT.out; omega
                      case rel =>
                        obtain ⟨hn, ht, hkk, hxw, hi, hw⟩ := HT.out
                        have e : rnds K0 S s (i + 1) = rnd t kk xw := by rw [hkk, hxw, ht]; rfl
                        refine ⟨i + 1, rnd t kk xw, ?_, rfl, rfl, rfl, ?_, rfl, rfl, rfl, congrArg (Value.int .i64) (by unfold wrap64; omega), by omega, e.symm, _, by rw [HWE.out, hw]; simp only [World.drewN_drewN]; rfl⟩
                        · refine congrArg (Value.int .u32) ?_
                          show _ = ((rndx t kk xw + bigA t.a + maj t.a t.b t.c).toNat : Int)
                          unfold rndx; simp only [← u32_add]; omega
                        · refine congrArg (Value.int .u32) ?_
                          show _ = ((t.d + rndx t kk xw).toNat : Int)
                          unfold rndx; simp only [← u32_add]; omega
--]]R1
                    · skip
--[[R2
                      obtain rfl : i = 64 := by omega
                      have hBw : Below W8.heap.size W8 wr := by rw [hw]; exact pw_below_drewN HI.out.1 k
                      have hP := (HR.out.2.2.2).below hBw
                      have hC8w : kU.C wr (some ⟨g8, 0, none⟩) s.l.length s.l := by rw [hw]; exact Kd.C_drewN HI.out.2.2 k
                      have d0 : wr.cell? ⟨g8, 0, none⟩ = some (.int .u32 (s.a.toNat : Int)) := word_at hC8w 0 (by rw [S8.l_len]; omega)
                      have d1 : wr.cell? ⟨g8, 1, none⟩ = some (.int .u32 (s.b.toNat : Int)) := word_at hC8w 1 (by rw [S8.l_len]; omega)
                      have d2 : wr.cell? ⟨g8, 2, none⟩ = some (.int .u32 (s.c.toNat : Int)) := word_at hC8w 2 (by rw [S8.l_len]; omega)
                      have d3 : wr.cell? ⟨g8, 3, none⟩ = some (.int .u32 (s.d.toNat : Int)) := word_at hC8w 3 (by rw [S8.l_len]; omega)
                      have d4 : wr.cell? ⟨g8, 4, none⟩ = some (.int .u32 (s.e.toNat : Int)) := word_at hC8w 4 (by rw [S8.l_len]; omega)
                      have d5 : wr.cell? ⟨g8, 5, none⟩ = some (.int .u32 (s.f.toNat : Int)) := word_at hC8w 5 (by rw [S8.l_len]; omega)
                      have d6 : wr.cell? ⟨g8, 6, none⟩ = some (.int .u32 (s.g.toNat : Int)) := word_at hC8w 6 (by rw [S8.l_len]; omega)
                      have d7 : wr.cell? ⟨g8, 7, none⟩ = some (.int .u32 (s.h.toNat : Int)) := word_at hC8w 7 (by rw [S8.l_len]; omega)
                      obtain ⟨hz9, hq64, hqm, hBe⟩ := HZ.out
                      obtain ⟨z10, hz10⟩ : ∃ z : Int, z = ((64 * (m + 1) : Nat) : Int) := ⟨_, rfl⟩
                      have c10 : wrap64 (z9 + 64) = z10 := by unfold wrap64; omega
                      have b0 : 0 ≤ z9 := by omega
                      have b1 : z9 ≤ 2000000 := by omega
                      have HT := Lib.hid (And.intro hn (And.intro ht (And.intro hBw (And.intro hP hz10))))
                      clear hn ht hw hBw hP hC8w hz9 hq64 hqm hBe hz10 hn10 hi
                      go_wp2_with fail
                      go_still_tail 40, (by kernel_rfl)
                      change wpList _ _ _ _ _ (World.drew _)
                      go_wp2
                      have hGm : G + m = M ∧ m < M := by have h1 := HGK.out; have h2 := HT.out.1; have h3 := HZ.out.2.1; have h4 := HM.out.1; omega
                      go_roundg (G - 1)
                      case measure => have h1 := HGK.out; omega
                      case rel =>
                        obtain ⟨hn, ht, hBw, hP, hz10⟩ := HT.out
                        obtain ⟨hz9, hq64, hqm, hBe⟩ := HZ.out
                        refine ⟨wr.heap.size, 8, m + 1, addS s t, rfl, by rw [hz9]; exact congrArg (Value.int .i64) (by omega), by omega, ?_, ?_, ?_⟩
                        · simp only [u32_add]
                          exact lit8_C wr.drew _ (addS s t)
                        · have hf := HR.out.2.2.1
                          rw [← HGK.out.1, show G = (G - 1) + 1 by omega] at hf
                          have e : turnS K0 s ((q.drop (64 * m)).take 64) = addS s t := by
                            unfold turnS
                            rw [ht, HSS.out.1, hBe]
                          rw [blks, e, List.drop_drop] at hf
                          exact hf
                        · exact hP.below (below_alloc (below_drew (Below.refl _ _)) _)
--]]R2
--]]RR
--]]ROUND
            · obtain rfl : m = M := by omega
--[[EXIT
              as_aux_lemma =>
                obtain rfl : gk = 0 := by omega
                have hs : s = sumS p := hf
                have hcond : ((64 * m : Nat) : Int) < (q.length : Int) ↔ False := by rw [HM.out.1]; simp
                have q0 : decide (((64 * m : Nat) : Int) < (q.length : Int)) = false := decide_eq_false (fun h => hcond.1 h)
                obtain ⟨z9, hz9⟩ : ∃ z : Int, z = ((64 * m : Nat) : Int) := ⟨_, rfl⟩
                rw [← hz9] at q0 ⊢
                have HPk := Lib.hid hP
                have HSS := Lib.hid hs
                have HC := Lib.hid hC8
                clear hn hC8 hf hP hs hm hcond hz9
                go_wp2
                clear q0
                go_loopg [26, 27] 8 (fun n v26 v27 w' => ∃ j : Nat, v27 = .int .i64 (j : Int) ∧ Hid (n + j = 8 ∧ Own (Kd.int .u8) 5 W8 w' v26 ((s.l.take j).flatMap out4)))
                case atStart => exact ⟨0, rfl, by omega, Own.nil _ _ _⟩
                case round =>
                  obtain ⟨j, rfl, hrel⟩ := hrel
                  obtain ⟨hn, ho⟩ := hrel.out
                  clear hrel
                  have HO := Lib.hid ho
                  rcases Nat.lt_or_ge j 8 with hj | hj
                  · have d0 := word_at (xs := s.l) HC.out j hj
                    obtain ⟨x, hx⟩ : ∃ x, x = s.l.getD j 0 := ⟨_, rfl⟩
                    rw [← hx] at d0
                    have HX := Lib.hid hx
                    have q0 : ((j : Int) < 8) = True := eq_true (by omega)
                    have D0 := Lib.hid d0
                    replace d0 := cell_below d0 ho.2
                    clear hx ho
                    go_wp2_with fail
                    have hne := World.new_ne wr _ d0
                    go_region_held3 (fun w' => w'.cell? ⟨g8, j, none⟩ = some (.int .u32 (x.toNat : Int))) (go_keep) (first | (refine app_ints_step (k := .u8) (W := wr.drew.alloc _) (w0 := W8) rfl (.tmp 279) (.tmp 303) rfl und_bytes info_u8 (by omega) u26 _ (out4w x) (some ⟨wr.heap.size, 0, none⟩) 4 4 rfl rfl ((HO.out.drew).alloc _) (lit_C .u8 5 wr.drew (out4w x) (by simp [out4w])) ?_ ?_; (rw [out_len, List.length_take, S8.l_len]; omega); intro v1 w1 ho1 hg1; clear hg1; rw [out4w_eq] at ho1; have d1 := cell_below D0.out ho1.2; have HO1 := Lib.hid ho1; clear ho1))
                    go_wp2
                    go_roundg (gk - 1)
                    case measure => omega
                    case rel => exact ⟨j + 1, rfl, by omega, by have := HO1.out; rw [HX.out, out_take s hj] at this; exact this⟩
                  · obtain rfl : j = 8 := by omega
                    clear ho
                    go_wp2
                    go_returns
                    exact ⟨_, rfl, by have := HO.out.lower HPk.out.bw; unfold sum; rw [← HSS.out]; exact this⟩
--]]EXIT
        · obtain rfl : x7 = 0 := by omega
--[[B0
          as_aux_lemma =>
            clear hx7
            go_wp2_with (at_builtin; refine app_int (k := .u8) (w0 := boxed w AH cH AK cK) rfl (.tmp 49) (.tmp 56) rfl und_bytes info_u8 (by omega) _ _ _ rfl rfl HO.out (by have := HL0.out; have := len_pad p N 0; omega) ?_; intro v1 w1 ho1 hg1; clear hg1; have HO1 := Lib.hid ho1; clear ho1)
            go_roundg (gk - 1)
            case measure => omega
            case rel => exact ⟨1, 1, rfl, by omega, by omega, by have := HO1.out; rw [List.append_assoc] at this; exact this⟩
--]]B0
        · obtain rfl : x7 = 1 := by omega
--[[B1
          as_aux_lemma =>
            clear hx7
            go_wp2_with (at_builtin; refine app_int (k := .u8) (w0 := boxed w AH cH AK cK) rfl (.tmp 49) (.tmp 56) rfl und_bytes info_u8 (by omega) _ _ _ rfl rfl HO.out (by have := HL0.out; have := len_pad p N 1; omega) ?_; intro v1 w1 ho1 hg1; clear hg1; have HO1 := Lib.hid ho1; clear ho1)
            go_roundg (gk - 1)
            case measure => omega
            case rel => exact ⟨2, 2, rfl, by omega, by omega, by have := HO1.out; rw [List.append_assoc] at this; exact this⟩
--]]B1
        · obtain rfl : x7 = 2 := by omega
--[[B2
          as_aux_lemma =>
            clear hx7
            go_wp2_with (at_builtin; refine app_int (k := .u8) (w0 := boxed w AH cH AK cK) rfl (.tmp 49) (.tmp 56) rfl und_bytes info_u8 (by omega) _ _ _ rfl rfl HO.out (by have := HL0.out; have := len_pad p N 2; omega) ?_; intro v1 w1 ho1 hg1; clear hg1; have HO1 := Lib.hid ho1; clear ho1)
            go_roundg (gk - 1)
            case measure => omega
            case rel => exact ⟨3, 3, rfl, by omega, by omega, by have := HO1.out; rw [List.append_assoc] at this; exact this⟩
--]]B2
        · obtain rfl : x7 = 3 := by omega
--[[B3
          as_aux_lemma =>
            clear hx7
            go_wp2_with (at_builtin; refine app_int (k := .u8) (w0 := boxed w AH cH AK cK) rfl (.tmp 49) (.tmp 56) rfl und_bytes info_u8 (by omega) _ _ _ rfl rfl HO.out (by have := HL0.out; have := len_pad p N 3; omega) ?_; intro v1 w1 ho1 hg1; clear hg1; have HO1 := Lib.hid ho1; clear ho1)
            go_roundg (gk - 1)
            case measure => omega
            case rel => exact ⟨4, 4, rfl, by omega, by omega, by have := HO1.out; rw [List.append_assoc] at this; exact this⟩
--]]B3
        · obtain rfl : x7 = 4 := by omega
--[[B4
          as_aux_lemma =>
            clear hx7
            go_wp2_with (at_builtin; refine app_int (k := .u8) (w0 := boxed w AH cH AK cK) rfl (.tmp 49) (.tmp 56) rfl und_bytes info_u8 (by omega) _ _ _ rfl rfl HO.out (by have := HL0.out; have := len_pad p N 4; omega) ?_; intro v1 w1 ho1 hg1; clear hg1; have HO1 := Lib.hid ho1; clear ho1)
            go_roundg (gk - 1)
            case measure => omega
            case rel => exact ⟨5, 5, rfl, by omega, by omega, by have := HO1.out; rw [List.append_assoc] at this; exact this⟩
--]]B4
        · obtain rfl : x7 = 5 := by omega
--[[B5
          as_aux_lemma =>
            clear hx7
            go_wp2_with (at_builtin; refine app_int (k := .u8) (w0 := boxed w AH cH AK cK) rfl (.tmp 49) (.tmp 56) rfl und_bytes info_u8 (by omega) _ _ _ rfl rfl HO.out (by have := HL0.out; have := len_pad p N 5; omega) ?_; intro v1 w1 ho1 hg1; clear hg1; have HO1 := Lib.hid ho1; clear ho1)
            go_roundg (gk - 1)
            case measure => omega
            case rel => exact ⟨6, 6, rfl, by omega, by omega, by have := HO1.out; rw [List.append_assoc] at this; exact this⟩
--]]B5
        · obtain rfl : x7 = 6 := by omega
--[[B6
          as_aux_lemma =>
            clear hx7
            go_wp2_with (at_builtin; refine app_int (k := .u8) (w0 := boxed w AH cH AK cK) rfl (.tmp 49) (.tmp 56) rfl und_bytes info_u8 (by omega) _ _ _ rfl rfl HO.out (by have := HL0.out; have := len_pad p N 6; omega) ?_; intro v1 w1 ho1 hg1; clear hg1; have HO1 := Lib.hid ho1; clear ho1)
            go_roundg (gk - 1)
            case measure => omega
            case rel => exact ⟨7, 7, rfl, by omega, by omega, by have := HO1.out; rw [List.append_assoc] at this; exact this⟩
--]]B6
        · obtain rfl : x7 = 7 := by omega
--[[B7
          as_aux_lemma =>
            clear hx7
            go_wp2_with (at_builtin; refine app_int (k := .u8) (w0 := boxed w AH cH AK cK) rfl (.tmp 49) (.tmp 56) rfl und_bytes info_u8 (by omega) _ _ _ rfl rfl HO.out (by have := HL0.out; have := len_pad p N 7; omega) ?_; intro v1 w1 ho1 hg1; clear hg1; have HO1 := Lib.hid ho1; clear ho1)
            go_roundg (gk - 1)
            case measure => omega
            case rel => exact ⟨8, 8, rfl, by omega, by omega, by have := HO1.out; rw [List.append_assoc] at this; exact this⟩
--]]B7
end Go.Proofs.YtdhghaiifeienaaGreatDoor
