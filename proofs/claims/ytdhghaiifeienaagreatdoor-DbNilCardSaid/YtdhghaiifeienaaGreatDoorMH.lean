/- SHA-256: words, the rotations, the schedule. -/
import Derived.Test.YtdhghaiifeienaaGreatDoorMA
import Derived.BigRegion
import Derived.BigQuiet
import Derived.Deep.QuietTactic
import Derived.StillTailTactics
import Derived.Laws.CopyOwn
import Derived.Maps.AppendAt

/- SHA-256: words, the rotations, the schedule. -/
set_option linter.unusedVariables false
set_option linter.unusedSimpArgs false
namespace Go.Proofs.YtdhghaiifeienaaGreatDoor
open Go.RowKit Go.Proofs.YtdhghaiifeienaaGreatDoorW.PrintWords

abbrev B32 := BitVec 32
def U (x : B32) : Value := .int .u32 (x.toNat : Int)

theorem u32_of (x : Int) : x % 4294967296 = ((BitVec.ofInt 32 x).toNat : Int) := by
  rw [BitVec.toNat_ofInt]
  change x % 4294967296 = ((x % (4294967296 : Int)).toNat : Int)
  omega
theorem u32_add (x y : B32) : ((x.toNat : Int) + (y.toNat : Int)) % 4294967296 = ((x + y).toNat : Int) := by
  rw [BitVec.toNat_add]
  rfl
theorem u32_shl (x : B32) (k : Nat) : ((x.toNat : Int) * 2 ^ k) % 4294967296 = ((x <<< k).toNat : Int) := by
  rw [BitVec.toNat_shiftLeft, Nat.shiftLeft_eq]
  rw [show ((2 : Int) ^ k) = ((2 ^ k : Nat) : Int) by simp]
  rfl
theorem u32_shr (x : B32) (k : Nat) : (x.toNat : Int) / 2 ^ k = ((x >>> k).toNat : Int) := by
  rw [BitVec.toNat_ushiftRight, Nat.shiftRight_eq_div_pow]; push_cast; rfl
theorem u32_bits (x y : B32) : Go.bits .and .u32 (x.toNat : Int) (y.toNat : Int) = ((x &&& y).toNat : Int) ∧ Go.bits .or .u32 (x.toNat : Int) (y.toNat : Int) = ((x ||| y).toNat : Int) := by
  rw [BitVec.toNat_and, BitVec.toNat_or]
  exact Go.bits_nat .u32 32 (by decide) (fun n h0 h1 => by rw [Go.IntKind.wrap_u32]; omega) _ _ x.isLt y.isLt
theorem u32_and (x y : B32) : Go.bits .and .u32 (x.toNat : Int) (y.toNat : Int) = ((x &&& y).toNat : Int) := (u32_bits x y).1
theorem u32_or (x y : B32) : Go.bits .or .u32 (x.toNat : Int) (y.toNat : Int) = ((x ||| y).toNat : Int) := (u32_bits x y).2
theorem u32_xor (x y : B32) : Go.bits .xor .u32 (x.toNat : Int) (y.toNat : Int) = ((x ^^^ y).toNat : Int) := by
  have e : ∀ z : B32, BitVec.ofInt IntKind.u32.bits (z.toNat : Int) = z := fun z => by
    apply BitVec.eq_of_toNat_eq
    rw [BitVec.toNat_ofInt]
    have := z.isLt
    simp only [IntKind.bits] at *
    change ((z.toNat : Int) % (4294967296 : Int)).toNat = z.toNat
    omega
  have e2 : ∀ z : B32, IntKind.u32.wrap (z.toNat : Int) = (z.toNat : Int) := fun z => by
    rw [Go.IntKind.wrap_u32]
    have := z.isLt
    omega
  simp only [Go.bits, e]
  exact e2 _

/-- A turn to the left by k places. -/
def rl (x : B32) (k : Nat) : B32 := x <<< k ||| x >>> (32 - k)
def rr (x : B32) (n : Nat) : B32 := x >>> n ||| x <<< (32 - n)
theorem rl_rr (x : B32) (n : Nat) (h : n ≤ 32) : rl x (32 - n) = rr x n := by
  unfold rl rr
  rw [show 32 - (32 - n) = n by omega, BitVec.or_comm]

set_option maxHeartbeats 1000000 in
theorem rot_k (x : B32) (m : Int) (k : Nat) (hk : k ≤ 32) (h : Go.bits .and .u64 (IntKind.u64.wrap m) 31 = (k : Int)) (w : World) : Calls Tryz.prog 214 #[U x, .int .i64 m] w fun e w' => e = .returned (U (rl x k)) ∧ w' = w := by
  have c1 : (0 ≤ (k : Int)) = True := eq_true (by omega)
  have c2 : IntKind.u64.wrap (32 - (k : Int)) = ((32 - k : Nat) : Int) := by rw [Go.IntKind.wrap_u64]; omega
  have c3 : (0 ≤ ((32 - k : Nat) : Int)) = True := eq_true (by omega)
  have e := u32_or (x <<< k) (x >>> (32 - k))
  rw [← u32_shl, ← u32_shr] at e
  replace e := Lib.hid e
  unfold U
  go_enter Tryz.func214, Tryz.ntmps214
  go_wp2
  go_returns
  exact ⟨congrArg (fun z => Ending.returned (Value.int .u32 z)) e.out, rfl⟩
theorem rot_n (x : B32) (n : Nat) (h : Go.bits .and .u64 (IntKind.u64.wrap (-(n:Int))) 31 = ((32 - n : Nat) : Int)) (hn : n ≤ 32) (m : Int) (hm : m = -(n:Int)) (w : World) : Calls Tryz.prog 214 #[U x, .int .i64 m] w fun e w' => e = .returned (U (rr x n)) ∧ w' = w := by
  subst hm
  rw [← rl_rr x n hn]
  exact rot_k x _ (32 - n) (by omega) h w
set_option maxHeartbeats 1000000 in
theorem r02_turned (x : B32) (n : Nat) (hn : n ≤ 32) (m : Int) (hm : m = (n : Int)) (w : World) : Calls Tryz.prog 122 #[U x, .int .i64 m] w fun e w' => e = .returned (U (rr x n)) ∧ ∃ q, w' = w.drewN q := by
  subst hm
  have c1 : (0 ≤ (n : Int)) = True := eq_true (by omega)
  have c2 : IntKind.i64.wrap (32 - (n : Int)) = ((32 - n : Nat) : Int) := by rw [Go.IntKind.wrap_i64]; omega
  have c3 : (0 ≤ ((32 - n : Nat) : Int)) = True := eq_true (by omega)
  have e := u32_or (x >>> n) (x <<< (32 - n))
  rw [← u32_shl, ← u32_shr] at e
  replace e := Lib.hid e
  unfold U
  go_enter Tryz.func122, Tryz.ntmps122
  go_wp2_with fail
  go_quiet (fail)
  go_wp2
  go_returns
  exact ⟨congrArg (fun z => Ending.returned (Value.int .u32 z)) e.out, _, rfl⟩
/-! ### rows of one's own that grow -/
/-- A row of the call's own, made since w0; nothing that was at w0 has changed. -/
def Own {α : Type} (d : Kd α) (e : Nat) (w0 w : World) (v : Value) (xs : List α) : Prop := d.R e w w0.heap.size tr v xs ∧ Below w0.heap.size w0 w
section
variable {α : Type} {d : Kd α} {e : Nat} {w0 w w1 : World} {v : Value} {xs : List α}
theorem Own.size (h : Own d e w0 w v xs) : w0.heap.size ≤ w.heap.size := below_size h.2
theorem Own.lift (h : Own d e w0 w v xs) (hb : Below w.heap.size w w1) : Own d e w0 w1 v xs := ⟨Kd.R_below h.1 hb, h.2.trans (hb.mono h.size)⟩
theorem Own.alloc (h : Own d e w0 w v xs) (o : Obj) : Own d e w0 (w.alloc o) v xs := h.lift (below_alloc (Below.refl _ _) o)
theorem Own.drew (h : Own d e w0 w v xs) : Own d e w0 w.drew v xs := h.lift (below_drew1 (Below.refl _ _))
theorem Own.drewN (h : Own d e w0 w v xs) (n : Nat) : Own d e w0 (w.drewN n) v xs := h.lift (pw_below_drewN (Below.refl _ _) n)
theorem Own.nil (d : Kd α) (e : Nat) (w : World) : Own d e w w (.slice none 0 0) [] := ⟨Kd.R_nil _ _ _ _ _, Below.refl _ _⟩
theorem Own.slice (h : Own d e w0 w v xs) : ∃ A c, v = .slice A xs.length c := Kd.R_slice h.1
theorem Own.reads (h : Own d e w0 w v xs) : ∃ A c, v = .slice A xs.length c ∧ xs.length ≤ c ∧ d.C w A xs.length xs := Kd.R_reads h.1
theorem Own.lower {w' : World} (h : Own d e w0 w v xs) (hb : Below w'.heap.size w' w0) : Own d e w' w v xs := ⟨Kd.R_lower h.1 (below_size hb), hb.trans (h.2.mono (below_size hb))⟩
end
section
variable {P : Program} {ops : Array Oper} {rest : List Oper} {o : Oper} {a : Act} {Q : Exit → Act → World → Prop} {Kc : Act → World → Prop}
theorem app_int {k : IntKind} {t e : TypeId} {bytes : Nat} {w0 W : World} (hgd : o.guard = none) (s x : Operand)
    (ho : o.op = .call { callee := .builtin .append, args := #[s, x], argTypes := #[t, t] })
    (ht : P.underlying t = some (.slice e)) (hinfo : (P.info? e).map (fun i => (i.zero, i.size, i.bytes)) = some (some (.int k 0), 1, bytes)) (hb0 : 0 < bytes)
    (v : Value) (xs : List Int) (p : Int) (hs : a.eval s = v) (hx : a.eval x = .slice (some ⟨W.heap.size, 0, none⟩) 1 1)
    (HO : Own (Kd.int k) e w0 W v xs) (hl : (xs.length + 1) * bytes ≤ 140737488355328)
    (h : ∀ v1 w1, Own (Kd.int k) e w0 w1 v1 (xs ++ [p]) → W.grownBy w1 v.ownBlock → wpList P ops Q rest (a.put o.dst v1) w1) :
    wpList P ops Q (o :: rest) a (W.alloc (.cells #[.int k p] e)) :=
  Kd.R_append (Kd.int k) (w0 := w0) w0.heap.size hgd s x t e _ bytes ho ht hinfo rfl (Nat.zero_lt_one) hb0 v xs p [.int k p] tr (fun _ => False) hs hx rfl (fun _ hk => hk.elim) (fun _ _ => trivial) HO.1 HO.2 HO.size hl (fun v1 w1 h1 h2 h3 _ => h v1 w1 ⟨h1, h2⟩ h3)
theorem app_int_step {k : IntKind} {t e : TypeId} {bytes : Nat} {w0 W : World} (hw : Region.wanted o (yielded ops a.tmps) = true) (s x : Operand)
    (ho : o.op = .call { callee := .builtin .append, args := #[s, x], argTypes := #[t, t] })
    (ht : P.underlying t = some (.slice e)) (hinfo : (P.info? e).map (fun i => (i.zero, i.size, i.bytes)) = some (some (.int k 0), 1, bytes)) (hb0 : 0 < bytes)
    (v : Value) (xs : List Int) (p : Int) (hs : a.eval s = v) (hx : a.eval x = .slice (some ⟨W.heap.size, 0, none⟩) 1 1)
    (HO : Own (Kd.int k) e w0 W v xs) (hl : (xs.length + 1) * bytes ≤ 140737488355328)
    (h : ∀ v1 w1, Own (Kd.int k) e w0 w1 v1 (xs ++ [p]) → W.grownBy w1 v.ownBlock → Kc (a.put o.dst v1) w1) :
    if Region.wanted o (yielded ops a.tmps) = true then Oper.wp P o a (W.alloc (.cells #[.int k p] e)) Kc Q else Kc (a.put o.dst undef) (W.alloc (.cells #[.int k p] e)) :=
  Kd.R_append_step (Kd.int k) (w0 := w0) w0.heap.size hw s x t e _ bytes ho ht hinfo rfl (Nat.zero_lt_one) hb0 v xs p [.int k p] tr (fun _ => False) hs hx rfl (fun _ hk => hk.elim) (fun _ _ => trivial) HO.1 HO.2 HO.size hl (fun v1 w1 h1 h2 h3 _ => h v1 w1 ⟨h1, h2⟩ h3)
/-- append(v, y...): y's row is read. -/
theorem app_ints {k : IntKind} {t e : TypeId} {bytes : Nat} {w0 W : World} (hgd : o.guard = none) (s x : Operand)
    (ho : o.op = .call { callee := .builtin .append, args := #[s, x], argTypes := #[t, t] })
    (ht : P.underlying t = some (.slice e)) (hinfo : (P.info? e).map (fun i => (i.zero, i.size, i.bytes)) = some (some (.int k 0), 1, bytes)) (hb0 : 0 < bytes)
    (v : Value) (xs ys : List Int) (A : Option Addr) (c : Nat) (hs : a.eval s = v) (hx : a.eval x = .slice A ys.length c)
    (HO : Own (Kd.int k) e w0 W v xs) (HC : (Kd.int k).C W A ys.length ys) (hl : (xs.length + ys.length) * bytes ≤ 140737488355328)
    (h : ∀ v1 w1, Own (Kd.int k) e w0 w1 v1 (xs ++ ys) → W.grownBy w1 v.ownBlock → wpList P ops Q rest (a.put o.dst v1) w1) :
    wpList P ops Q (o :: rest) a W :=
  Kd.R_append_row (Value.int k) 0 (w0 := w0) w0.heap.size hgd s x t e _ bytes ho ht hinfo rfl hb0 v xs ys A _ c tr hs hx (fun _ _ => trivial) HO.1 HC HO.2 HO.size hl (fun v1 w1 h1 h2 h3 _ => h v1 w1 ⟨h1, h2⟩ h3)
end
theorem own_zero (k : IntKind) (e : TypeId) (w : World) : Own (Kd.int k) e w (w.alloc (.cells #[] e)) (.slice (some ⟨w.heap.size, 0, none⟩) 0 0) [] := by
  refine ⟨Kd.R_of_own (World.ownsRow_lit (base := w.heap.size) (e := e) (size := 1) w #[] 0 (Nat.le_refl _) (by decide) rfl) (fun _ _ => trivial), below_alloc (Below.refl _ _) _⟩
/-! ### padding -/
def bytes8 (n : Int) : List Int := [n / 72057594037927936 % 256, n / 281474976710656 % 256, n / 1099511627776 % 256, n / 4294967296 % 256, n / 16777216 % 256, n / 65536 % 256, n / 256 % 256, n % 256]
def zeros (n : Nat) : Nat := (119 - n % 64) % 64
def pad (p : List Int) : List Int := p ++ [128] ++ List.replicate (zeros p.length) 0 ++ bytes8 ((p.length : Int) * 8)
theorem len_pad (p : List Int) (n : Int) (t : Nat) : (p ++ [128] ++ List.replicate (zeros p.length) (0 : Int) ++ (bytes8 n).take t).length ≤ p.length + 73 := by
  simp only [List.length_append, List.length_cons, List.length_nil, List.length_replicate, List.length_take]
  have h1 : zeros p.length < 64 := Nat.mod_lt _ (by decide)
  have h2 : (bytes8 n).length = 8 := rfl
  omega
set_option maxRecDepth 20000 in
set_option maxHeartbeats 4000000 in
theorem hash_padded (w : World) (A : Option Addr) (c : Nat) (p : List Int) (hp : (Kd.int .u8).C w A p.length p) (hl : p.length ≤ 1000000) :
    Calls Tryz.prog 182 #[.slice A p.length c] w fun e w' => ∃ v, e = .returned v ∧ Own (Kd.int .u8) 5 w w' v (pad p) := by
  have HP := Lib.hid hp
  clear hp
  go_enter Tryz.func182, Tryz.ntmps182
  go_wp2_with (first
    | (at_builtin; refine app_ints (k := .u8) (w0 := w) rfl (.tmp 6) (.tmp 7) rfl und_bytes info_u8 (by omega) _ [] p A c rfl rfl (own_zero .u8 5 w) (Kd.C_below HP.out (below_alloc (Below.refl _ _) _)) (by simp; omega) ?_; intro v1 w1 ho1 hg1; clear hg1; have HO1 := Lib.hid ho1; clear ho1)
    | (at_builtin; refine app_int (k := .u8) (w0 := w) rfl (.tmp 8) (.tmp 9) rfl und_bytes info_u8 (by omega) v1 _ 128 rfl rfl HO1.out (by simp; omega) ?_; intro v2 w2 ho2 hg2; clear hg2; have HO2 := Lib.hid ho2; clear ho2))
  go_loopg [3] (zeros p.length) (fun n v3 w' => ∃ j, Hid (n + j = zeros p.length ∧ Own (Kd.int .u8) 5 w w' v3 (p ++ [128] ++ List.replicate j 0)))
  case atStart => exact ⟨0, by omega, by simpa using HO2.out⟩
  case round =>
    obtain ⟨j, hrel⟩ := hrel
    obtain ⟨hn, ho⟩ := hrel.out
    clear hrel HO1 HO2
    obtain ⟨q, hq⟩ : ∃ q : List Int, q = p ++ [128] ++ List.replicate j 0 := ⟨_, rfl⟩
    have hlen : q.length = p.length + 1 + j := by rw [hq]; simp; omega
    rw [← hq] at ho
    obtain ⟨A3, c3, rfl⟩ := ho.slice
    have HQ := Lib.hid hq
    have HL := Lib.hid hlen
    have HO := Lib.hid ho
    clear ho hq hlen
    unfold zeros at hn
    rcases Nat.lt_or_ge j (zeros p.length) with hj | hj
    · unfold zeros at hj
      have c1 : ((q.length : Int) % 64 != 56) = true := by rw [HL.out]; exact bne_iff_ne.mpr (by omega)
      go_wp2_with (at_builtin; refine app_int (k := .u8) (w0 := w) rfl (.tmp 15) (.tmp 16) rfl und_bytes info_u8 (by omega) _ _ 0 rfl rfl HO.out (by have := HL.out; omega) ?_; intro v1 w1 ho1 hg1; clear hg1; have HO1 := Lib.hid ho1; clear ho1)
      go_roundg (gk - 1)
      case measure => omega
      case rel => exact ⟨j + 1, by unfold zeros; omega, by have := HO1.out; rw [HQ.out, List.append_assoc, ← List.replicate_succ'] at this; exact this⟩
    · unfold zeros at hj
      have c1 : ((q.length : Int) % 64 != 56) = false := by rw [HL.out]; exact bne_eq_false_iff_eq.mpr (by omega)
      have c2 : (p.length : Int) % 18446744073709551616 = (p.length : Int) := by omega
      have hjz : j = zeros p.length := by unfold zeros; omega
      obtain ⟨N, hN⟩ : ∃ N : Int, N = (p.length : Int) * 8 := ⟨_, rfl⟩
      have c3 : IntKind.u64.wrap ((p.length : Int) * 8) = N := by rw [Go.IntKind.wrap_u64, hN]; omega
      have HN := Lib.hid hN
      have HL0 := Lib.hid hl
      clear hN hl
      go_wp2
      clear c1 c2 c3 hn hj
      go_loopg [3, 5] 8 (fun n v3 v5 w' => ∃ t x5, v5 = .int .i64 x5 ∧ Hid (n + t = 8 ∧ x5 = 7 - (t : Int) ∧ Own (Kd.int .u8) 5 w w' v3 (p ++ [128] ++ List.replicate (zeros p.length) 0 ++ (bytes8 N).take t)))
      case atStart => exact ⟨0, 7, rfl, by omega, by omega, by rw [List.take_zero, List.append_nil, ← hjz, ← HQ.out]; exact HO.out⟩
      case round =>
        obtain ⟨t, x5, rfl, hrel⟩ := hrel
        obtain ⟨hn5, hx5, ho⟩ := hrel.out
        clear hrel HO
        have HO := Lib.hid ho
        clear ho
        rcases (show t = 8 ∨ t = 0 ∨ t = 1 ∨ t = 2 ∨ t = 3 ∨ t = 4 ∨ t = 5 ∨ t = 6 ∨ t = 7 by omega) with rfl | rfl | rfl | rfl | rfl | rfl | rfl | rfl | rfl
        · obtain rfl : x5 = -1 := by omega
          clear hx5
          go_wp2
          go_returns
          exact ⟨_, rfl, by have := HO.out; unfold pad; rw [← HN.out]; exact this⟩
        · obtain rfl : x5 = 7 := by omega
          clear hx5
          go_wp2_with (at_builtin; refine app_int (k := .u8) (w0 := w) rfl (.tmp 26) (.tmp 32) rfl und_bytes info_u8 (by omega) _ _ _ rfl rfl HO.out (by have := HL0.out; have := len_pad p N 0; omega) ?_; intro v1 w1 ho1 hg1; clear hg1; have HO1 := Lib.hid ho1; clear ho1)
          go_roundg (gk - 1)
          case measure => omega
          case rel => exact ⟨1, 6, rfl, by omega, by omega, by have := HO1.out; rw [List.append_assoc] at this; exact this⟩
        · obtain rfl : x5 = 6 := by omega
          clear hx5
          go_wp2_with (at_builtin; refine app_int (k := .u8) (w0 := w) rfl (.tmp 26) (.tmp 32) rfl und_bytes info_u8 (by omega) _ _ _ rfl rfl HO.out (by have := HL0.out; have := len_pad p N 1; omega) ?_; intro v1 w1 ho1 hg1; clear hg1; have HO1 := Lib.hid ho1; clear ho1)
          go_roundg (gk - 1)
          case measure => omega
          case rel => exact ⟨2, 5, rfl, by omega, by omega, by have := HO1.out; rw [List.append_assoc] at this; exact this⟩
        · obtain rfl : x5 = 5 := by omega
          clear hx5
          go_wp2_with (at_builtin; refine app_int (k := .u8) (w0 := w) rfl (.tmp 26) (.tmp 32) rfl und_bytes info_u8 (by omega) _ _ _ rfl rfl HO.out (by have := HL0.out; have := len_pad p N 2; omega) ?_; intro v1 w1 ho1 hg1; clear hg1; have HO1 := Lib.hid ho1; clear ho1)
          go_roundg (gk - 1)
          case measure => omega
          case rel => exact ⟨3, 4, rfl, by omega, by omega, by have := HO1.out; rw [List.append_assoc] at this; exact this⟩
        · obtain rfl : x5 = 4 := by omega
          clear hx5
          go_wp2_with (at_builtin; refine app_int (k := .u8) (w0 := w) rfl (.tmp 26) (.tmp 32) rfl und_bytes info_u8 (by omega) _ _ _ rfl rfl HO.out (by have := HL0.out; have := len_pad p N 3; omega) ?_; intro v1 w1 ho1 hg1; clear hg1; have HO1 := Lib.hid ho1; clear ho1)
          go_roundg (gk - 1)
          case measure => omega
          case rel => exact ⟨4, 3, rfl, by omega, by omega, by have := HO1.out; rw [List.append_assoc] at this; exact this⟩
        · obtain rfl : x5 = 3 := by omega
          clear hx5
          go_wp2_with (at_builtin; refine app_int (k := .u8) (w0 := w) rfl (.tmp 26) (.tmp 32) rfl und_bytes info_u8 (by omega) _ _ _ rfl rfl HO.out (by have := HL0.out; have := len_pad p N 4; omega) ?_; intro v1 w1 ho1 hg1; clear hg1; have HO1 := Lib.hid ho1; clear ho1)
          go_roundg (gk - 1)
          case measure => omega
          case rel => exact ⟨5, 2, rfl, by omega, by omega, by have := HO1.out; rw [List.append_assoc] at this; exact this⟩
        · obtain rfl : x5 = 2 := by omega
          clear hx5
          go_wp2_with (at_builtin; refine app_int (k := .u8) (w0 := w) rfl (.tmp 26) (.tmp 32) rfl und_bytes info_u8 (by omega) _ _ _ rfl rfl HO.out (by have := HL0.out; have := len_pad p N 5; omega) ?_; intro v1 w1 ho1 hg1; clear hg1; have HO1 := Lib.hid ho1; clear ho1)
          go_roundg (gk - 1)
          case measure => omega
          case rel => exact ⟨6, 1, rfl, by omega, by omega, by have := HO1.out; rw [List.append_assoc] at this; exact this⟩
        · obtain rfl : x5 = 1 := by omega
          clear hx5
          go_wp2_with (at_builtin; refine app_int (k := .u8) (w0 := w) rfl (.tmp 26) (.tmp 32) rfl und_bytes info_u8 (by omega) _ _ _ rfl rfl HO.out (by have := HL0.out; have := len_pad p N 6; omega) ?_; intro v1 w1 ho1 hg1; clear hg1; have HO1 := Lib.hid ho1; clear ho1)
          go_roundg (gk - 1)
          case measure => omega
          case rel => exact ⟨7, 0, rfl, by omega, by omega, by have := HO1.out; rw [List.append_assoc] at this; exact this⟩
        · obtain rfl : x5 = 0 := by omega
          clear hx5
          go_wp2_with (at_builtin; refine app_int (k := .u8) (w0 := w) rfl (.tmp 26) (.tmp 32) rfl und_bytes info_u8 (by omega) _ _ _ rfl rfl HO.out (by have := HL0.out; have := len_pad p N 7; omega) ?_; intro v1 w1 ho1 hg1; clear hg1; have HO1 := Lib.hid ho1; clear ho1)
          go_roundg (gk - 1)
          case measure => omega
          case rel => exact ⟨8, -1, rfl, by omega, by omega, by have := HO1.out; rw [List.append_assoc] at this; exact this⟩
end Go.Proofs.YtdhghaiifeienaaGreatDoor

/- SHA-256: the schedule, a turn, the sum: package hash. -/
set_option linter.unusedVariables false
set_option linter.unusedSimpArgs false
namespace Go.Proofs.YtdhghaiifeienaaGreatDoor
open Go.RowKit Go.Proofs.YtdhghaiifeienaaGreatDoorW.PrintWords

def sg0 (x : B32) : B32 := rr x 7 ^^^ rr x 18 ^^^ x >>> 3
def sg1 (x : B32) : B32 := rr x 17 ^^^ rr x 19 ^^^ x >>> 10
def bw (x : Int) : B32 := BitVec.ofInt 32 x
def be (b : List Int) (j : Nat) : B32 := bw (b.getD j 0) <<< 24 ||| bw (b.getD (j + 1) 0) <<< 16 ||| bw (b.getD (j + 2) 0) <<< 8 ||| bw (b.getD (j + 3) 0)
def nextW (b : List Int) (l : List B32) : B32 := if l.length < 16 then be b (4 * l.length) else l.getD (l.length - 16) 0 + sg0 (l.getD (l.length - 15) 0) + l.getD (l.length - 7) 0 + sg1 (l.getD (l.length - 2) 0)
def sched (b : List Int) : Nat → List B32
  | 0 => []
  | n + 1 => sched b n ++ [nextW b (sched b n)]
theorem sched_len (b : List Int) : ∀ n, (sched b n).length = n
  | 0 => rfl
  | n + 1 => by simp [sched, sched_len b n]
/-- An array of words. -/
def ArrU (w : World) (g : Nat) (t : TypeId) (xs : List B32) : Prop := w.heap[g]? = some (.cells (xs.map U).toArray t (0, 0))
section
variable {w w1 : World} {g : Nat} {t : TypeId} {xs : List B32}
theorem ArrU.get (h : ArrU w g t xs) {i : Nat} (hi : i < xs.length) : w.cell? ⟨g, i, none⟩ = some (.int .u32 ((xs.getD i 0).toNat : Int)) := by
  refine (blk_cell h i).trans ?_
  simp [List.getD_eq_getElem?_getD, hi, U]
theorem ArrU.set (h : ArrU w g t xs) (i : Nat) (x : B32) : ArrU (w.setCell ⟨g, i, none⟩ (U x)) g t (xs.set i x) := by
  have := blk_set h i (U x)
  unfold ArrU
  rw [this]
  simp [List.map_set]
theorem ArrU.set' (h : ArrU w g t xs) (i : Nat) (x : B32) (z : Int) (hz : z = (x.toNat : Int)) : ArrU (w.setCell ⟨g, i, none⟩ (.int .u32 z)) g t (xs.set i x) := by
  subst hz
  exact h.set i x
theorem ArrU.drew (h : ArrU w g t xs) : ArrU w.drew g t xs := h
theorem ArrU.drewN (h : ArrU w g t xs) (n : Nat) : ArrU (w.drewN n) g t xs := h
theorem ArrU.all (xs : List B32) : (xs.map U).toArray.all (·.oneCell') = true := by
  rw [Array.all_eq_true_iff_forall_mem]
  intro v hv
  simp only [List.mem_toArray, List.mem_map] at hv
  obtain ⟨x, _, rfl⟩ := hv
  rfl
theorem ArrU.row (h : ArrU w g t xs) (ys : List B32) : ArrU (w.setRow g (ys.map U).toArray) g t ys := setRow_heap w g _ _ t (0, 0) h
theorem ArrU.keep (h : ArrU w g t xs) (hb : Below w.heap.size w w1) : ArrU w1 g t xs := (hb.block g (blk_lt h)).trans h
theorem ArrU.other (h : ArrU w g t xs) {k : Nat} (hk : k ≠ g) (i : Nat) (v : Value) : ArrU (w.setCell ⟨k, i, none⟩ v) g t xs := (Below.heap_setCell w ⟨k, i, none⟩ v g (fun e => hk e.symm)).trans h
end
section
variable {P : Program} {ops : Array Oper} {rest : List Oper} {o : Oper} {a : Act} {Q : Exit → Act → World → Prop} {w : World}
theorem wps_store_row (hgd : o.guard = none) (ty : TypeId) (x y : Operand) (ho : o.op = .store ty x y)
    (g : Nat) (cells : Array Value) (hx : a.eval x = .pointer (some ⟨g, 0, none⟩)) (hy : a.eval y = .agg cells)
    (t : TypeId) (old : Array Value) (hg : w.heap[g]? = some (.cells old t (0, 0))) (hi : (P.info? ty).map (·.size) = some cells.size)
    (hold : old.size = cells.size) (h1 : cells.all (·.oneCell') = true)
    (h : wpList P ops Q rest (a.put o.dst undef) (w.setRow g cells)) : wpList P ops Q (o :: rest) a w :=
  wpList_plain hgd fun K hK => wp_store_row ty x y ho g cells hx hy t old hg hi hold h1 (hK _ _ h)
theorem wps_load_row (hgd : o.guard = none) (ty : TypeId) (x : Operand) (ho : o.op = .load ty x)
    (g : Nat) (cells : Array Value) (hx : a.eval x = .pointer (some ⟨g, 0, none⟩))
    (t : TypeId) (hg : w.heap[g]? = some (.cells cells t (0, 0))) {d : TypeDesc} (hu : P.underlying ty = some d) (hd : (match d with | .struct _ | .array _ _ => true | _ => false) = true) (hi : (P.info? ty).map (·.size) = some cells.size)
    (h : wpList P ops Q rest (a.put o.dst (.agg cells)) w) : wpList P ops Q (o :: rest) a w := by
  refine wpList_plain hgd fun K hK => ?_
  unfold Oper.wp execOp
  simp only [ho, hx, Instr.loadAt, Instr.sureAddr, Sem.run_bind, Sem.run_pure, Result.andThen_ok, run_loadVar_row w g t ty cells (0, 0) d hg hu hd hi]
  exact hK _ _ h
theorem results_c {fn : Func} {p : Tmp} {ty : TypeId} (h : fn.results = #[.cell p ty]) (tmps : Array Value) (w : World) (g : Nat) (t : TypeId) (cs : Array Value) {d : TypeDesc}
    (hp : tmps.getD p undef = .pointer (some ⟨g, 0, none⟩)) (hg : w.heap[g]? = some (.cells cs t (0, 0)))
    (hu : P.underlying ty = some d) (hd : (match d with | .struct _ | .array _ _ => true | _ => false) = true) (hi : (P.info? ty).map (·.size) = some cs.size) :
    (results fn tmps).run P w = .ok (.agg cs) w := by
  have hp' : tmps[p]?.getD undef = .pointer (some ⟨g, 0, none⟩) := by simpa using hp
  simp [results, h, hp', asAddr, run_loadVar_row w g t ty cs (0, 0) d hg hu hd hi]
end
theorem und_a64 : Tryz.prog.underlying 266 = some (.array 64 184) := by kernel_rfl
theorem und_a8 : Tryz.prog.underlying 236 = some (.array 8 184) := by kernel_rfl
theorem size_a64 : (Tryz.prog.info? 266).map (·.size) = some 64 := by kernel_rfl
theorem size_a8 : (Tryz.prog.info? 236).map (·.size) = some 8 := by kernel_rfl
theorem shl_24 (x : B32) : (x.toNat : Int) * (16777216 : Int) % (4294967296 : Int) = ((x <<< 24).toNat : Int) := u32_shl x 24
theorem shl_16 (x : B32) : (x.toNat : Int) * (65536 : Int) % (4294967296 : Int) = ((x <<< 16).toNat : Int) := u32_shl x 16
theorem shl_8 (x : B32) : (x.toNat : Int) * (256 : Int) % (4294967296 : Int) = ((x <<< 8).toNat : Int) := u32_shl x 8
theorem be_val (x0 x1 x2 x3 : Int) : Go.bits .or .u32 (Go.bits .or .u32 (Go.bits .or .u32 (x0 % 4294967296 * 16777216 % 4294967296) (x1 % 4294967296 * 65536 % 4294967296)) (x2 % 4294967296 * 256 % 4294967296)) (x3 % 4294967296) = ((bw x0 <<< 24 ||| bw x1 <<< 16 ||| bw x2 <<< 8 ||| bw x3).toNat : Int) := by
  rw [u32_of x0, u32_of x1, u32_of x2, u32_of x3, shl_24, shl_16, shl_8, u32_or, u32_or, u32_or]
  rfl
theorem shr_3 (x : B32) : (x.toNat : Int) / (8 : Int) = ((x >>> 3).toNat : Int) := u32_shr x 3
theorem shr_10 (x : B32) : (x.toNat : Int) / (1024 : Int) = ((x >>> 10).toNat : Int) := u32_shr x 10
theorem step_val (x15 x2 x16 x7 z : B32) (hz : z = x16 + sg0 x15 + x7 + sg1 x2) : ((((x16.toNat : Int) + Go.bits .xor .u32 (Go.bits .xor .u32 ((rr x15 7).toNat : Int) ((rr x15 18).toNat : Int)) ((x15.toNat : Int) / (8 : Int))) % (4294967296 : Int) + (x7.toNat : Int)) % (4294967296 : Int) + Go.bits .xor .u32 (Go.bits .xor .u32 ((rr x2 17).toNat : Int) ((rr x2 19).toNat : Int)) ((x2.toNat : Int) / (1024 : Int))) % (4294967296 : Int) = (z.toNat : Int) := by
  rw [shr_3, shr_10, u32_xor, u32_xor, u32_xor, u32_xor, u32_add, u32_add, u32_add, hz]
  rfl
theorem set_next {α : Type} (l : List α) (m : Nat) (z x : α) : (l ++ List.replicate (m + 1) z).set l.length x = l ++ [x] ++ List.replicate m z := by
  rw [List.set_append_right _ _ (Nat.le_refl _)]
  simp [List.replicate_succ]
set_option maxRecDepth 20000 in
set_option maxHeartbeats 4000000 in
theorem hash_schedule (w : World) (A : Option Addr) (c : Nat) (p : List Int) (hp : (Kd.int .u8).C w A p.length p) (hl : p.length = 64) :
    Calls Tryz.prog 213 #[.slice A p.length c] w fun e w' => e = .returned (.agg ((sched p 64).map U).toArray) ∧ Below w.heap.size w w' := by
  have HP := Lib.hid hp
  clear hp
  go_enter Tryz.func213, Tryz.ntmps213
  go_wp2
  go_loopg [9] 64 (fun n v9 w' => ∃ i : Nat, v9 = .int .i64 (i : Int) ∧ Hid (n + i = 64 ∧ ArrU w' w.heap.size 266 (List.replicate 64 0) ∧ ArrU w' (w.heap.size + 1) 266 (sched p i ++ List.replicate (64 - i) 0) ∧ Below w.heap.size w w'))
  case atStart => exact ⟨0, rfl, by omega, (Below.heap_alloc _ _ _ (by simp)).trans (heap_alloc_new _ _), (by unfold ArrU; exact (congrArg (fun k => (World.heap _)[k]?) (by simp)).trans (heap_alloc_new (w.alloc _) _)), below_alloc (below_alloc (Below.refl _ _) _) _⟩
  case round =>
    obtain ⟨i, rfl, hrel⟩ := hrel
    obtain ⟨hn, hZ, hA, hB⟩ := hrel.out
    clear hrel
    have hC := Kd.C_below HP.out hB
    have HZ := Lib.hid hZ
    have HB := Lib.hid hB
    clear hZ hB
    rcases Nat.lt_or_ge i 16 with hi | hi
    · obtain ⟨k0, hk0⟩ : ∃ k0 : Int, k0 = 4 * (i : Int) := ⟨_, rfl⟩
      obtain ⟨k1, hk1⟩ : ∃ k0 : Int, k0 = 4 * (i : Int) + 1 := ⟨_, rfl⟩
      obtain ⟨k2, hk2⟩ : ∃ k0 : Int, k0 = 4 * (i : Int) + 2 := ⟨_, rfl⟩
      obtain ⟨k3, hk3⟩ : ∃ k0 : Int, k0 = 4 * (i : Int) + 3 := ⟨_, rfl⟩
      have w0 : IntKind.i64.wrap (4 * (i : Int)) = k0 := by rw [Go.IntKind.wrap_i64]; omega
      have w1 : IntKind.i64.wrap (k0 + 1) = k1 := by rw [Go.IntKind.wrap_i64]; omega
      have w2 : IntKind.i64.wrap (k0 + 2) = k2 := by rw [Go.IntKind.wrap_i64]; omega
      have w3 : IntKind.i64.wrap (k0 + 3) = k3 := by rw [Go.IntKind.wrap_i64]; omega
      obtain ⟨ad, rfl, d0⟩ := Kd.at_int hC k0 (by omega) (by omega)
      obtain ⟨ad1, e1, d1⟩ := Kd.at_int hC k1 (by omega) (by omega)
      obtain ⟨ad2, e2, d2⟩ := Kd.at_int hC k2 (by omega) (by omega)
      obtain ⟨ad3, e3, d3⟩ := Kd.at_int hC k3 (by omega) (by omega)
      cases e1; cases e2; cases e3
      have b0 : (0 ≤ k0) = True := eq_true (by omega)
      have b1 : (0 ≤ k1) = True := eq_true (by omega)
      have b2 : (0 ≤ k2) = True := eq_true (by omega)
      have b3 : (0 ≤ k3) = True := eq_true (by omega)
      have c0 : (k0 < (p.length : Int)) = True := eq_true (by omega)
      have c1 : (k1 < (p.length : Int)) = True := eq_true (by omega)
      have c2 : (k2 < (p.length : Int)) = True := eq_true (by omega)
      have c3 : (k3 < (p.length : Int)) = True := eq_true (by omega)
      have q0 : ((i : Int) < 64) = True := eq_true (by omega)
      have HK := Lib.hid (And.intro hk0 (And.intro hk1 (And.intro hk2 hk3)))
      have HL := Lib.hid hl
      clear hk0 hk1 hk2 hk3 hl
      have a0 := hA.get (i := i) (by simp [sched_len]; omega)
      have f0 : wr.frozen? ⟨w.heap.size + 1, i, none⟩ = false := blk_frozen hA i
      go_wp2_with fail
      go_still_tail 35, (by kernel_rfl)
      change wpList _ _ _ _ _ wr.drew
      go_wp2
      go_roundg (gk - 1)
      case measure => omega
      case rel =>
        obtain ⟨hk0, hk1, hk2, hk3⟩ := HK.out
        refine ⟨i + 1, rfl, by omega, ?_, ?_, ?_⟩
        · exact (HZ.out.other (by omega) _ _).drew
        · refine ArrU.drew ?_
          have hA2 := hA.set' i (be p (4 * i)) _ ((be_val (rd p k0) (rd p k1) (rd p k2) (rd p k3)).trans (by subst hk0 hk1 hk2 hk3; unfold be rd; simp only [show (4 * (i : Int)).toNat = 4 * i by omega, show (4 * (i : Int) + 1).toNat = 4 * i + 1 by omega, show (4 * (i : Int) + 2).toNat = 4 * i + 2 by omega, show (4 * (i : Int) + 3).toNat = 4 * i + 3 by omega]))
          have e := set_next (sched p i) (63 - i) 0 (be p (4 * i))
          rw [sched_len, show 63 - i + 1 = 64 - i by omega] at e
          rw [e] at hA2
          rw [show sched p (i + 1) = sched p i ++ [be p (4 * i)] by simp [sched, nextW, sched_len, hi], show 64 - (i + 1) = 63 - i by omega]
          exact hA2
        · exact (HB.out.setCell (by simp) _).drew
    rcases Nat.lt_or_ge i 64 with hi2 | hi2
    · obtain ⟨m15, hm15⟩ : ∃ k : Nat, k = i - 15 := ⟨_, rfl⟩
      obtain ⟨m2, hm2⟩ : ∃ k : Nat, k = i - 2 := ⟨_, rfl⟩
      obtain ⟨m16, hm16⟩ : ∃ k : Nat, k = i - 16 := ⟨_, rfl⟩
      obtain ⟨m7, hm7⟩ : ∃ k : Nat, k = i - 7 := ⟨_, rfl⟩
      have w0 : IntKind.i64.wrap ((i : Int) - 15) = (m15 : Int) := by rw [Go.IntKind.wrap_i64]; omega
      have w1 : IntKind.i64.wrap ((i : Int) - 2) = (m2 : Int) := by rw [Go.IntKind.wrap_i64]; omega
      have w2 : IntKind.i64.wrap ((i : Int) - 16) = (m16 : Int) := by rw [Go.IntKind.wrap_i64]; omega
      have w3 : IntKind.i64.wrap ((i : Int) - 7) = (m7 : Int) := by rw [Go.IntKind.wrap_i64]; omega
      have ln : (sched p i ++ List.replicate (64 - i) (0 : B32)).length = 64 := by simp [sched_len]; omega
      have a0 := hA.get (i := m15) (by rw [ln]; omega)
      have a1 := hA.get (i := m2) (by rw [ln]; omega)
      have a2 := hA.get (i := m16) (by rw [ln]; omega)
      have a3 := hA.get (i := m7) (by rw [ln]; omega)
      have a4 := hA.get (i := i) (by rw [ln]; omega)
      have f0 : wr.frozen? ⟨w.heap.size + 1, i, none⟩ = false := blk_frozen hA i
      have gd : ∀ m, m < i → (sched p i ++ List.replicate (64 - i) (0 : B32)).getD m 0 = (sched p i).getD m 0 := fun m hm => by simp [List.getD_eq_getElem?_getD, List.getElem?_append_left, sched_len, hm]
      rw [gd _ (by omega)] at a0 a1 a2 a3
      obtain ⟨x15, e15⟩ : ∃ x, x = (sched p i).getD m15 0 := ⟨_, rfl⟩
      obtain ⟨x2, e2⟩ : ∃ x, x = (sched p i).getD m2 0 := ⟨_, rfl⟩
      obtain ⟨x16, e16⟩ : ∃ x, x = (sched p i).getD m16 0 := ⟨_, rfl⟩
      obtain ⟨x7, e7⟩ : ∃ x, x = (sched p i).getD m7 0 := ⟨_, rfl⟩
      rw [← e15] at a0
      rw [← e2] at a1
      rw [← e16] at a2
      rw [← e7] at a3
      have q0 : ((i : Int) < 64) = True := eq_true (by omega)
      have q1 : ((i : Int) < 16) = False := eq_false (by omega)
      have q15 : ((m15 : Int) < 64) = True := eq_true (by omega)
      have q2 : ((m2 : Int) < 64) = True := eq_true (by omega)
      have q16 : ((m16 : Int) < 64) = True := eq_true (by omega)
      have q7 : ((m7 : Int) < 64) = True := eq_true (by omega)
      have r7 := Lib.hid (rot_n x15 7 (by decide) (by omega) (-7) rfl)
      have r18 := Lib.hid (rot_n x15 18 (by decide) (by omega) (-18) rfl)
      have r17 := Lib.hid (rot_n x2 17 (by decide) (by omega) (-17) rfl)
      have r19 := Lib.hid (rot_n x2 19 (by decide) (by omega) (-19) rfl)
      unfold U at r7 r18 r17 r19
      have HK := Lib.hid (And.intro hm15 (And.intro hm2 (And.intro hm16 hm7)))
      have HX := Lib.hid (And.intro e15 (And.intro e2 (And.intro e16 e7)))
      have HL := Lib.hid hl
      clear hm15 hm2 hm16 hm7 hl gd ln e15 e2 e16 e7
      go_wp2_with fail
      go_quiet (fail)
      go_wp2_with (first
       | (go_at_call 214; (with_reducible refine (r7.out _).mono ?_); rintro e w' ⟨rfl, rfl⟩)
       | (go_at_call 214; (with_reducible refine (r18.out _).mono ?_); rintro e w' ⟨rfl, rfl⟩)
       | (go_at_call 214; (with_reducible refine (r17.out _).mono ?_); rintro e w' ⟨rfl, rfl⟩)
       | (go_at_call 214; (with_reducible refine (r19.out _).mono ?_); rintro e w' ⟨rfl, rfl⟩))
      obtain ⟨wd, hwd⟩ : ∃ wd, wd = wr.drewN nq := ⟨_, rfl⟩
      rw [← hwd]
      replace a2 : wd.cell? ⟨w.heap.size + 1, m16, none⟩ = some (.int .u32 (x16.toNat : Int)) := by rw [hwd]; exact a2
      replace a3 : wd.cell? ⟨w.heap.size + 1, m7, none⟩ = some (.int .u32 (x7.toNat : Int)) := by rw [hwd]; exact a3
      obtain ⟨x4, e4⟩ : ∃ x : B32, x = (sched p i ++ List.replicate (64 - i) (0 : B32)).getD i 0 := ⟨_, rfl⟩
      rw [← e4] at a4
      replace a4 : wd.cell? ⟨w.heap.size + 1, i, none⟩ = some (.int .u32 (x4.toNat : Int)) := by rw [hwd]; exact a4
      clear e4
      replace f0 : wd.frozen? ⟨w.heap.size + 1, i, none⟩ = false := by rw [hwd]; exact f0
      have HW := Lib.hid hwd
      clear hwd a0 a1
      go_still_tail 15, (by kernel_rfl)
      change wpList _ _ _ _ _ (World.drew _)
      go_wp2
      go_roundg (gk - 1)
      case measure => omega
      case rel =>
        obtain ⟨hm15, hm2, hm16, hm7⟩ := HK.out
        obtain ⟨e15, e2, e16, e7⟩ := HX.out
        obtain rfl := HW.out
        refine ⟨i + 1, rfl, by omega, ?_, ?_, ?_⟩
        · exact ((HZ.out.drewN _).other (by omega) _ _).drew
        · have e := set_next (sched p i) (63 - i) 0 (nextW p (sched p i))
          rw [sched_len, show 63 - i + 1 = 64 - i by omega] at e
          rw [show sched p (i + 1) = sched p i ++ [nextW p (sched p i)] from rfl, show 64 - (i + 1) = 63 - i by omega, ← e]
          refine ArrU.drew ((hA.drewN nq).set' i (nextW p (sched p i)) _ ?_)
          have hv := step_val x15 x2 x16 x7 (nextW p (sched p i)) (by
            unfold nextW
            rw [sched_len, if_neg (by omega), ← hm15, ← hm2, ← hm16, ← hm7, ← e15, ← e2, ← e16, ← e7])
          omega
        · exact ((pw_below_drewN HB.out _).setCell (by simp) _).drew
    · obtain rfl : i = 64 := by omega
      rw [show 64 - 64 = 0 from rfl, List.replicate_zero, List.append_nil] at hA
      obtain ⟨S, hS⟩ : ∃ S, S = sched p 64 := ⟨_, rfl⟩
      have hSl : (S.map U).toArray.size = 64 := by rw [hS]; simp only [List.size_toArray, List.length_map, sched_len]
      have hSl0 : ((List.replicate 64 (0 : B32)).map U).toArray.size = 64 := by simp only [List.size_toArray, List.length_map, List.length_replicate]
      rw [← hS] at hA
      have HSe := Lib.hid hS
      have HA := Lib.hid hA
      have HS := Lib.hid hSl
      have HS0 := Lib.hid hSl0
      clear hA hS hSl hSl0
      go_wp2_with (first
        | (refine wps_load_row rfl 266 (.tmp 3) rfl (w.heap.size + 1) (S.map U).toArray rfl 266 HA.out und_a64 rfl (size_a64.trans (congrArg some HS.out.symm)) ?_)
        | (refine wps_store_row rfl 266 (.tmp 2) (.tmp 89) rfl w.heap.size (S.map U).toArray rfl rfl 266 _ HZ.out (size_a64.trans (congrArg some HS.out.symm)) (HS0.out.trans HS.out.symm) (ArrU.all _) ?_))
      refine bodyPost_ret (results_c rfl _ _ w.heap.size 266 (S.map U).toArray rfl (HZ.out.row S) und_a64 rfl (size_a64.trans (congrArg some HS.out.symm))) rfl ?_
      exact ⟨by rw [HSe.out], below_setRow HB.out (Nat.le_refl _) _⟩
end Go.Proofs.YtdhghaiifeienaaGreatDoor

/- SHA-256: a turn. -/
set_option linter.unusedVariables false
set_option linter.unusedSimpArgs false
namespace Go.Proofs.YtdhghaiifeienaaGreatDoor
open Go.RowKit Go.Proofs.YtdhghaiifeienaaGreatDoorW.PrintWords

/-- A state. -/
structure S8 where
  (a b c d e f g h : B32)
def S8.l (s : S8) : List B32 := [s.a, s.b, s.c, s.d, s.e, s.f, s.g, s.h]
def bigE (x : B32) : B32 := rr x 6 ^^^ rr x 11 ^^^ rr x 25
def bigA (x : B32) : B32 := rr x 2 ^^^ rr x 13 ^^^ rr x 22
def chz (x y z : B32) : B32 := (x &&& y) ^^^ (~~~ x &&& z)
def maj (x y z : B32) : B32 := (x &&& y) ^^^ (x &&& z) ^^^ (y &&& z)
def rndx (s : S8) (k w : B32) : B32 := s.h + bigE s.e + chz s.e s.f s.g + k + w
def rnd (s : S8) (k w : B32) : S8 := ⟨rndx s k w + bigA s.a + maj s.a s.b s.c, s.a, s.b, s.c, s.d + rndx s k w, s.e, s.f, s.g⟩
def rnds (K W : List B32) (s : S8) : Nat → S8
  | 0 => s
  | n + 1 => rnd (rnds K W s n) (K.getD n 0) (W.getD n 0)
def addS (s t : S8) : S8 := ⟨s.a + t.a, s.b + t.b, s.c + t.c, s.d + t.d, s.e + t.e, s.f + t.f, s.g + t.g, s.h + t.h⟩
def turnS (K : List B32) (s : S8) (p : List Int) : S8 := addS s (rnds K (sched p 64) s 64)

def first0 : List Int := [0x6a09e667, 0xbb67ae85, 0x3c6ef372, 0xa54ff53a, 0x510e527f, 0x9b05688c, 0x1f83d9ab, 0x5be0cd19]
def keys0 : List Int := [
  0x428a2f98, 0x71374491, 0xb5c0fbcf, 0xe9b5dba5, 0x3956c25b, 0x59f111f1, 0x923f82a4, 0xab1c5ed5,
  0xd807aa98, 0x12835b01, 0x243185be, 0x550c7dc3, 0x72be5d74, 0x80deb1fe, 0x9bdc06a7, 0xc19bf174,
  0xe49b69c1, 0xefbe4786, 0x0fc19dc6, 0x240ca1cc, 0x2de92c6f, 0x4a7484aa, 0x5cb0a9dc, 0x76f988da,
  0x983e5152, 0xa831c66d, 0xb00327c8, 0xbf597fc7, 0xc6e00bf3, 0xd5a79147, 0x06ca6351, 0x14292967,
  0x27b70a85, 0x2e1b2138, 0x4d2c6dfc, 0x53380d13, 0x650a7354, 0x766a0abb, 0x81c2c92e, 0x92722c85,
  0xa2bfe8a1, 0xa81a664b, 0xc24b8b70, 0xc76c51a3, 0xd192e819, 0xd6990624, 0xf40e3585, 0x106aa070,
  0x19a4c116, 0x1e376c08, 0x2748774c, 0x34b0bcb5, 0x391c0cb3, 0x4ed8aa4a, 0x5b9cca4f, 0x682e6ff3,
  0x748f82ee, 0x78a5636f, 0x84c87814, 0x8cc70208, 0x90befffa, 0xa4506ceb, 0xbef9a3f7, 0xc67178f2]
/-- The program's tables lie where its initialisers lay them. -/
structure Glob (w : World) : Prop where
  first : ∀ i, i < 8 → w.cell? ⟨0, i, none⟩ = some (.int .u32 (first0.getD i 0))
  keys : ∀ i, i < 64 → w.cell? ⟨1, i, none⟩ = some (.int .u32 (keys0.getD i 0))
theorem Glob.below {w w1 : World} (h : Glob w) (hb : Below w.heap.size w w1) : Glob w1 := by
  refine ⟨fun i hi => ?_, fun i hi => ?_⟩
  · have e := h.first i hi
    have hl := World.block_lt_of_cell? w _ e
    unfold World.cell? at e ⊢
    rw [hb.block _ hl]; exact e
  · have e := h.keys i hi
    have hl := World.block_lt_of_cell? w _ e
    unfold World.cell? at e ⊢
    rw [hb.block _ hl]; exact e
def K0 : List B32 := keys0.map bw
def H0 : S8 := ⟨0x6a09e667, 0xbb67ae85, 0x3c6ef372, 0xa54ff53a, 0x510e527f, 0x9b05688c, 0x1f83d9ab, 0x5be0cd19⟩
theorem keys_b : ∀ i : Nat, i < 64 → keys0.getD i 0 = ((K0.getD i 0).toNat : Int) := of_decide_eq_true (by kernel_rfl)
theorem run_index_u32 (xs : List B32) (hx : xs.length = 64) (i : Nat) (hi : i < 64) (W : World) : (Instr.index 266 (.agg (xs.map U).toArray) (.int .i64 (i : Int))).run Tryz.prog W = .ok (.int .u32 ((xs.getD i 0).toNat : Int)) W := by
  have h2 : (i : Int) < 64 := by omega
  have h3 : i < xs.length := by omega
  simp [Instr.index, asIntOf, und_a64, h2, part]
  rw [if_pos hi, List.getElem?_eq_getElem h3]
  simp [U]
theorem und_u32l : Tryz.prog.underlying 29 = some (.slice 184) := by kernel_rfl
theorem size_u32 : (Tryz.prog.info? 184).map (·.size) = some 1 := by kernel_rfl
theorem info_u32 : (Tryz.prog.info? 184).map (fun i => (i.zero, i.size, i.bytes)) = some (some (.int .u32 0), 1, 4) := by kernel_rfl
theorem u32_not (x : B32) : Go.bits .xor .u32 IntKind.u32.max (x.toNat : Int) = ((~~~ x).toNat : Int) := by
  have e : IntKind.u32.max = (((-1 : B32)).toNat : Int) := by decide
  rw [e, u32_xor]
  congr 2
theorem bigE_val (x : B32) : Go.bits .xor .u32 (Go.bits .xor .u32 ((rr x 6).toNat : Int) ((rr x 11).toNat : Int)) ((rr x 25).toNat : Int) = ((bigE x).toNat : Int) := by
  rw [u32_xor, u32_xor]; rfl
theorem bigA_val (x : B32) : Go.bits .xor .u32 (Go.bits .xor .u32 ((rr x 2).toNat : Int) ((rr x 13).toNat : Int)) ((rr x 22).toNat : Int) = ((bigA x).toNat : Int) := by
  rw [u32_xor, u32_xor]; rfl
theorem chz_val (x y z : B32) : Go.bits .xor .u32 (Go.bits .and .u32 (x.toNat : Int) (y.toNat : Int)) (Go.bits .and .u32 (Go.bits .xor .u32 IntKind.u32.max (x.toNat : Int)) (z.toNat : Int)) = ((chz x y z).toNat : Int) := by
  rw [u32_not, u32_and, u32_and, u32_xor]; rfl
theorem maj_val (x y z : B32) : Go.bits .xor .u32 (Go.bits .xor .u32 (Go.bits .and .u32 (x.toNat : Int) (y.toNat : Int)) (Go.bits .and .u32 (x.toNat : Int) (z.toNat : Int))) (Go.bits .and .u32 (y.toNat : Int) (z.toNat : Int)) = ((maj x y z).toNat : Int) := by
  rw [u32_and, u32_and, u32_and, u32_xor, u32_xor]; rfl
/-- The block of a state. -/
def S8At (w : World) (g : Nat) (s : S8) : Prop := w.heap[g]? = some (.cells #[.int .u32 (s.a.toNat : Int), .int .u32 (s.b.toNat : Int), .int .u32 (s.c.toNat : Int), .int .u32 (s.d.toNat : Int), .int .u32 (s.e.toNat : Int), .int .u32 (s.f.toNat : Int), .int .u32 (s.g.toNat : Int), .int .u32 (s.h.toNat : Int)] 236 (0, 0))
def S8.v (s : S8) : Value := .agg #[.int .u32 (s.a.toNat : Int), .int .u32 (s.b.toNat : Int), .int .u32 (s.c.toNat : Int), .int .u32 (s.d.toNat : Int), .int .u32 (s.e.toNat : Int), .int .u32 (s.f.toNat : Int), .int .u32 (s.g.toNat : Int), .int .u32 (s.h.toNat : Int)]
theorem S8At.cells {w : World} {g : Nat} {s : S8} (h : S8At w g s) : w.cell? ⟨g, 0, none⟩ = some (.int .u32 (s.a.toNat : Int)) ∧ w.cell? ⟨g, 1, none⟩ = some (.int .u32 (s.b.toNat : Int)) ∧ w.cell? ⟨g, 2, none⟩ = some (.int .u32 (s.c.toNat : Int)) ∧ w.cell? ⟨g, 3, none⟩ = some (.int .u32 (s.d.toNat : Int)) ∧ w.cell? ⟨g, 4, none⟩ = some (.int .u32 (s.e.toNat : Int)) ∧ w.cell? ⟨g, 5, none⟩ = some (.int .u32 (s.f.toNat : Int)) ∧ w.cell? ⟨g, 6, none⟩ = some (.int .u32 (s.g.toNat : Int)) ∧ w.cell? ⟨g, 7, none⟩ = some (.int .u32 (s.h.toNat : Int)) :=
  ⟨(blk_cell h 0).trans rfl, (blk_cell h 1).trans rfl, (blk_cell h 2).trans rfl, (blk_cell h 3).trans rfl, (blk_cell h 4).trans rfl, (blk_cell h 5).trans rfl, (blk_cell h 6).trans rfl, (blk_cell h 7).trans rfl⟩
theorem S8At.round {w : World} {g : Nat} {t : S8} {kk xw : B32} (h : S8At w g ⟨t.a, t.a, t.b, t.c, t.d, t.e, t.f, t.g⟩) (y z : Int) (hy : y = ((t.d + rndx t kk xw).toNat : Int)) (hz : z = ((rndx t kk xw + bigA t.a + maj t.a t.b t.c).toNat : Int)) :
    S8At ((w.setCell ⟨g, 4, none⟩ (.int .u32 y)).setCell ⟨g, 0, none⟩ (.int .u32 z)) g (rnd t kk xw) := by
  subst hy hz
  exact blk_set (blk_set h 4 _) 0 _
theorem S8At.other {w : World} {g : Nat} {t : S8} (h : S8At w g t) {k : Nat} (hk : k ≠ g) (i : Nat) (v : Value) : S8At (w.setCell ⟨k, i, none⟩ v) g t := (Below.heap_setCell w ⟨k, i, none⟩ v g (fun e => hk e.symm)).trans h
def mix (s t : S8) (j : Nat) : List B32 := (addS s t).l.take j ++ s.l.drop j
theorem mix_len (s t : S8) {j : Nat} (hj : j ≤ 8) : (mix s t j).length = 8 := by
  unfold mix
  rw [List.length_append, List.length_take, List.length_drop, show (addS s t).l.length = 8 from rfl, show s.l.length = 8 from rfl]
  omega
theorem mix_get (s t : S8) {j : Nat} (hj : j < 8) : (mix s t j).getD j 0 = s.l.getD j 0 := by
  rcases (show j = 0 ∨ j = 1 ∨ j = 2 ∨ j = 3 ∨ j = 4 ∨ j = 5 ∨ j = 6 ∨ j = 7 by omega) with rfl | rfl | rfl | rfl | rfl | rfl | rfl | rfl <;> rfl
theorem mix_set (s t : S8) {j : Nat} (hj : j < 8) : (mix s t j).set j (s.l.getD j 0 + t.l.getD j 0) = mix s t (j + 1) := by
  rcases (show j = 0 ∨ j = 1 ∨ j = 2 ∨ j = 3 ∨ j = 4 ∨ j = 5 ∨ j = 6 ∨ j = 7 by omega) with rfl | rfl | rfl | rfl | rfl | rfl | rfl | rfl <;> rfl
set_option maxRecDepth 20000 in
set_option maxHeartbeats 4000000 in
theorem hash_turn (w : World) (s : S8) (A : Option Addr) (c : Nat) (p : List Int) (hg : Glob w) (hp : (Kd.int .u8).C w A p.length p) (hl : p.length = 64) :
    Calls Tryz.prog 183 #[s.v, .slice A p.length c] w fun e w' => e = .returned (turnS K0 s p).v ∧ Below w.heap.size w w' := by
  have HP := Lib.hid hp
  have HG := Lib.hid hg
  clear hp hg
  have HL := Lib.hid hl
  clear hl
  obtain ⟨S, hS⟩ : ∃ S, S = sched p 64 := ⟨_, rfl⟩
  have HS := Lib.hid hS
  have hSl : S.length = 64 := by rw [hS, sched_len]
  have HSL := Lib.hid hSl
  have CS := fun W hC => Lib.hid (hash_schedule W A c p hC HL.out)
  rw [← hS] at CS
  clear hS hSl
  unfold S8.v
  go_enter Tryz.func183, Tryz.ntmps183
  go_wp2_with (go_at_call 213; (with_reducible refine (CS _ ?hC).out.mono ?_); (case hC => exact Kd.C_below HP.out (below_alloc (below_alloc (below_alloc (Below.refl _ _) _) _) _)); rintro e w' ⟨rfl, hb⟩)
  clear CS
  have hB0 : Below w.heap.size w w' := (below_alloc (below_alloc (below_alloc (Below.refl w.heap.size w) _) _) _).trans (hb.mono (by simp; omega))
  have hA0 : S8At w' w.heap.size s := (hb.block _ (by simp <;> omega)).trans ((Below.heap_alloc _ _ _ (by simp <;> omega)).trans ((Below.heap_alloc _ _ _ (by simp <;> omega)).trans (heap_alloc_new _ _)))
  have hA1 : S8At w' (w.heap.size + 1) ⟨0, 0, 0, 0, 0, 0, 0, 0⟩ := (hb.block _ (by simp <;> omega)).trans ((Below.heap_alloc _ _ _ (by simp <;> omega)).trans ((congrArg (fun k => (World.heap _)[k]?) (by simp <;> omega)).trans (heap_alloc_new (w.alloc _) _)))
  have hA2 : S8At w' (w.heap.size + 2) s := (hb.block _ (by simp <;> omega)).trans ((congrArg (fun k => (World.heap _)[k]?) (by simp <;> omega)).trans (heap_alloc_new ((w.alloc _).alloc _) _))
  have HI := Lib.hid (And.intro hB0 (And.intro hA0 (And.intro hA1 hA2)))
  clear hb hB0 hA0 hA1 hA2
  go_loopg [17] 64 (fun n v17 w' => ∃ i : Nat, v17 = .int .i64 (i : Int) ∧ Hid (n + i = 64 ∧ Below w.heap.size w w' ∧ S8At w' w.heap.size s ∧ S8At w' (w.heap.size + 1) ⟨0, 0, 0, 0, 0, 0, 0, 0⟩ ∧ S8At w' (w.heap.size + 2) (rnds K0 S s i)))
  case atStart => exact ⟨0, rfl, by omega, HI.out⟩
  case round =>
    obtain ⟨i, rfl, hrel⟩ := hrel
    obtain ⟨hn, hB, hA0, hA1, hA2⟩ := hrel.out
    clear hrel HI
    have HB := Lib.hid (And.intro hB (And.intro hA0 hA1))
    rcases Nat.lt_or_ge i 64 with hi | hi
    · obtain ⟨t, ht⟩ : ∃ t, t = rnds K0 S s i := ⟨_, rfl⟩
      rw [← ht] at hA2
      have hk := (HG.out.below hB).keys i hi
      rw [keys_b i hi] at hk
      obtain ⟨kk, hkk⟩ : ∃ k, k = K0.getD i 0 := ⟨_, rfl⟩
      rw [← hkk] at hk
      obtain ⟨xw, hxw⟩ : ∃ x, x = S.getD i 0 := ⟨_, rfl⟩
      have hidx := run_index_u32 S HSL.out i hi wr
      rw [← hxw] at hidx
      obtain ⟨d0, d1, d2, d3, d4, d5, d6, d7⟩ := hA2.cells
      have q0 : ((i : Int) < 64) = True := eq_true (by omega)
      have r6 := Lib.hid (rot_n t.e 6 (by decide) (by omega) (-6) rfl)
      have r11 := Lib.hid (rot_n t.e 11 (by decide) (by omega) (-11) rfl)
      have r25 := Lib.hid (rot_n t.e 25 (by decide) (by omega) (-25) rfl)
      have r2 := Lib.hid (rot_n t.a 2 (by decide) (by omega) (-2) rfl)
      have r13 := Lib.hid (rot_n t.a 13 (by decide) (by omega) (-13) rfl)
      have r22 := Lib.hid (rot_n t.a 22 (by decide) (by omega) (-22) rfl)
      unfold U at r6 r11 r25 r2 r13 r22
      have vE := bigE_val t.e
      have vA := bigA_val t.a
      have vC := chz_val t.e t.f t.g
      have vM := maj_val t.a t.b t.c
      have HT := Lib.hid (And.intro ht (And.intro hkk hxw))
      clear hB hA0 hA1 ht hkk hxw
      go_wp2_with fail
      go_quiet (first
       | (go_at_call 214; with_reducible exact Calls.quiet_of_same (r6.out _))
       | (go_at_call 214; with_reducible exact Calls.quiet_of_same (r11.out _))
       | (go_at_call 214; with_reducible exact Calls.quiet_of_same (r25.out _)))
      obtain ⟨wd, hwd⟩ : ∃ wd, wd = wr.drewN nq := ⟨_, rfl⟩
      rw [← hwd]
      have hA3 : S8At wd (w.heap.size + 2) t := by rw [hwd]; exact hA2
      have hk3 : wd.cell? ⟨1, i, none⟩ = some (.int .u32 (kk.toNat : Int)) := by rw [hwd]; exact hk
      have HW := Lib.hid hwd
      clear hwd d0 d1 d2 d3 d4 d5 d6 d7 hk
      obtain ⟨d0, d1, d2, d3, d4, d5, d6, d7⟩ := hA3.cells
      go_wp2_with fail
      go_quiet (fail)
      obtain ⟨we, hwe⟩ : ∃ we, we = wd.drewN nq := ⟨_, rfl⟩
      rw [← hwe]
      have hA4 : S8At we (w.heap.size + 2) t := by rw [hwe]; exact hA3
      have HW2 := Lib.hid hwe
      clear hwe hk3 d0 d1 d2 d3 d4 d5 d6 d7
      obtain ⟨d0, d1, d2, d3, d4, d5, d6, d7⟩ := hA4.cells
      go_wp2_with fail
      go_quiet (first
       | (go_at_call 214; with_reducible exact Calls.quiet_of_same (r2.out _))
       | (go_at_call 214; with_reducible exact Calls.quiet_of_same (r13.out _))
       | (go_at_call 214; with_reducible exact Calls.quiet_of_same (r22.out _)))
      obtain ⟨wf, hwf⟩ : ∃ wf, wf = we.drewN nq := ⟨_, rfl⟩
      rw [← hwf]
      have hA5 : S8At wf (w.heap.size + 2) t := by rw [hwf]; exact hA4
      have HW3 := Lib.hid hwf
      clear hwf d0 d1 d2 d3 d4 d5 d6 d7
      obtain ⟨d0, d1, d2, d3, d4, d5, d6, d7⟩ := hA5.cells
      go_wp2_with fail
      go_still_tail 2, (by kernel_rfl)
      change wpList _ _ _ _ _ (World.drew _)
      have hBf : Below w.heap.size w wf.drew := by
        have := HB.out.1
        rw [HW3.out, HW2.out, HW.out]
        exact (pw_below_drewN (pw_below_drewN (pw_below_drewN this _) _) _).drew
      have h1 : ∀ v ∈ [Value.int .u32 (t.a.toNat : Int), .int .u32 (t.b.toNat : Int), .int .u32 (t.c.toNat : Int), .int .u32 (t.d.toNat : Int), .int .u32 (t.e.toNat : Int), .int .u32 (t.f.toNat : Int), .int .u32 (t.g.toNat : Int)], v.oneCell' = true := by
        intro v hv
        simp only [List.mem_cons, List.not_mem_nil, or_false] at hv
        rcases hv with rfl | rfl | rfl | rfl | rfl | rfl | rfl <;> rfl
      have hcs : ∀ (j : Nat) v, [Value.int .u32 (t.a.toNat : Int), .int .u32 (t.b.toNat : Int), .int .u32 (t.c.toNat : Int), .int .u32 (t.d.toNat : Int), .int .u32 (t.e.toNat : Int), .int .u32 (t.f.toNat : Int), .int .u32 (t.g.toNat : Int)][j]? = some v → wf.drew.cell? ((⟨w.heap.size + 2, 0, none⟩ : Addr).add j) = some v := by
        intro j v hv
        have hj := (List.getElem?_eq_some_iff.1 hv).1
        simp only [List.length_cons, List.length_nil] at hj
        rcases (show j = 0 ∨ j = 1 ∨ j = 2 ∨ j = 3 ∨ j = 4 ∨ j = 5 ∨ j = 6 by omega) with rfl | rfl | rfl | rfl | rfl | rfl | rfl <;> (injection hv with hv; subst hv)
        · exact d0
        · exact d1
        · exact d2
        · exact d3
        · exact d4
        · exact d5
        · exact d6
      have hA8 : S8At wf.drew w.heap.size s := by rw [HW3.out, HW2.out, HW.out]; exact HB.out.2.1
      have hA9 : S8At wf.drew (w.heap.size + 1) ⟨0, 0, 0, 0, 0, 0, 0, 0⟩ := by rw [HW3.out, HW2.out, HW.out]; exact HB.out.2.2
      have HI := Lib.hid (And.intro hBf (And.intro h1 hcs))
      have HJ := Lib.hid (And.intro hA8 hA9)
      clear hBf h1 hcs hA8 hA9
      refine wpList_copy_splice rfl (.tmp 84) (.tmp 85) 29 29 rfl 184 und_u32l size_u32 (some ⟨w.heap.size + 2, 1, none⟩) (some ⟨w.heap.size + 2, 0, none⟩) 7 7 7 8 rfl rfl (w.heap.size + 2) 1 [.int .u32 (t.a.toNat : Int), .int .u32 (t.b.toNat : Int), .int .u32 (t.c.toNat : Int), .int .u32 (t.d.toNat : Int), .int .u32 (t.e.toNat : Int), .int .u32 (t.f.toNat : Int), .int .u32 (t.g.toNat : Int), .int .u32 (t.h.toNat : Int)] 236 hA5 [.int .u32 (t.a.toNat : Int), .int .u32 (t.b.toNat : Int), .int .u32 (t.c.toNat : Int), .int .u32 (t.d.toNat : Int), .int .u32 (t.e.toNat : Int), .int .u32 (t.f.toNat : Int), .int .u32 (t.g.toNat : Int)] rfl (fun _ => ⟨rfl, _, rfl, HI.out.2.2⟩) (Nat.le_refl 8) HI.out.2.1 (w.heap.size + 2) wf.drew (Below.refl _ _) (Nat.le_refl _) ?_
      intro w2 HG2 hB2
      have hA6 : S8At w2 (w.heap.size + 2) ⟨t.a, t.a, t.b, t.c, t.d, t.e, t.f, t.g⟩ := HG2.out
      have hB6 : Below w.heap.size w w2 := HI.out.1.trans (hB2.mono (by omega))
      have hA8 : S8At w2 w.heap.size s := (hB2.block _ (by omega)).trans HJ.out.1
      have hA9 : S8At w2 (w.heap.size + 1) ⟨0, 0, 0, 0, 0, 0, 0, 0⟩ := (hB2.block _ (by omega)).trans HJ.out.2
      have HK := Lib.hid (And.intro hB6 (And.intro hA8 hA9))
      clear HG2 hB2 hB6 hA8 hA9 HJ HI d0 d1 d2 d3 d4 d5 d6 d7
      obtain ⟨d0, d1, d2, d3, d4, d5, d6, d7⟩ := hA6.cells
      have f4 : w2.frozen? ⟨w.heap.size + 2, 4, none⟩ = false := blk_frozen hA6 4
      have f0 : w2.frozen? ⟨w.heap.size + 2, 0, none⟩ = false := blk_frozen hA6 0
      go_wp2
      go_roundg (gk - 1)
      case measure => omega
      case rel =>
        obtain ⟨hB6, hA8, hA9⟩ := HK.out
        obtain ⟨ht, hkk, hxw⟩ := HT.out
        refine ⟨i + 1, rfl, by omega, ?_, ?_, ?_, ?_⟩
        · exact (hB6.setCell (by simp; omega) _).setCell (by simp; omega) _
        · exact (hA8.other (by omega) _ _).other (by omega) _ _
        · exact (hA9.other (by omega) _ _).other (by omega) _ _
        · have e : rnds K0 S s (i + 1) = rnd t kk xw := by rw [hkk, hxw, ht]; rfl
          rw [e]
          refine hA6.round _ _ ?_ ?_
          · unfold rndx; simp only [← u32_add]; omega
          · unfold rndx; simp only [← u32_add]; omega
    · obtain rfl : i = 64 := by omega
      obtain ⟨t, ht⟩ : ∃ t, t = rnds K0 S s 64 := ⟨_, rfl⟩
      rw [← ht] at hA2
      have hM : ArrU wr w.heap.size 236 (mix s t 0) := hA0
      have HI := Lib.hid (And.intro hB (And.intro hM (And.intro hA1 hA2)))
      have HT := Lib.hid ht
      clear hB hA0 hA1 hA2 ht HB hM
      go_wp2
      go_loopg [99] 8 (fun n v99 w' => ∃ j : Nat, v99 = .int .i64 (j : Int) ∧ Hid (n + j = 8 ∧ Below w.heap.size w w' ∧ ArrU w' w.heap.size 236 (mix s t j) ∧ S8At w' (w.heap.size + 1) ⟨0, 0, 0, 0, 0, 0, 0, 0⟩ ∧ S8At w' (w.heap.size + 2) t))
      case atStart => exact ⟨0, rfl, by omega, HI.out⟩
      case round =>
        obtain ⟨j, rfl, hrel⟩ := hrel
        obtain ⟨hn, hB, hM, hA1, hA2⟩ := hrel.out
        clear hrel HI
        have HB := Lib.hid (And.intro hB hA1)
        rcases Nat.lt_or_ge j 8 with hj | hj
        · have d0 := hM.get (i := j) (by rw [mix_len _ _ (by omega)]; exact hj)
          rw [mix_get s t hj] at d0
          have hA2' : ArrU wr (w.heap.size + 2) 236 t.l := hA2
          have d1 := hA2'.get (i := j) hj
          obtain ⟨x, hx⟩ : ∃ x, x = s.l.getD j 0 := ⟨_, rfl⟩
          obtain ⟨y, hy⟩ : ∃ x, x = t.l.getD j 0 := ⟨_, rfl⟩
          rw [← hx] at d0
          rw [← hy] at d1
          have f0 : wr.frozen? ⟨w.heap.size, j, none⟩ = false := blk_frozen hM j
          have q0 : ((j : Int) < 8) = True := eq_true (by omega)
          have HX := Lib.hid (And.intro hx hy)
          clear hB hA1 hx hy hA2'
          go_wp2_with fail
          go_still_tail 8, (by kernel_rfl)
          change wpList _ _ _ _ _ (World.drew _)
          go_wp2
          go_roundg (gk - 1)
          case measure => omega
          case rel =>
            obtain ⟨hx, hy⟩ := HX.out
            refine ⟨j + 1, rfl, by omega, ((HB.out.1.setCell (by simp) _).drew), ?_, (HB.out.2.other (by omega) _ _), (hA2.other (by omega) _ _)⟩
            rw [← mix_set s t hj, ← hx, ← hy]
            exact hM.set' j (x + y) _ (by rw [← u32_add])
        · obtain rfl : j = 8 := by omega
          have hM8 : S8At wr w.heap.size (addS s t) := hM
          have HM := Lib.hid hM8
          clear hM hM8 hA1 hA2 hB
          go_wp2_with (first
            | (refine wps_load_row rfl 236 (.tmp 2) rfl w.heap.size _ rfl 236 HM.out und_a8 rfl size_a8 ?_)
            | (refine wps_store_row rfl 236 (.tmp 4) (.tmp 111) rfl (w.heap.size + 1) ((addS s t).l.map U).toArray rfl rfl 236 _ HB.out.2 size_a8 rfl (ArrU.all (addS s t).l) ?_))
          have hA1' : ArrU wr (w.heap.size + 1) 236 (⟨0, 0, 0, 0, 0, 0, 0, 0⟩ : S8).l := HB.out.2
          refine bodyPost_ret (results_c rfl _ _ (w.heap.size + 1) 236 ((addS s t).l.map U).toArray rfl (hA1'.row (addS s t).l) und_a8 rfl size_a8) rfl ?_
          refine ⟨?_, below_setRow HB.out.1 (by omega) _⟩
          have e : addS s t = turnS K0 s p := by rw [HT.out, HS.out]; rfl
          rw [e]
          rfl
end Go.Proofs.YtdhghaiifeienaaGreatDoor

/- SHA-256: the sum, folded: package hash. -/
set_option linter.unusedVariables false
set_option linter.unusedSimpArgs false
namespace Go.Proofs.YtdhghaiifeienaaGreatDoor
open Go.RowKit Go.Proofs.YtdhghaiifeienaaGreatDoorW.PrintWords

/-- A state, by so many blocks. -/
def blks (K : List B32) : Nat → S8 → List Int → S8
  | 0, s, _ => s
  | n + 1, s, q => blks K n (turnS K s (q.take 64)) (q.drop 64)
def sumS (p : List Int) : S8 := blks K0 ((pad p).length / 64) H0 (pad p)
def out4 (x : B32) : List Int := [(x.toNat : Int) / 16777216, (x.toNat : Int) / 65536 % 256, (x.toNat : Int) / 256 % 256, (x.toNat : Int) % 256]
def sum (p : List Int) : List Int := (sumS p).l.flatMap out4
theorem pad_len (p : List Int) : (pad p).length = p.length + 9 + zeros p.length := by
  unfold pad bytes8
  simp only [List.length_append, List.length_cons, List.length_nil, List.length_replicate]
  omega
theorem pad_mod (p : List Int) : (pad p).length % 64 = 0 := by
  rw [pad_len]
  unfold zeros
  omega
theorem S8.l_len (s : S8) : s.l.length = 8 := rfl
theorem out_take (s : S8) {j : Nat} (hj : j < 8) : (s.l.take j).flatMap out4 ++ out4 (s.l.getD j 0) = (s.l.take (j + 1)).flatMap out4 := by
  rcases (show j = 0 ∨ j = 1 ∨ j = 2 ∨ j = 3 ∨ j = 4 ∨ j = 5 ∨ j = 6 ∨ j = 7 by omega) with rfl | rfl | rfl | rfl | rfl | rfl | rfl | rfl <;> simp [S8.l]
theorem out_len (l : List B32) : (l.flatMap out4).length = 4 * l.length := by
  induction l with
  | nil => rfl
  | cons x l ih => rw [List.flatMap_cons, List.length_append, ih, List.length_cons, show (out4 x).length = 4 from rfl]; omega
theorem sum_len (p : List Int) : (sum p).length = 32 := by unfold sum; rw [out_len]; rfl
theorem lit_C (k : IntKind) (e : TypeId) (w : World) (xs : List Int) (hx : xs.length ≤ 1000) : (Kd.int k).C (w.alloc (.cells (xs.map (Value.int k)).toArray e)) (some ⟨w.heap.size, 0, none⟩) xs.length xs := by
  have h : (Kd.int k).R e (w.alloc (.cells (xs.map (Value.int k)).toArray e)) w.heap.size tr (.slice (some ⟨w.heap.size, 0, none⟩) xs.length xs.length) xs :=
    Kd.R_of_own (by
      have := World.ownsRow_lit (base := w.heap.size) (e := e) (size := 1) w (xs.map (Value.int k)).toArray xs.length (Nat.le_refl _) (by unfold maxLen; omega) (by simp)
      simpa [encs] using this) (fun _ _ => trivial)
  obtain ⟨A, c, he, _, hC⟩ := Kd.R_reads h
  injection he with h1 h2 h3
  subst h1
  exact hC
theorem run_index_s8 (s : S8) (i : Nat) (hi : i < 8) (W : World) : (Instr.index 236 s.v (.int .i64 (i : Int))).run Tryz.prog W = .ok (.int .u32 ((s.l.getD i 0).toNat : Int)) W := by
  have h2 : (i : Int) < 8 := by omega
  have h3 : i < s.l.length := hi
  have e : s.v = .agg (s.l.map U).toArray := rfl
  rw [e]
  simp [Instr.index, asIntOf, und_a8, h2, part]
  rw [if_pos hi, List.getElem?_eq_getElem h3]
  simp [U]
theorem KeepT.setRow {a w : World} (h : KeepT D a w) {g : Nat} {C0 : Array Value} {t : TypeId} {fr : Nat × Nat} (hb : w.heap[g]? = some (.cells C0 t fr)) (ht : D t = false) (C : Array Value) : KeepT D a (w.setRow g C) := by
  refine h.trans ⟨by simp, fun k C1 t1 fr1 hk h1 => ?_⟩
  by_cases e : k = g
  · subst e
    rw [hb] at hk
    injection hk with hk
    injection hk with _ hk
    subst hk
    rw [ht] at h1
    exact absurd h1 (by simp)
  · exact (setRow_other w g k C e).trans hk
theorem CT.drop {d : Kd Int} {w : World} {A : Option Addr} {xs : List Int} {m c : Nat} (h : CT D d w A xs) (hm : m ≤ xs.length) (hc : xs.length ≤ c) : CT D d w (if c = m then A else A.map (·.add (m * d.sz))) (xs.drop m) := fun W hW => Kd.C_drop (h W hW) hm hc
theorem hash_turn' (w : World) (s : S8) (A : Option Addr) (c : Nat) (q : List Int) (hg : Glob w) (hp : (Kd.int .u8).C w A q.length q) (hl : 64 ≤ q.length) :
    Calls Tryz.prog 183 #[.agg #[.int .u32 (s.a.toNat : Int), .int .u32 (s.b.toNat : Int), .int .u32 (s.c.toNat : Int), .int .u32 (s.d.toNat : Int), .int .u32 (s.e.toNat : Int), .int .u32 (s.f.toNat : Int), .int .u32 (s.g.toNat : Int), .int .u32 (s.h.toNat : Int)], .slice A 64 c] w fun e w' => e = .returned (.agg ((turnS K0 s (q.take 64)).l.map U).toArray) ∧ Below w.heap.size w w' := by
  have h := hash_turn w s A c (q.take 64) hg (Kd.C_take hp hl) (by rw [List.length_take]; omega)
  rw [show (q.take 64).length = 64 by rw [List.length_take]; omega] at h
  exact h
set_option maxRecDepth 20000 in
set_option maxHeartbeats 4000000 in
theorem hash_Sum (w : World) (A : Option Addr) (c : Nat) (p : List Int) (hg : Glob w) (hp : (Kd.int .u8).C w A p.length p) (hl : p.length ≤ 1000000) :
    Calls Tryz.prog 150 #[.slice A p.length c] w fun e w' => ∃ v, e = .returned v ∧ Own (Kd.int .u8) 5 w w' v (sum p) := by
  have d0 : w.cell? ⟨0, 0, none⟩ = some (.int .u32 (H0.a.toNat : Int)) := (hg.first 0 (by decide)).trans rfl
  have d1 : w.cell? ⟨0, 1, none⟩ = some (.int .u32 (H0.b.toNat : Int)) := (hg.first 1 (by decide)).trans rfl
  have d2 : w.cell? ⟨0, 2, none⟩ = some (.int .u32 (H0.c.toNat : Int)) := (hg.first 2 (by decide)).trans rfl
  have d3 : w.cell? ⟨0, 3, none⟩ = some (.int .u32 (H0.d.toNat : Int)) := (hg.first 3 (by decide)).trans rfl
  have d4 : w.cell? ⟨0, 4, none⟩ = some (.int .u32 (H0.e.toNat : Int)) := (hg.first 4 (by decide)).trans rfl
  have d5 : w.cell? ⟨0, 5, none⟩ = some (.int .u32 (H0.f.toNat : Int)) := (hg.first 5 (by decide)).trans rfl
  have d6 : w.cell? ⟨0, 6, none⟩ = some (.int .u32 (H0.g.toNat : Int)) := (hg.first 6 (by decide)).trans rfl
  have d7 : w.cell? ⟨0, 7, none⟩ = some (.int .u32 (H0.h.toNat : Int)) := (hg.first 7 (by decide)).trans rfl
  have HP := Lib.hid hp
  have HG := Lib.hid hg
  have HL := Lib.hid hl
  clear hp hg hl
  go_enter Tryz.func150, Tryz.ntmps150
  go_wp2_with (go_at_call 182; (with_reducible refine (hash_padded _ A c p ?hC HL.out).mono ?_); (case hC => exact Kd.C_below HP.out (below_alloc (Below.refl _ _) _)); rintro e w' ⟨v, rfl, ho⟩)
  obtain ⟨A4, c4, hv, hlc, hC⟩ := R_CT (D := D) ho.1 (by decide)
  have hA0 : S8At w' w.heap.size H0 := (ho.2.block _ (by simp)).trans (heap_alloc_new _ _)
  have hB0 : Below w.heap.size w w' := (below_alloc (Below.refl _ _) _).trans (ho.2.mono (by simp))
  have hmod := pad_mod p
  subst hv
  obtain ⟨P, hP⟩ : ∃ P, P = pad p := ⟨_, rfl⟩
  have HS : Hid (blks K0 (P.length / 64) H0 P = sumS p) := Lib.hid (by rw [hP]; rfl)
  have HPp := Lib.hid hP
  rw [← hP] at hlc hC hmod
  have HI := Lib.hid (And.intro hlc (And.intro hC (And.intro (show P.length = 64 * (P.length / 64) by omega) (And.intro HS.out (And.intro hA0 hB0)))))
  clear ho hA0 hB0 hmod hP hlc hC HS d0 d1 d2 d3 d4 d5 d6 d7
  go_loopg [4] (P.length / 64) (fun n v4 w' => ∃ A4 c4 s q, v4 = .slice A4 (List.length q) c4 ∧ Hid (q.length ≤ c4 ∧ CT D (Kd.int .u8) w' A4 q ∧ q.length = 64 * n ∧ blks K0 n s q = sumS p ∧ S8At w' w.heap.size s ∧ Below w.heap.size w w'))
  case atStart => exact ⟨A4, c4, H0, P, by rw [HPp.out], HI⟩
  case round =>
    clear HI
    obtain ⟨A4, c4, s, q, rfl, hrel⟩ := hrel
    obtain ⟨hlc, hC, hq, hf, hA, hB⟩ := hrel.out
    clear hrel
    rcases Nat.eq_zero_or_pos gk with hk | hk
    · subst hk
      have q0 : (0 < q.length) = False := eq_false (by omega)
      have hs : s = sumS p := hf
      obtain ⟨d0, d1, d2, d3, d4, d5, d6, d7⟩ := hA.cells
      have HB := Lib.hid hB
      have HSS := Lib.hid hs
      clear hlc hC hq hf hB hA hs
      go_wp2
      clear d0 d1 d2 d3 d4 d5 d6 d7 q0
      go_loopg [5, 21] 8 (fun n v5 v21 w' => ∃ j : Nat, v21 = .int .i64 (j : Int) ∧ Hid (n + j = 8 ∧ Own (Kd.int .u8) 5 w w' v5 ((s.l.take j).flatMap out4)))
      case atStart => exact ⟨0, rfl, by omega, Kd.R_nil _ _ _ _ _, HB.out⟩
      case round =>
        obtain ⟨j, rfl, hrel⟩ := hrel
        obtain ⟨hn, ho⟩ := hrel.out
        clear hrel HB
        have HO := Lib.hid ho
        clear ho
        rcases Nat.lt_or_ge j 8 with hj | hj
        · have hidx := run_index_s8 s j hj wr
          obtain ⟨x, hx⟩ : ∃ x, x = s.l.getD j 0 := ⟨_, rfl⟩
          rw [← hx] at hidx
          unfold S8.v at hidx
          have HX := Lib.hid hx
          have q0 : ((j : Int) < 8) = True := eq_true (by omega)
          clear hx
          go_wp2_with (at_builtin; refine app_ints (k := .u8) (w0 := w) rfl (.tmp 24) (.tmp 36) rfl und_bytes info_u8 (by omega) _ _ (out4 x) (some ⟨wr.heap.size, 0, none⟩) 4 rfl rfl (Own.alloc HO.out _) (lit_C .u8 5 wr (out4 x) (by simp [out4])) (by rw [out_len, List.length_take, S8.l_len]; simp [out4]; omega) ?_; intro v1 w1 ho1 hg1; clear hg1; have HO1 := Lib.hid ho1; clear ho1)
          go_roundg (gk - 1)
          case measure => omega
          case rel => exact ⟨j + 1, rfl, by omega, by have := HO1.out; rw [HX.out, out_take s hj] at this; exact this⟩
        · obtain rfl : j = 8 := by omega
          go_wp2
          go_returns
          exact ⟨_, rfl, by have := HO.out; unfold sum; rw [← HSS.out]; exact this⟩
    · have hq64 : 64 ≤ q.length := by omega
      have hc1 := cut_to (P := Tryz.prog) 42 5 .i64 und_bytes (i := Tryz.t5) rfl A4 q.length c4 64 (by omega) (by omega) hlc
      have hc2 := cut_from (P := Tryz.prog) 42 5 .i64 und_bytes (i := Tryz.t5) rfl 1 rfl A4 q.length c4 64 (by omega) (by omega)
      have hC2 := CT.drop (m := 64) hC hq64 hlc
      obtain ⟨A9, hA9⟩ : ∃ A9, (if c4 = 64 then A4 else A4.map (·.add (64 * 1))) = A9 := ⟨_, rfl⟩
      rw [show (64 : Int).toNat = 64 from rfl] at hc2
      change CT D (Kd.int .u8) wr (if c4 = 64 then A4 else A4.map (·.add (64 * 1))) _ at hC2
      rw [hA9] at hC2 hc2
      clear hA9
      obtain ⟨d0, d1, d2, d3, d4, d5, d6, d7⟩ := hA.cells
      have q0 : (0 < q.length) = True := eq_true (by omega)
      obtain ⟨t, ht⟩ : ∃ t, t = turnS K0 s (q.take 64) := ⟨_, rfl⟩
      have CT := fun W hw hC => hash_turn' W s A4 c4 q hw hC hq64
      rw [← ht] at CT
      replace CT := Lib.hid CT
      have HT := Lib.hid ht
      clear ht
      have HR := Lib.hid (And.intro hlc (And.intro hC (And.intro hq (And.intro hf (And.intro hA (And.intro hB hC2))))))
      have HQ := Lib.hid hq64
      clear hlc hC hq hf hB hq64 hC2
      go_wp2_with fail
      go_still_tail 3, (by kernel_rfl)
      change wpList _ _ _ _ _ wr.drew
      clear d0 d1 d2 d3 d4 d5 d6 d7
      go_wp2_with (first
        | (go_at_call 183; (with_reducible refine (CT.out _ ?hG ?hC).mono ?_); (case hG => exact HG.out.below (HR.out.2.2.2.2.2.1).drew); (case hC => exact Kd.C_below HR.out.2.1.now (Below.refl _ _).drew); rintro e w2 ⟨rfl, hb⟩; have hA2 : S8At w2 w.heap.size s := (hb.block _ (by have := blk_lt hA; simpa using this)).trans hA; have HX := Lib.hid (And.intro hb hA2); clear hb hA2)
        | (refine wps_store_row rfl 236 (.tmp 3) (.tmp 19) rfl w.heap.size (t.l.map U).toArray rfl rfl 236 _ HX.out.2 size_a8 rfl (ArrU.all t.l) ?_))
      go_roundg (gk - 1)
      case measure => omega
      case rel =>
        obtain ⟨hlc, hC, hq, hf, hA, hB, hC2⟩ := HR.out
        have hb2 : Below wr.heap.size wr w2 := (Below.refl _ _).drew.trans HX.out.1
        have hA2 : ArrU w2 w.heap.size 236 s.l := HX.out.2
        have hl6 : (q.drop 64).length = q.length - 64 := List.length_drop
        refine ⟨A9, c4 - 64, t, q.drop 64, by rw [hl6], by rw [hl6]; omega, ?_, by rw [hl6]; omega, ?_, hA2.row t.l, below_setRow (hB.trans (hb2.mono (below_size hB))) (Nat.le_refl _) _⟩
        · exact hC2.keep ((KeepT.of_below hb2).setRow hA2 (by decide) _)
        · rw [← hf, HT.out]
          obtain ⟨m, rfl⟩ : ∃ m, gk = m + 1 := ⟨gk - 1, by omega⟩
          rfl
end Go.Proofs.YtdhghaiifeienaaGreatDoor

/- SHA-256 folded: package hash. -/
set_option linter.unusedVariables false
set_option linter.unusedSimpArgs false
namespace Go.Proofs.YtdhghaiifeienaaGreatDoor
open Go.RowKit Go.Proofs.YtdhghaiifeienaaGreatDoorW.PrintWords

def shortN (s : List Int) : Nat → List Int
  | 0 => List.replicate 20 0
  | n + 1 => (shortN s n).set (n % 20) (Go.bits .xor .u8 ((shortN s n).getD (n % 20) 0) (s.getD n 0))
def short (p : List Int) : List Int := shortN (sum p) 32
theorem shortN_len (s : List Int) : ∀ n, (shortN s n).length = 20
  | 0 => by simp [shortN]
  | n + 1 => by simp [shortN, shortN_len s n]
/-- An array of numbers. -/
def ArrI (k : IntKind) (w : World) (g : Nat) (t : TypeId) (xs : List Int) : Prop := w.heap[g]? = some (.cells (xs.map (Value.int k)).toArray t (0, 0))
section
variable {k : IntKind} {w w1 : World} {g : Nat} {t : TypeId} {xs : List Int}
theorem ArrI.get (h : ArrI k w g t xs) {i : Nat} (hi : i < xs.length) : w.cell? ⟨g, i, none⟩ = some (.int k (xs.getD i 0)) := by
  refine (blk_cell h i).trans ?_
  simp [List.getD_eq_getElem?_getD, hi]
theorem ArrI.set (h : ArrI k w g t xs) (i : Nat) (x : Int) : ArrI k (w.setCell ⟨g, i, none⟩ (.int k x)) g t (xs.set i x) := by
  have := blk_set h i (Value.int k x)
  unfold ArrI
  rw [this]
  simp [List.map_set]
theorem ArrI.drew (h : ArrI k w g t xs) : ArrI k w.drew g t xs := h
theorem ArrI.keep (h : ArrI k w g t xs) (hb : Below w.heap.size w w1) : ArrI k w1 g t xs := (hb.block g (blk_lt h)).trans h
theorem ArrI.own (h : ArrI k w g t xs) {base : Nat} (hb : base ≤ g) (hl : xs.length ≤ 1000000) : (Kd.int k).R t w base tr (.slice (some ⟨g, 0, none⟩) xs.length xs.length) xs := by
  refine Kd.R_of_own ⟨by simp [encs], .inr ⟨g, xs.length, (xs.map (Value.int k)).toArray, rfl, hb, h, Nat.le_refl _, by unfold maxLen; omega, by simp, ?_⟩⟩ (fun _ _ => trivial)
  rw [List.take_of_length_le (by simp)]
  simp [encs]
end
theorem C_of_R {α : Type} {d : Kd α} {e n c : Nat} {w : World} {base : Nat} {ok : Nat → Prop} {A : Option Addr} {xs : List α} (h : d.R e w base ok (.slice A n c) xs) : d.C w A xs.length xs := by
  obtain ⟨A', c', he, _, hC⟩ := Kd.R_reads h
  injection he with h1 h2 h3
  subst h1
  exact hC
/-- A store into an elder block leaves a row of one's own alone. -/
theorem R_elder {α : Type} {d : Kd α} {e : Nat} {w : World} {base : Nat} {v : Value} {xs : List α} (h : d.R e w base tr v xs) {g : Nat} (hg : g < base) (i : Nat) (u : Value) : d.R e (w.setCell ⟨g, i, none⟩ u) base tr v xs :=
  Kd.R_mono (Kd.R_far (p := ⟨g, i, none⟩) (ok := fun k => base ≤ k) (Kd.R_mono (Kd.R_bound h) (fun _ hk => hk.2.1)) (fun k hk => by simp only; omega) u) (fun _ _ => trivial)
theorem made20 : madeCells #[Value.int .u8 0] 20 = ((List.replicate 20 (0 : Int)).map (Value.int .u8)).toArray := by kernel_rfl
set_option maxRecDepth 20000 in
set_option maxHeartbeats 4000000 in
theorem hash_Short (w : World) (A : Option Addr) (c : Nat) (p : List Int) (hg : Glob w) (hp : (Kd.int .u8).C w A p.length p) (hl : p.length ≤ 1000000) :
    Calls Tryz.prog 153 #[.slice A p.length c] w fun e w' => ∃ v, e = .returned v ∧ Own (Kd.int .u8) 5 w w' v (short p) := by
  have HP := Lib.hid hp
  have HG := Lib.hid hg
  have HL := Lib.hid hl
  clear hp hg hl
  have hmk : ∀ W : World, (Instr.makeSlice 42 (.int .i64 20) (.int .i64 20)).run Tryz.prog W = .ok (.slice (some ⟨W.heap.size, 0, none⟩) 20 20) (W.alloc (.cells ((List.replicate 20 (0 : Int)).map (Value.int .u8)).toArray 5)) := fun W => (print_make (P := Tryz.prog) 42 5 .u8 1 und_bytes info_u8 (by omega) 20 (by decide) W).trans (by rw [made20])
  go_enter Tryz.func153, Tryz.ntmps153
  go_wp2_with (go_at_call 150; (with_reducible refine (hash_Sum _ A c p ?hG ?hC HL.out).mono ?_); (case hG => exact HG.out.below (below_alloc (Below.refl _ _) _)); (case hC => exact Kd.C_below HP.out (below_alloc (Below.refl _ _) _)); rintro e w' ⟨v, rfl, ho⟩; obtain ⟨A8, c8, rfl⟩ := ho.slice; have HO := Lib.hid ho; clear ho; have h32 := sum_len p)
  have hM0 : ArrI .u8 w' w.heap.size 5 (shortN (sum p) 0) := (HO.out.2.block _ (by simp)).trans (heap_alloc_new _ _)
  have hB0 : Below w.heap.size w w' := (below_alloc (Below.refl _ _) _).trans (HO.out.2.mono (by simp))
  have hR0 : (Kd.int .u8).R 5 w' (w.heap.size + 1) tr (.slice A8 (sum p).length c8) (sum p) := by have := HO.out.1; simpa using this
  have HI := Lib.hid (And.intro hR0 (And.intro hM0 hB0))
  clear hmk hM0 hB0 hR0
  obtain ⟨S, hS⟩ : ∃ S, S = sum p := ⟨_, rfl⟩
  have HS := Lib.hid hS
  rw [← hS] at HI h32
  clear hS
  go_loopg [10] 32 (fun n v10 w' => ∃ j : Nat, v10 = .int .i64 (j : Int) ∧ Hid (n + j = 32 ∧ (Kd.int .u8).R 5 w' (w.heap.size + 1) tr (.slice A8 S.length c8) S ∧ ArrI .u8 w' w.heap.size 5 (shortN S j) ∧ Below w.heap.size w w'))
  case atStart => exact ⟨0, rfl, by omega, HI.out⟩
  case round =>
    obtain ⟨j, rfl, hrel⟩ := hrel
    obtain ⟨hn, hC, hM, hB⟩ := hrel.out
    have HR := Lib.hid (And.intro hC (And.intro hM hB))
    clear hrel HI HO
    rcases Nat.lt_or_ge j 32 with hj | hj
    · obtain ⟨ad, rfl, d0⟩ := Kd.at_int (C_of_R hC) (j : Int) (by omega) (by omega)
      rw [Int.toNat_natCast] at d0
      obtain ⟨m, hm⟩ : ∃ m : Nat, m = j % 20 := ⟨_, rfl⟩
      have d1 := hM.get (i := m) (by rw [shortN_len]; omega)
      have f1 : wr.frozen? ⟨w.heap.size, m, none⟩ = false := blk_frozen hM m
      have e1 : (j : Int) % 20 = (m : Int) := by omega
      have q0 : ((j : Int) < 32) = True := eq_true (by omega)
      have q1 : ((m : Int) < 20) = True := eq_true (by omega)
      obtain ⟨x, hx⟩ : ∃ x, x = (shortN S j).getD m 0 := ⟨_, rfl⟩
      obtain ⟨y, hy⟩ : ∃ x, x = rd S (j : Int) := ⟨_, rfl⟩
      rw [← hx] at d1
      rw [← hy] at d0
      have HX := Lib.hid (And.intro hx (And.intro hy hm))
      clear hC hM hB hx hy hm
      go_wp2
      go_roundg (gk - 1)
      case measure => omega
      case rel =>
        obtain ⟨hC, hM, hB⟩ := HR.out
        obtain ⟨hx, hy, hm⟩ := HX.out
        refine ⟨j + 1, rfl, by omega, ?_, ?_, (hB.setCell (by simp) _)⟩
        · exact (R_elder hC (by omega) _ _)
        · have := hM.set m (Go.bits .xor .u8 x y)
          rw [show shortN S (j + 1) = (shortN S j).set m (Go.bits .xor .u8 x y) by rw [hx, hy, hm]; rfl]
          exact this
    · obtain rfl : j = 32 := by omega
      go_wp2
      go_returns
      refine ⟨_, rfl, ?_, hB⟩
      have := hM.own (base := w.heap.size) (Nat.le_refl _) (by rw [shortN_len]; omega)
      rw [shortN_len] at this
      unfold short
      rw [← HS.out]
      exact this
end Go.Proofs.YtdhghaiifeienaaGreatDoor

/- The document's SHA-256: package godownref02. -/
set_option linter.unusedVariables false
set_option linter.unusedSimpArgs false
namespace Go.Proofs.YtdhghaiifeienaaGreatDoor
open Go.RowKit Go.Proofs.YtdhghaiifeienaaGreatDoorW.PrintWords

/-- A word as a row's element. -/
def kU : Kd B32 := Kd.scalar U (fun _ => rfl)
theorem at_U {w : World} {A : Option Addr} {n : Nat} {xs : List B32} (h : kU.C w A n xs) (i : Int) (h0 : 0 ≤ i) (h1 : i < n) : ∃ ad, A = some ad ∧ w.cell? (ad.add i.toNat) = some (.int .u32 ((xs.getD i.toNat 0).toNat : Int)) :=
  ReadsOf.at_ (Kd.reads_of_C (enc := U) (d := (0 : B32)) (h1 := fun _ => rfl) h) i h0 h1
section
variable {P : Program} {ops : Array Oper} {rest : List Oper} {o : Oper} {a : Act} {Q : Exit → Act → World → Prop} {Kc : Act → World → Prop}
theorem app_U {t e : TypeId} {w0 W : World} (hgd : o.guard = none) (s x : Operand)
    (ho : o.op = .call { callee := .builtin .append, args := #[s, x], argTypes := #[t, t] })
    (ht : P.underlying t = some (.slice e)) (hinfo : (P.info? e).map (fun i => (i.zero, i.size, i.bytes)) = some (some (.int .u32 0), 1, 4))
    (v : Value) (xs : List B32) (p : B32) (z : Int) (hz : z = (p.toNat : Int)) (hs : a.eval s = v) (hx : a.eval x = .slice (some ⟨W.heap.size, 0, none⟩) 1 1)
    (HO : Own kU e w0 W v xs) (hl : xs.length + 1 ≤ 10000000)
    (h : ∀ v1 w1, Own kU e w0 w1 v1 (xs ++ [p]) → W.grownBy w1 v.ownBlock → wpList P ops Q rest (a.put o.dst v1) w1) :
    wpList P ops Q (o :: rest) a (W.alloc (.cells #[.int .u32 z] e)) := by
  subst hz
  exact Kd.R_append kU (w0 := w0) w0.heap.size hgd s x t e _ 4 ho ht hinfo rfl (Nat.zero_lt_one) (by omega) v xs p [U p] tr (fun _ => False) hs hx rfl (fun _ hk => hk.elim) (fun _ _ => trivial) HO.1 HO.2 HO.size (by omega) (fun v1 w1 h1 h2 h3 _ => h v1 w1 ⟨h1, h2⟩ h3)
theorem app_U_step {t e : TypeId} {w0 W : World} (hw : Region.wanted o (yielded ops a.tmps) = true) (s x : Operand)
    (ho : o.op = .call { callee := .builtin .append, args := #[s, x], argTypes := #[t, t] })
    (ht : P.underlying t = some (.slice e)) (hinfo : (P.info? e).map (fun i => (i.zero, i.size, i.bytes)) = some (some (.int .u32 0), 1, 4))
    (v : Value) (xs : List B32) (p : B32) (z : Int) (hz : z = (p.toNat : Int)) (hs : a.eval s = v) (hx : a.eval x = .slice (some ⟨W.heap.size, 0, none⟩) 1 1)
    (HO : Own kU e w0 W v xs) (hl : xs.length + 1 ≤ 10000000)
    (h : ∀ v1 w1, Own kU e w0 w1 v1 (xs ++ [p]) → W.grownBy w1 v.ownBlock → Kc (a.put o.dst v1) w1) :
    if Region.wanted o (yielded ops a.tmps) = true then Oper.wp P o a (W.alloc (.cells #[.int .u32 z] e)) Kc Q else Kc (a.put o.dst undef) (W.alloc (.cells #[.int .u32 z] e)) := by
  subst hz
  exact Kd.R_append_step kU (w0 := w0) w0.heap.size hw s x t e _ 4 ho ht hinfo rfl (Nat.zero_lt_one) (by omega) v xs p [U p] tr (fun _ => False) hs hx rfl (fun _ hk => hk.elim) (fun _ _ => trivial) HO.1 HO.2 HO.size (by omega) (fun v1 w1 h1 h2 h3 _ => h v1 w1 ⟨h1, h2⟩ h3)
theorem app_Us {t e : TypeId} {w0 W : World} (hgd : o.guard = none) (s x : Operand)
    (ho : o.op = .call { callee := .builtin .append, args := #[s, x], argTypes := #[t, t] })
    (ht : P.underlying t = some (.slice e)) (hinfo : (P.info? e).map (fun i => (i.zero, i.size, i.bytes)) = some (some (.int .u32 0), 1, 4))
    (v : Value) (xs ys : List B32) (A : Option Addr) (n c : Nat) (hs : a.eval s = v) (hx : a.eval x = .slice A n c)
    (HO : Own kU e w0 W v xs) (HC : kU.C W A n ys) (hl : xs.length + n ≤ 10000000)
    (h : ∀ v1 w1, Own kU e w0 w1 v1 (xs ++ ys) → W.grownBy w1 v.ownBlock → wpList P ops Q rest (a.put o.dst v1) w1) :
    wpList P ops Q (o :: rest) a W :=
  Kd.R_append_row U 0 (w0 := w0) w0.heap.size hgd s x t e _ 4 ho ht hinfo rfl (by omega) v xs ys A _ c tr hs hx (fun _ _ => trivial) HO.1 HC HO.2 HO.size (by omega) (fun v1 w1 h1 h2 h3 _ => h v1 w1 ⟨h1, h2⟩ h3)
end
section
variable {P : Program} {ops : Array Oper} {o : Oper} {a : Act} {Q : Exit → Act → World → Prop} {Kc : Act → World → Prop}
theorem app_ints_step {k : IntKind} {t e : TypeId} {bytes : Nat} {w0 W : World} (hw : Region.wanted o (yielded ops a.tmps) = true) (s x : Operand)
    (ho : o.op = .call { callee := .builtin .append, args := #[s, x], argTypes := #[t, t] })
    (ht : P.underlying t = some (.slice e)) (hinfo : (P.info? e).map (fun i => (i.zero, i.size, i.bytes)) = some (some (.int k 0), 1, bytes)) (hb0 : 0 < bytes)
    (v : Value) (xs ys : List Int) (A : Option Addr) (n c : Nat) (hs : a.eval s = v) (hx : a.eval x = .slice A n c)
    (HO : Own (Kd.int k) e w0 W v xs) (HC : (Kd.int k).C W A n ys) (hl : (xs.length + n) * bytes ≤ 140737488355328)
    (h : ∀ v1 w1, Own (Kd.int k) e w0 w1 v1 (xs ++ ys) → W.grownBy w1 v.ownBlock → Kc (a.put o.dst v1) w1) :
    if Region.wanted o (yielded ops a.tmps) = true then Oper.wp P o a W Kc Q else Kc (a.put o.dst undef) W :=
  Kd.R_append_rows_step (Kd.int k) (Rr := (Kd.int k).K W) (w0 := w0) w0.heap.size hw s x t e _ bytes ho ht hinfo rfl (Nat.zero_lt_one) hb0 v xs ys A n c tr (fun _ => False) hs hx HO.1 HC (fun _ _ h => h) (fun _ hk => hk.elim) (fun _ _ => trivial) HO.2 HO.size hl (fun v1 w1 h1 h2 h3 _ => h v1 w1 ⟨h1, h2⟩ h3)
end
/-- As the walk of a region tells it. -/
def out4w (x : B32) : List Int := [IntKind.u8.wrap ((x.toNat : Int) / 16777216), IntKind.u8.wrap ((x.toNat : Int) / 65536), IntKind.u8.wrap ((x.toNat : Int) / 256), IntKind.u8.wrap (x.toNat : Int)]
theorem out4w_eq (x : B32) : out4w x = out4 x := by
  have := x.isLt
  unfold out4w out4
  simp only [Go.IntKind.wrap_u8]
  congr 1
  omega
/-! ### what is alike -/
theorem maj_or (a b c : B32) : (a &&& b) ||| (c &&& (a ||| b)) = maj a b c := by
  unfold maj
  ext i hi
  simp only [BitVec.getElem_or, BitVec.getElem_and, BitVec.getElem_xor]
  cases a[i] <;> cases b[i] <;> cases c[i] <;> rfl
theorem mjo_val (x y z : B32) : Go.bits .or .u32 (Go.bits .and .u32 (x.toNat : Int) (y.toNat : Int)) (Go.bits .and .u32 (z.toNat : Int) (Go.bits .or .u32 (x.toNat : Int) (y.toNat : Int))) = ((maj x y z).toNat : Int) := by
  rw [u32_and, u32_or, u32_and, u32_or, maj_or]
theorem be_add (x0 x1 x2 x3 : Int) (h0 : 0 ≤ x0 ∧ x0 < 256) (h1 : 0 ≤ x1 ∧ x1 < 256) (h2 : 0 ≤ x2 ∧ x2 < 256) (h3 : 0 ≤ x3 ∧ x3 < 256) :
    x0 * 16777216 + x1 * 65536 + x2 * 256 + x3 = ((bw x0 <<< 24 ||| bw x1 <<< 16 ||| bw x2 <<< 8 ||| bw x3).toNat : Int) := by
  obtain ⟨n0, rfl⟩ := Int.eq_ofNat_of_zero_le h0.1
  obtain ⟨n1, rfl⟩ := Int.eq_ofNat_of_zero_le h1.1
  obtain ⟨n2, rfl⟩ := Int.eq_ofNat_of_zero_le h2.1
  obtain ⟨n3, rfl⟩ := Int.eq_ofNat_of_zero_le h3.1
  have b : ∀ n : Nat, n < 256 → (bw (n : Int)).toNat = n := fun n hn => by
    unfold bw
    rw [BitVec.toNat_ofInt]
    change ((n : Int) % (4294967296 : Int)).toNat = n
    omega
  have e0 := b n0 (by omega)
  have e1 := b n1 (by omega)
  have e2 := b n2 (by omega)
  have e3 := b n3 (by omega)
  have s : ∀ (x : B32) (k : Nat), x.toNat < 256 → k ≤ 24 → (x <<< k).toNat = x.toNat <<< k := fun x k hx hk => by
    rw [BitVec.toNat_shiftLeft]
    refine Nat.mod_eq_of_lt ?_
    rw [Nat.shiftLeft_eq]
    calc x.toNat * 2 ^ k ≤ 255 * 2 ^ 24 := Nat.mul_le_mul (by omega) (Nat.pow_le_pow_right (by decide) hk)
      _ < 2 ^ 32 := by decide
  rw [BitVec.toNat_or, BitVec.toNat_or, BitVec.toNat_or, s _ 24 (by omega) (by omega), s _ 16 (by omega) (by omega), s _ 8 (by omega) (by omega), e0, e1, e2, e3]
  have f1 : n0 <<< 24 ||| n1 <<< 16 = (n0 * 256 + n1) <<< 16 := by
    have := Nat.shiftLeft_add_eq_or_of_lt (i := 24) (b := n1 <<< 16) (by rw [Nat.shiftLeft_eq]; omega) n0
    rw [← this]
    simp only [Nat.shiftLeft_eq]
    omega
  have f2 : (n0 * 256 + n1) <<< 16 ||| n2 <<< 8 = ((n0 * 256 + n1) * 256 + n2) <<< 8 := by
    have := Nat.shiftLeft_add_eq_or_of_lt (i := 16) (b := n2 <<< 8) (by rw [Nat.shiftLeft_eq]; omega) (n0 * 256 + n1)
    rw [← this]
    simp only [Nat.shiftLeft_eq]
    omega
  have f3 : ((n0 * 256 + n1) * 256 + n2) <<< 8 ||| n3 = ((n0 * 256 + n1) * 256 + n2) * 256 + n3 := by
    have := Nat.shiftLeft_add_eq_or_of_lt (i := 8) (b := n3) (by omega) ((n0 * 256 + n1) * 256 + n2)
    rw [← this]
    simp only [Nat.shiftLeft_eq]
  rw [f1, f2, f3]
  clear f1 f2 f3 e0 e1 e2 e3 b s
  omega
/-- A byte each. -/
def Bys (p : List Int) : Prop := ∀ x ∈ p, 0 ≤ x ∧ x < 256
theorem Bys.get {p : List Int} (h : Bys p) (i : Nat) : 0 ≤ p.getD i 0 ∧ p.getD i 0 < 256 := by
  rw [List.getD_eq_getElem?_getD]
  cases e : p[i]? with
  | none => simp
  | some x => simpa using h x (List.mem_of_getElem? e)
theorem Bys.append {p q : List Int} (h : Bys p) (k : Bys q) : Bys (p ++ q) := fun x hx => by
  rcases List.mem_append.1 hx with hx | hx
  · exact h x hx
  · exact k x hx
theorem Bys.drop {p : List Int} (h : Bys p) (m : Nat) : Bys (p.drop m) := fun x hx => h x (List.mem_of_mem_drop hx)
theorem Bys.take {p : List Int} (h : Bys p) (m : Nat) : Bys (p.take m) := fun x hx => h x (List.mem_of_mem_take hx)
theorem bytes8_bys (n : Int) (h0 : 0 ≤ n) : Bys (bytes8 n) := by
  intro x hx
  simp only [bytes8, List.mem_cons, List.not_mem_nil, or_false] at hx
  rcases hx with rfl | rfl | rfl | rfl | rfl | rfl | rfl | rfl <;> omega
theorem pad_bys {p : List Int} (h : Bys p) : Bys (pad p) := by
  unfold pad
  refine ((h.append ?_).append ?_).append (bytes8_bys _ (by omega))
  · intro x hx; simp at hx; omega
  · intro x hx; have := List.eq_of_mem_replicate hx; omega
theorem be_wrap (x0 x1 x2 x3 : Int) (h0 : 0 ≤ x0 ∧ x0 < 256) (h1 : 0 ≤ x1 ∧ x1 < 256) (h2 : 0 ≤ x2 ∧ x2 < 256) (h3 : 0 ≤ x3 ∧ x3 < 256) :
    IntKind.u32.wrap (IntKind.u32.wrap (IntKind.u32.wrap (IntKind.u32.wrap (IntKind.u32.wrap x0 * 16777216) + IntKind.u32.wrap (IntKind.u32.wrap x1 * 65536)) + IntKind.u32.wrap (IntKind.u32.wrap x2 * 256)) + IntKind.u32.wrap x3) = ((bw x0 <<< 24 ||| bw x1 <<< 16 ||| bw x2 <<< 8 ||| bw x3).toNat : Int) := by
  rw [← be_add x0 x1 x2 x3 h0 h1 h2 h3]
  simp only [Go.IntKind.wrap_u32]
  omega
theorem getD_block (q : List Int) (a j : Nat) (h : j < 64) : ((q.drop a).take 64).getD j 0 = q.getD (a + j) 0 := by
  simp [List.getD_eq_getElem?_getD, List.getElem?_take, List.getElem?_drop, h]
theorem addr_add (g o n : Nat) : (⟨g, o, none⟩ : Addr).add n = ⟨g, o + n, none⟩ := by unfold Addr.add; split <;> simp_all
end Go.Proofs.YtdhghaiifeienaaGreatDoor

/- append, and what becomes of the elder row. -/
set_option linter.unusedVariables false
set_option linter.unusedSimpArgs false
namespace Go.Proofs.YtdhghaiifeienaaGreatDoor
open Go.RowKit Go.Proofs.YtdhghaiifeienaaGreatDoorW.PrintWords
variable {P : Program} {w : World}
/-- append to a row of one's own: the elder row's cells stay, whether the row has moved or not. -/
theorem run_append_kept (base : Nat) (t ty e : TypeId) (i : TypeInfo) (z : Value) (ht : P.underlying t = some (.slice e)) (hi : P.info? e = some i) (hz : i.zero = some z)
    (hzs : z.cells.size = i.size) (hsz : 0 < i.size)
    (g n cap : Nat) (xs : List Value) (hown : w.ownsRow base e i.size (.slice (some ⟨g, 0, none⟩) n cap) n xs)
    (a : Addr) (m c : Nat) (news : List Value) (hl : news.length = m * i.size) (hnews : ∀ j u, news[j]? = some u → w.cell? (a.add j) = some u) (h1 : ∀ u ∈ news, u.oneCell' = true)
    (h63 : n + m ≤ maxLen) (hbytes : (n + m) * i.bytes ≤ 140737488355328) (hbase : base ≤ w.heap.size) :
    ∃ v' w', (Builtin.append_ #[t, t] ty #[.slice (some ⟨g, 0, none⟩) n cap, .slice (some a) m c]).run P w = .ok v' w' ∧ w'.ownsRow base e i.size v' (n + m) (xs ++ news) ∧ w.grownBy w' (some g) ∧
      (v'.ownBlock = some g ∨ v'.ownBlock = some w.heap.size) ∧ ∀ j u, xs[j]? = some u → w'.cell? ⟨g, j, none⟩ = some u := by
  obtain ⟨v', w', hr, h2, h3, h4, h5⟩ := run_append_own_at (P := P) w base t ty e i z i.size i.bytes ht hi hz rfl rfl hzs hsz _ n xs hown a m c news hl hnews h1 h63 hbytes hbase
  refine ⟨v', w', hr, h2, h3, h5, fun j u hj => ?_⟩
  have hold := hown.cells (g := g) rfl j u hj
  rw [addr_add] at hold
  simp only [Nat.zero_add] at hold
  have hgl : g < w.heap.size := World.block_lt_of_cell? w _ hold
  rcases h5 with h5 | h5
  · have := h2.cells h5 j u (by rw [List.getElem?_append_left (List.getElem?_eq_some_iff.1 hj).1]; exact hj)
    rw [addr_add] at this
    simpa using this
  · by_cases hroom : n + m ≤ cap
    · rcases hown.2 with ⟨hv, h0⟩ | ⟨g', cap', cur, hv, _, hcur, hnc, _, hcs, _⟩
      · cases hv
      · injection hv with e1 e2 e3
        injection e1 with e1
        injection e1 with e1
        subst e1 e3
        have hfit : n * i.size + news.length ≤ cur.size := by rw [hl, hcs, ← Nat.add_mul]; exact Nat.mul_le_mul_right _ hroom
        have hr2 := run_append_room (P := P) w t ty e i ht hi g n cap cur hcur a m c news hl hnews h1 hroom hfit
        rw [hr] at hr2
        injection hr2 with f1 f2
        rw [f1] at h5
        have : g = w.heap.size := by simpa [Value.ownBlock] using h5
        omega
    · have holds : ∀ j u, xs[j]? = some u → w.cell? ((⟨g, 0, none⟩ : Addr).add j) = some u := hown.cells (g := g) rfl
      have hr2 := run_append_grow (P := P) w t ty e i z ht hi hz ⟨g, 0, none⟩ n cap xs hown.1 holds a m c news hl hnews (by omega) (by unfold maxLen at h63; omega) (growslice_fits (by omega) hbytes)
      rw [hr] at hr2
      injection hr2 with f1 f2
      rw [f2]
      have hb : (w.drew.alloc (.cells (xs.toArray ++ news.toArray ++ Builtin.zeroCells z.cells (grownCap w (n + m) cap e - (n + m))) e)).heap[g]? = w.heap[g]? := heap_alloc_old w.drew _ hgl
      exact (World.cell?_of_block hb).trans hold
theorem own_addrU {d : Kd B32} {e : Nat} {w0 w : World} {A : Option Addr} {n c : Nat} {xs : List B32} (h : Own d e w0 w (.slice A n c) xs) (hx : 0 < xs.length) : ∃ g, A = some ⟨g, 0, none⟩ := by
  obtain ⟨inner, ho⟩ := Kd.R_own h.1
  rcases ho.2 with ⟨he, h0⟩ | ⟨g, cap, cur, he, _⟩
  · omega
  · injection he with h1 _ _
    exact ⟨g, h1⟩
/-- A word of a row that begins its block. -/
theorem word_at {w : World} {g : Nat} {xs : List B32} (h : kU.C w (some ⟨g, 0, none⟩) xs.length xs) (i : Nat) (hi : i < xs.length) : w.cell? ⟨g, i, none⟩ = some (.int .u32 ((xs.getD i 0).toNat : Int)) := by
  obtain ⟨ad, e, d⟩ := at_U h (i : Int) (by omega) (by omega)
  injection e with e
  subst e
  rw [addr_add] at d
  simpa using d
section
variable {ops : Array Oper} {o : Oper} {a : Act} {Q : Exit → Act → World → Prop} {Kc : Act → World → Prop}
theorem app_U_step_kept {t e : TypeId} {w0 W : World} (hw : Region.wanted o (yielded ops a.tmps) = true) (s x : Operand)
    (ho : o.op = .call { callee := .builtin .append, args := #[s, x], argTypes := #[t, t] })
    (ht : P.underlying t = some (.slice e)) (hinfo : (P.info? e).map (fun i => (i.zero, i.size, i.bytes)) = some (some (.int .u32 0), 1, 4))
    (g c : Nat) (xs : List B32) (p : B32) (z : Int) (hz : z = (p.toNat : Int)) (hs : a.eval s = .slice (some ⟨g, 0, none⟩) xs.length c) (hx : a.eval x = .slice (some ⟨W.heap.size, 0, none⟩) 1 1)
    (HO : Own kU e w0 W (.slice (some ⟨g, 0, none⟩) xs.length c) xs) (hl : xs.length + 1 ≤ 10000000)
    (h : ∀ v1 w1, Own kU e w0 w1 v1 (xs ++ [p]) → (∀ j, j < xs.length → w1.cell? ⟨g, j, none⟩ = some (.int .u32 ((xs.getD j 0).toNat : Int))) → Kc (a.put o.dst v1) w1) :
    if Region.wanted o (yielded ops a.tmps) = true then Oper.wp P o a (W.alloc (.cells #[.int .u32 z] e)) Kc Q else Kc (a.put o.dst undef) (W.alloc (.cells #[.int .u32 z] e)) := by
  subst hz
  rw [if_pos hw]
  obtain ⟨i, hi, hzz⟩ := Option.map_eq_some_iff.1 hinfo
  simp only [Prod.mk.injEq] at hzz
  obtain ⟨hz0, hz1, hz2⟩ := hzz
  have HA : Own kU e w0 (W.alloc (.cells #[.int .u32 (p.toNat : Int)] e)) (.slice (some ⟨g, 0, none⟩) xs.length c) xs := HO.alloc _
  have hown := Kd.own_of_R (enc := U) (h1 := fun _ => rfl) HA.1
  rw [← hz1] at hown
  obtain ⟨v', w', hr, h2, h3, h4, h5⟩ := run_append_kept (P := P) (w := W.alloc (.cells #[.int .u32 (p.toNat : Int)] e)) w0.heap.size t o.type e i (.int .u32 0) ht hi hz0 (by rw [hz1]; rfl) (by omega) g xs.length c (encs U xs) hown ⟨W.heap.size, 0, none⟩ 1 1 [U p] (by simp [hz1]) (fun j u hj => by
      cases j with
      | zero => injection hj with hj; subst hj; exact (blk_cell (heap_alloc_new W _) 0).trans rfl
      | succ j => simp at hj) (fun u hu => by rw [List.mem_singleton.1 hu]; rfl) (by unfold maxLen; omega) (by rw [hz2]; omega) HA.size
  rw [hz1] at h2
  unfold Oper.wp execOp
  simp only [ho, resolve, invoke, builtin, Sem.run_bind, Sem.run_pure, Result.andThen_ok, List.map_toArray, List.map_cons, List.map_nil, hs, hx, hr]
  refine h v' w' ⟨Kd.R_of_own (by simpa [encs] using h2) (fun _ _ => trivial), ?_⟩ (fun j hj => ?_)
  · exact HA.2.grown h3 HA.size (fun k hk => by injection hk with hk; subst hk; exact own_base (Kd.own_of_R (enc := U) (h1 := fun _ => rfl) HA.1) g rfl)
  · refine h5 j _ ?_
    simp [encs, U, List.getD_eq_getElem?_getD, List.getElem?_eq_getElem hj]
end
end Go.Proofs.YtdhghaiifeienaaGreatDoor
