/- Paths as texts: plain lists of bytes, no program. -/
import Derived.Test.YtdhghaiifeienaaGreatDoorWWords
import Derived.Test.YtdhghaiifeienaaGreatDoorShelf
import Derived.Test.YtdhghaiifeienaaGreatDoorMH
import Derived.Test.YtdhghaiifeienaaGreatDoorPClaimPlaysx2
import Derived.Test.YtdhghaiifeienaaGreatDoorPClaimPlaysx3
import Derived.Test.YtdhghaiifeienaaGreatDoorPClaimPlaysx4
import Derived.Test.YtdhghaiifeienaaGreatDoorPClaimPlaysx6
import Derived.Test.YtdhghaiifeienaaGreatDoorMA
import Derived.Laws.Concat
import Derived.Test.YtdhghaiifeienaaGreatDoorMS

/- Paths as texts: plain lists of bytes, no program. -/
set_option linter.unusedVariables false
set_option linter.unusedSimpArgs false
namespace Go.Proofs.YtdhghaiifeienaaGreatDoor
open Go.RowKit Go.Proofs.YtdhghaiifeienaaGreatDoorW.PrintWords

/-! ### letters of five bits -/
/-- The 32 letters. -/
def lets : List UInt8 := [48, 49, 50, 51, 52, 53, 54, 55, 56, 57, 97, 98, 99, 100, 102, 103, 104, 105, 106, 107, 108, 109, 110, 112, 113, 114, 115, 118, 119, 120, 121, 122]
/-- The number of the k-th five bits. -/
def chunk (p : List Int) (k : Nat) : Int := ((p.getD (5 * k / 8) 0 * 256 + p.getD (5 * k / 8 + 1) 0) / 2 ^ (11 - 5 * k % 8)) % 32
def txt (p : List Int) (n : Nat) : List UInt8 := (List.range n).map (fun k => lets.getD (chunk p k).toNat 0)
theorem txt_succ (p : List Int) (n : Nat) : txt p (n + 1) = txt p n ++ [lets.getD (chunk p n).toNat 0] := by
  simp [txt, List.range_succ]
theorem txt_len (p : List Int) (n : Nat) : (txt p n).length = n := by simp [txt]
theorem chunk_range (p : List Int) (k : Nat) : 0 ≤ chunk p k ∧ chunk p k < 32 := by unfold chunk; omega
/-- A letter's number. -/
def val? (c : UInt8) : Option Nat := lets.findIdx? (fun x => x == c)
theorem val_lets : ∀ i, i < 32 → val? (lets.getD i 0) = some i := by decide
theorem val_lt {c : UInt8} {i : Nat} (h : val? c = some i) : i < 32 ∧ lets.getD i 0 = c := by
  unfold val? at h
  obtain ⟨h1, h2, _⟩ := List.findIdx?_eq_some_iff_getElem.1 h
  refine ⟨h1, ?_⟩
  simpa [List.getD_eq_getElem?_getD, h1] using h2
set_option maxHeartbeats 4000000 in
/-- What a store's bytes come to, five bits by five: the step that emits, n bits left behind. -/
theorem chunk_late (p : List Int) (k j n : Nat) (b a : Int) (hb : b = p.getD j 0) (ha : a = if j = 0 then 0 else p.getD (j - 1) 0) (h : 5 * k + 5 + n = 8 * (j + 1)) (hn : n < 8) (h0 : 0 ≤ p.getD (j + 1) 0 ∧ p.getD (j + 1) 0 < 256) (h1 : 0 ≤ b ∧ b < 256) :
    chunk p k = ((a % 16 * 256 + b) / 2 ^ n) % 32 := by
  unfold chunk
  rcases (show n = 0 ∨ n = 1 ∨ n = 2 ∨ n = 3 ∨ n = 4 ∨ n = 5 ∨ n = 6 ∨ n = 7 by omega) with rfl | rfl | rfl | rfl | rfl | rfl | rfl | rfl
  · rw [show 5 * k / 8 = j by omega, show 11 - 5 * k % 8 = 8 by omega, ← hb]; omega
  · rw [show 5 * k / 8 = j by omega, show 11 - 5 * k % 8 = 9 by omega, ← hb]; omega
  · rw [show 5 * k / 8 = j by omega, show 11 - 5 * k % 8 = 10 by omega, ← hb]; omega
  · rw [show 5 * k / 8 = j by omega, show 11 - 5 * k % 8 = 11 by omega, ← hb]; omega
  all_goals
    rw [if_neg (by omega)] at ha
    rw [show 5 * k / 8 = j - 1 by omega, show j - 1 + 1 = j by omega, ← hb, ← ha]
  · rw [show 11 - 5 * k % 8 = 4 by omega]; omega
  · rw [show 11 - 5 * k % 8 = 5 by omega]; omega
  · rw [show 11 - 5 * k % 8 = 6 by omega]; omega
  · rw [show 11 - 5 * k % 8 = 7 by omega]; omega
/-- The document's bit. -/
def bitI (p : List Int) (i : Nat) : Int := p.getD (i / 8) 0 / 2 ^ (7 - i % 8) % 2
set_option maxHeartbeats 4000000 in
theorem chunk_bits (p : List Int) (k : Nat) (h0 : ∀ i, 0 ≤ p.getD i 0 ∧ p.getD i 0 < 256) :
    chunk p k = 2 * (2 * (2 * (2 * (2 * 0 + bitI p (5 * k)) + bitI p (5 * k + 1)) + bitI p (5 * k + 2)) + bitI p (5 * k + 3)) + bitI p (5 * k + 4) := by
  unfold chunk bitI
  obtain ⟨q, hq⟩ : ∃ q, q = 5 * k / 8 := ⟨_, rfl⟩
  have ha := h0 q
  have hb := h0 (q + 1)
  generalize ea : p.getD q 0 = a at ha
  generalize eb : p.getD (q + 1) 0 = b at hb
  rcases (show 5 * k % 8 = 0 ∨ 5 * k % 8 = 1 ∨ 5 * k % 8 = 2 ∨ 5 * k % 8 = 3 ∨ 5 * k % 8 = 4 ∨ 5 * k % 8 = 5 ∨ 5 * k % 8 = 6 ∨ 5 * k % 8 = 7 by omega) with h | h | h | h | h | h | h | h
  · rw [← hq, h, show (5 * k + 1) / 8 = q by omega, show (5 * k + 2) / 8 = q by omega, show (5 * k + 3) / 8 = q by omega, show (5 * k + 4) / 8 = q by omega, show (5 * k + 1) % 8 = 1 by omega, show (5 * k + 2) % 8 = 2 by omega, show (5 * k + 3) % 8 = 3 by omega, show (5 * k + 4) % 8 = 4 by omega, ea, eb]; simp only [Nat.sub_zero, Nat.reduceSub]; omega
  · rw [← hq, h, show (5 * k + 1) / 8 = q by omega, show (5 * k + 2) / 8 = q by omega, show (5 * k + 3) / 8 = q by omega, show (5 * k + 4) / 8 = q by omega, show (5 * k + 1) % 8 = 2 by omega, show (5 * k + 2) % 8 = 3 by omega, show (5 * k + 3) % 8 = 4 by omega, show (5 * k + 4) % 8 = 5 by omega, ea, eb]; simp only [Nat.sub_zero, Nat.reduceSub]; omega
  · rw [← hq, h, show (5 * k + 1) / 8 = q by omega, show (5 * k + 2) / 8 = q by omega, show (5 * k + 3) / 8 = q by omega, show (5 * k + 4) / 8 = q by omega, show (5 * k + 1) % 8 = 3 by omega, show (5 * k + 2) % 8 = 4 by omega, show (5 * k + 3) % 8 = 5 by omega, show (5 * k + 4) % 8 = 6 by omega, ea, eb]; simp only [Nat.sub_zero, Nat.reduceSub]; omega
  · rw [← hq, h, show (5 * k + 1) / 8 = q by omega, show (5 * k + 2) / 8 = q by omega, show (5 * k + 3) / 8 = q by omega, show (5 * k + 4) / 8 = q by omega, show (5 * k + 1) % 8 = 4 by omega, show (5 * k + 2) % 8 = 5 by omega, show (5 * k + 3) % 8 = 6 by omega, show (5 * k + 4) % 8 = 7 by omega, ea, eb]; simp only [Nat.sub_zero, Nat.reduceSub]; omega
  · rw [← hq, h, show (5 * k + 1) / 8 = q by omega, show (5 * k + 2) / 8 = q by omega, show (5 * k + 3) / 8 = q by omega, show (5 * k + 4) / 8 = q + 1 by omega, show (5 * k + 1) % 8 = 5 by omega, show (5 * k + 2) % 8 = 6 by omega, show (5 * k + 3) % 8 = 7 by omega, show (5 * k + 4) % 8 = 0 by omega, ea, eb]; simp only [Nat.sub_zero, Nat.reduceSub]; omega
  · rw [← hq, h, show (5 * k + 1) / 8 = q by omega, show (5 * k + 2) / 8 = q by omega, show (5 * k + 3) / 8 = q + 1 by omega, show (5 * k + 4) / 8 = q + 1 by omega, show (5 * k + 1) % 8 = 6 by omega, show (5 * k + 2) % 8 = 7 by omega, show (5 * k + 3) % 8 = 0 by omega, show (5 * k + 4) % 8 = 1 by omega, ea, eb]; simp only [Nat.sub_zero, Nat.reduceSub]; omega
  · rw [← hq, h, show (5 * k + 1) / 8 = q by omega, show (5 * k + 2) / 8 = q + 1 by omega, show (5 * k + 3) / 8 = q + 1 by omega, show (5 * k + 4) / 8 = q + 1 by omega, show (5 * k + 1) % 8 = 7 by omega, show (5 * k + 2) % 8 = 0 by omega, show (5 * k + 3) % 8 = 1 by omega, show (5 * k + 4) % 8 = 2 by omega, ea, eb]; simp only [Nat.sub_zero, Nat.reduceSub]; omega
  · rw [← hq, h, show (5 * k + 1) / 8 = q + 1 by omega, show (5 * k + 2) / 8 = q + 1 by omega, show (5 * k + 3) / 8 = q + 1 by omega, show (5 * k + 4) / 8 = q + 1 by omega, show (5 * k + 1) % 8 = 0 by omega, show (5 * k + 2) % 8 = 1 by omega, show (5 * k + 3) % 8 = 2 by omega, show (5 * k + 4) % 8 = 3 by omega, ea, eb]; simp only [Nat.sub_zero, Nat.reduceSub]; omega

/-! ### and back: letters' numbers to bytes -/
def back (v : List Int) (k : Nat) : Int := ((v.getD (8 * k / 5) 0 * 1024 + v.getD (8 * k / 5 + 1) 0 * 32 + v.getD (8 * k / 5 + 2) 0) / 2 ^ (7 - 8 * k % 5)) % 256
def backs (v : List Int) (n : Nat) : List Int := (List.range n).map (back v)
theorem backs_succ (v : List Int) (n : Nat) : backs v (n + 1) = backs v n ++ [back v n] := by simp [backs, List.range_succ]
theorem backs_len (v : List Int) (n : Nat) : (backs v n).length = n := by simp [backs]
theorem backs_get (v : List Int) (n i : Nat) (h : i < n) : (backs v n).getD i 0 = back v i := by simp [backs, List.getD_eq_getElem?_getD, h]
theorem back_range (v : List Int) (k : Nat) : 0 ≤ back v k ∧ back v k < 256 := by unfold back; omega
set_option maxHeartbeats 4000000 in
/-- The byte that is laid behind the i-th letter, n bits left. -/
theorem back_late (v : List Int) (k i n : Nat) (c b a : Int) (hc : c = v.getD i 0) (hb : b = if i = 0 then 0 else v.getD (i - 1) 0) (ha : a = if i ≤ 1 then 0 else v.getD (i - 2) 0) (h : 8 * k + 8 + n = 5 * (i + 1)) (hn : n < 5) (h0 : ∀ i, 0 ≤ v.getD i 0 ∧ v.getD i 0 < 32) :
    back v k = (((a * 32 + b) % 128 * 32 + c) / 2 ^ n) % 256 := by
  unfold back
  have hc0 := h0 i
  have hb0 := h0 (i - 1)
  have ha0 := h0 (i - 2)
  have h10 := h0 (i + 1)
  rcases (show n = 0 ∨ n = 1 ∨ n = 2 ∨ n = 3 ∨ n = 4 by omega) with rfl | rfl | rfl | rfl | rfl
  · rw [if_neg (by omega)] at hb
    rw [show 8 * k / 5 = i - 1 by omega, show i - 1 + 1 = i by omega, show i - 1 + 2 = i + 1 by omega, show 7 - 8 * k % 5 = 5 by omega, ← hc, ← hb]; omega
  · rw [if_neg (by omega)] at hb
    rw [show 8 * k / 5 = i - 1 by omega, show i - 1 + 1 = i by omega, show i - 1 + 2 = i + 1 by omega, show 7 - 8 * k % 5 = 6 by omega, ← hc, ← hb]; omega
  · rw [if_neg (by omega)] at hb
    rw [show 8 * k / 5 = i - 1 by omega, show i - 1 + 1 = i by omega, show i - 1 + 2 = i + 1 by omega, show 7 - 8 * k % 5 = 7 by omega, ← hc, ← hb]; omega
  · rw [if_neg (by omega)] at hb ha
    rw [show 8 * k / 5 = i - 2 by omega, show i - 2 + 1 = i - 1 by omega, show i - 2 + 2 = i by omega, show 7 - 8 * k % 5 = 3 by omega, ← hc, ← hb, ← ha]; omega
  · rw [if_neg (by omega)] at hb ha
    rw [show 8 * k / 5 = i - 2 by omega, show i - 2 + 1 = i - 1 by omega, show i - 2 + 2 = i by omega, show 7 - 8 * k % 5 = 4 by omega, ← hc, ← hb, ← ha]; omega
end Go.Proofs.YtdhghaiifeienaaGreatDoor

/- Bytes as letters (package base): Text, by a builder of its own. -/
set_option linter.unusedVariables false
set_option linter.unusedSimpArgs false
namespace Go.Proofs.YtdhghaiifeienaaGreatDoor
open Go.RowKit Go.Proofs.YtdhghaiifeienaaGreatDoorW.PrintWords

theorem und_bptr : Tryz.prog.underlying 239 = some (.pointer 241) := by kernel_rfl
theorem und_unsafe : Tryz.prog.underlying 277 = some .unsafePointer := by kernel_rfl
theorem size_bld : (Tryz.prog.info? 241).map (·.size) = some 2 := by kernel_rfl
theorem lies_bld : liesAt Tryz.prog Tryz.prog.depth 241 (2 / Tryz.prog.cellsOf 241) 0 241 1 = true := by kernel_rfl

set_option maxRecDepth 100000 in
theorem copy_used (b : Nat) (w : World) (h0 : w.cell? ⟨b, 0, none⟩ = some (.pointer (some ⟨b, 0, none⟩))) :
    Calls Tryz.prog 215 #[.pointer (some ⟨b, 0, none⟩)] w fun e w' => e = .returned (.tuple #[]) ∧ w' = w := by
  obtain ⟨j, hj, _⟩ := Option.map_eq_some_iff.1 size_bld
  go_enter Tryz.func215, Tryz.ntmps215
  go_wp2
  rw [Lib.run_neq_ptr_same w _ und_bptr hj]
  go_wp2
  go_end0
  exact ⟨rfl, rfl⟩

set_option maxRecDepth 100000 in
set_option maxHeartbeats 1000000 in
theorem copy_fresh (b : Nat) (w : World) (h0 : w.cell? ⟨b, 0, none⟩ = some (.pointer none)) (hsh : w.shape? b = some (241, 2)) (hfz : w.frozen? ⟨b, 0, none⟩ = false) :
    Calls Tryz.prog 215 #[.pointer (some ⟨b, 0, none⟩)] w fun e w' => e = .returned (.tuple #[]) ∧ w' = w.setCell ⟨b, 0, none⟩ (.pointer (some ⟨b, 0, none⟩)) := by
  obtain ⟨j, hj, hjs⟩ := Option.map_eq_some_iff.1 size_bld
  go_enter Tryz.func215, Tryz.ntmps215
  go_wp2
  rw [Lib.run_to_unsafe w ⟨b, 0, none⟩ und_bptr und_unsafe hj (by rw [hjs]; decide) hsh (Nat.zero_lt_succ 1)]
  simp only [Result.andThen]
  rw [Oper.upon_value]
  go_wp2
  rw [run_callFunc_extern Tryz.func226 (by kernel_rfl) (by kernel_rfl) (by kernel_rfl) (e := Extern.AbiNoEscape.same) (by kernel_rfl)]
  rw [Lib.run_noEscape]
  simp only [Result.andThen]
  rw [Oper.upon_value]
  go_wp2
  rw [Lib.run_from_unsafe w ⟨b, 0, none⟩ und_unsafe und_bptr hj hsh lies_bld]
  simp only [Result.andThen]
  rw [Oper.upon_value]
  go_wp2
  go_end0
  exact ⟨rfl, rfl⟩
abbrev IsB (w0 : World) (b : Nat) (l : List UInt8) (w : World) : Prop := Lib.IsBuilder 241 5 w0.heap.size b (Lib.byteCells l) w
theorem copy_any (B b : Nat) (bs : List Value) (w : World) (h : Lib.IsBuilder 241 5 B b bs w) :
    Calls Tryz.prog 215 #[.pointer (some ⟨b, 0, none⟩)] w fun e w' => e = .returned (.tuple #[]) ∧ (Lib.BuilderAt 241 5 B b (.pointer (some ⟨b, 0, none⟩)) bs w' ∧ Below B w w') := by
  rcases h with h | h
  · refine (copy_fresh b w h.cell0 h.shape h.frozen0).mono ?_
    rintro e w' ⟨rfl, rfl⟩
    exact ⟨rfl, h.used _, (Below.refl B w).setCell (p := ⟨b, 0, none⟩) h.1 _⟩
  · refine (copy_used b w h.cell0).mono ?_
    rintro e w' ⟨rfl, rfl⟩
    exact ⟨rfl, h, Below.refl B _⟩
set_option maxRecDepth 100000 in
set_option maxHeartbeats 2000000 in
theorem write_byte (B b : Nat) (bs : List Value) (c : Int) (w : World) (h : Lib.IsBuilder 241 5 B b bs w) (hlen : bs.length + 1 ≤ 140737488355328) (hBw : B ≤ w.heap.size) :
    Calls Tryz.prog 185 #[.pointer (some ⟨b, 0, none⟩), .int .u8 c] w fun e w' => e = .returned .nilIface ∧ Lib.IsBuilder 241 5 B b (bs ++ [.int .u8 c]) w' ∧ Below B w w' := by
  obtain ⟨i0, hi, hz0, hz1, hz2⟩ := info_parts info_u8
  go_enter Tryz.func185, Tryz.ntmps185
  go_wp2_with (go_at_call 215; refine (copy_any B b bs _ h).mono ?_)
  rintro e w1 ⟨rfl, h1, hb1⟩
  obtain ⟨hB, v, hbk, hown, hne⟩ := h1
  have c0 : w1.cell? ⟨b, 0, none⟩ = some (.pointer (some ⟨b, 0, none⟩)) := by rw [Lib.cell_of_heap hbk]; rfl
  have c1 : w1.cell? ⟨b, 1, none⟩ = some v := by rw [Lib.cell_of_heap hbk]; rfl
  go_wp2_with (at_builtin; refine wpList_append_own _ rfl _ _ 42 rfl B 5 i0 (.int .u8 0) 1 1 und_bytes hi hz0 hz1 hz2 rfl (by decide) _ _ _ rfl (hown.alloc _) ⟨w1.heap.size, 0, none⟩ 1 1 [.int .u8 c] rfl rfl ?c1 ?c2 ?c3 ?c4 ?c5 ?_)
  case c1 =>
    intro j u hj
    match j, hj with
    | 0, hj => simp at hj; subst hj; simp [Addr.add]
  case c2 => intro u hu; simp at hu; subst hu; rfl
  case c3 => unfold maxLen; omega
  case c4 => omega
  case c5 => have := hb1.size; simp; omega
  intro v' w2 hown' hgrow _
  have hlt : b < w1.heap.size := by
    rcases Nat.lt_or_ge b w1.heap.size with h' | h'
    · exact h'
    · simp [Array.getElem?_eq_none h'] at hbk
  have hb2 : w2.heap[b]? = some (.cells #[.pointer (some ⟨b, 0, none⟩), v] 241 (0, 0)) := by
    rw [hgrow.block b (by simp; omega) (fun e => hne e.symm), Lib.alloc_old w1 _ b hlt]
    exact hbk
  have d0 : w2.cell? ⟨b, 0, none⟩ = some (.pointer (some ⟨b, 0, none⟩)) := by rw [Lib.cell_of_heap hb2]; rfl
  have d1 : w2.cell? ⟨b, 1, none⟩ = some v := by rw [Lib.cell_of_heap hb2]; rfl
  have f1 : w2.frozen? ⟨b, 1, none⟩ = false := Lib.frozen_of_heap hb2 1
  obtain ⟨g, cap, rfl⟩ : ∃ g cap, v' = .slice (some ⟨g, 0, none⟩) (bs.length + 1) cap := by
    rcases hown'.2 with ⟨_, h0⟩ | ⟨g, cap, cur, hv, _⟩
    · omega
    · exact ⟨g, cap, hv⟩
  go_wp2
  go_ret
  refine ⟨rfl, .inr ?_, ?_⟩
  · exact Lib.BuilderAt.put (T := 241) (e := 5) hB hb2 (bs' := bs ++ [.int .u8 c]) (by simpa using hown') (by decide)
  · exact ((hb1.alloc (by have := hb1.size; omega) _).grown hgrow (by have := hb1.size; simp; omega) (fun k hk => (hown.lt k hk).1)).setCell (p := ⟨b, 1, none⟩) hB _
theorem byteCells_snoc (l : List UInt8) (c : UInt8) : Lib.byteCells (l ++ [c]) = Lib.byteCells l ++ [.int .u8 (c.toNat : Int)] := by simp [Lib.byteCells]
theorem u64_or_byte (x b : Int) (hx : 0 ≤ x) (hb : 0 ≤ b ∧ b < 256) : Go.bits .or .u64 (x * 256 % 18446744073709551616) b = x * 256 % 18446744073709551616 + b := by
  obtain ⟨n, hn⟩ := Int.eq_ofNat_of_zero_le (show 0 ≤ x * 256 % 18446744073709551616 by omega)
  obtain ⟨m, rfl⟩ := Int.eq_ofNat_of_zero_le hb.1
  rw [hn, Go.bits_or_u64_nat n m (by omega) (by omega)]
  have h256 : n % 256 = 0 := by omega
  have e : n = (n / 256) <<< 8 := by rw [Nat.shiftLeft_eq]; omega
  have h2 := Nat.shiftLeft_add_eq_or_of_lt (i := 8) (b := m) (by omega) (n / 256)
  rw [← e] at h2
  omega
theorem u64_and31 (x : Int) (hx : 0 ≤ x ∧ x < 18446744073709551616) : Go.bits .and .u64 x 31 = x % 32 := by
  obtain ⟨n, rfl⟩ := Int.eq_ofNat_of_zero_le hx.1
  have h := Go.bits_and_u64_nat n 31 (by omega) (by omega)
  rw [show ((31 : Nat) : Int) = 31 from rfl] at h
  rw [h]
  have : n &&& 31 = n % 32 := Nat.and_two_pow_sub_one_eq_mod n 5
  rw [this]
  omega
end Go.Proofs.YtdhghaiifeienaaGreatDoor

/- Bytes as letters (package base): Text. -/
set_option linter.unusedVariables false
set_option linter.unusedSimpArgs false
namespace Go.Proofs.YtdhghaiifeienaaGreatDoor
open Go.RowKit Go.Proofs.YtdhghaiifeienaaGreatDoorW.PrintWords

theorem idx_let (c : Nat) (hc : c < 32) (W : World) : (Instr.index 9 (.string { data := #[48, 49, 50, 51, 52, 53, 54, 55, 56, 57, 97, 98, 99, 100, 102, 103, 104, 105, 106, 107, 108, 109, 110, 112, 113, 114, 115, 118, 119, 120, 121, 122] }) (.int .u64 (c : Int))).run Tryz.prog W = .ok (.int .u8 ((lets.getD c 0).toNat : Int)) W := by
  have h : (⟨#[48, 49, 50, 51, 52, 53, 54, 55, 56, 57, 97, 98, 99, 100, 102, 103, 104, 105, 106, 107, 108, 109, 110, 112, 113, 114, 115, 118, 119, 120, 121, 122]⟩ : ByteArray)[c]? = some (lets.getD c 0) := by
    have : ∀ d : Fin 32, (⟨#[48, 49, 50, 51, 52, 53, 54, 55, 56, 57, 97, 98, 99, 100, 102, 103, 104, 105, 106, 107, 108, 109, 110, 112, 113, 114, 115, 118, 119, 120, 121, 122]⟩ : ByteArray)[d.val]? = some (lets.getD d.val 0) := by decide +kernel
    exact this ⟨c, hc⟩
  have h0 : (0 : Int) ≤ (c : Int) := by omega
  simp [Instr.index, asIntOf, run_underlying und_str, h]
def prv (p : List Int) (j : Nat) : Int := if j = 0 then 0 else p.getD (j - 1) 0
/-- The letter that is laid. -/
theorem chunk_step (p : List Int) (hb : Bys p) (j k m : Nat) (bits x b : Int) (hbb : b = p.getD j 0) (hx : x % 4096 = bits % 16 * 256 + b) (hbits : bits % 16 = prv p j % 16) (h : 5 * k + 5 + m = 8 * (j + 1)) (hm : m < 8) (h0 : 0 ≤ x) : (x / 2 ^ m) % 32 = ((chunk p k).toNat : Int) := by
  have hc := chunk_late p k j m b (prv p j) hbb rfl h hm (hb.get _) (by rw [hbb]; exact hb.get _)
  have hr := chunk_range p k
  rw [Int.toNat_of_nonneg hr.1, hc]
  rcases (show m = 0 ∨ m = 1 ∨ m = 2 ∨ m = 3 ∨ m = 4 ∨ m = 5 ∨ m = 6 ∨ m = 7 by omega) with rfl | rfl | rfl | rfl | rfl | rfl | rfl | rfl <;> omega
set_option maxRecDepth 100000 in
set_option maxHeartbeats 4000000 in
theorem base_Text (w : World) (A : Option Addr) (c : Nat) (p : List Int) (hp : (Kd.int .u8).C w A p.length p) (hb : Bys p) (hl : p.length ≤ 1000) (h5 : p.length % 5 = 0) :
    Calls Tryz.prog 152 #[.slice A p.length c] w fun e w' => e = .returned (.string ⟨(txt p (8 * p.length / 5)).toArray⟩) ∧ Below w.heap.size w w' := by
  have HP := Lib.hid hp
  have HB := Lib.hid hb
  have HL := Lib.hid (And.intro hl h5)
  clear hp hb hl h5
  have idx := idx_let
  replace idx := Lib.hid idx
  go_enter Tryz.func152, Tryz.ntmps152
  go_wp2
  go_loopg [4, 5, 10] p.length (fun n v4 v5 v10 w' => ∃ (j k : Nat) (bits m : Int), v4 = .int .u64 bits ∧ v5 = .int .i64 m ∧ v10 = .int .i64 (j : Int) ∧ Hid (n + j = p.length ∧ 5 * (k : Int) + m = 8 * (j : Int) ∧ 0 ≤ m ∧ m < 5 ∧ 0 ≤ bits ∧ bits % 16 = prv p j % 16 ∧ IsB w w.heap.size (txt p k) w' ∧ Below w.heap.size w w'))
  case atStart => exact ⟨0, 0, 0, 0, rfl, rfl, rfl, by omega, by omega, by omega, by omega, by omega, by simp [prv], Lib.fresh_isBuilder _ _ w, by go_grown⟩
  case round =>
    obtain ⟨j, k, bits, m, rfl, rfl, rfl, hrel⟩ := hrel
    obtain ⟨hn, hk, hm0, hm5, hb0, hbits, hI, hB⟩ := hrel.out
    clear hrel
    rcases Nat.lt_or_ge j p.length with hj | hj
    · obtain ⟨ad, rfl, d0⟩ := Kd.at_int (Kd.C_below HP.out hB) (j : Int) (by omega) (by omega)
      rw [Int.toNat_natCast] at d0
      obtain ⟨b, hbb⟩ : ∃ b, b = rd p (j : Int) := ⟨_, rfl⟩
      rw [← hbb] at d0
      have hbr : 0 ≤ b ∧ b < 256 := by rw [hbb]; exact HB.out.get _
      have e1 := u64_or_byte bits b hb0 hbr
      obtain ⟨x, hx⟩ : ∃ x, x = bits * 256 % 18446744073709551616 + b := ⟨_, rfl⟩
      rw [← hx, ← Go.IntKind.wrap_u64] at e1
      have q0 : ((j : Int) < (p.length : Int)) = True := eq_true (by omega)
      obtain ⟨G, hG⟩ : ∃ G, G = gk := ⟨_, rfl⟩
      have h0b : 0 ≤ b := hbr.1
      have h1b : b < 256 := hbr.2
      have hx0 : 0 ≤ x := by omega
      have hx1 : x < 18446744073709551616 := by omega
      have HX := Lib.hid (And.intro hx (And.intro hbb (And.intro hG (And.intro hn (And.intro hk hbits)))))
      have HI := Lib.hid (And.intro hI hB)
      clear hx hbb hG hn hbits hI hB hbr hk
      go_wp2
      clear e1 q0
      go_loopg [5] (m + 8).toNat (fun n v5 w' => ∃ (k : Nat) (m : Int), v5 = .int .i64 m ∧ Hid (n = m.toNat ∧ 5 * (k : Int) + m = 8 * ((j : Int) + 1) ∧ 0 ≤ m ∧ m ≤ 12 ∧ IsB w w.heap.size (txt p k) w' ∧ Below w.heap.size w w'))
      case atStart => exact ⟨k, m + 8, rfl, rfl, by have := HX.out.2.2.2.2.1; omega, by omega, by omega, HI.out⟩
      case round =>
        clear hm0 hm5
        obtain ⟨k', m', rfl, hrel⟩ := hrel
        obtain ⟨hn', hk', hm0, hm12, hI', hB'⟩ := hrel.out
        clear hrel
        by_cases hm : m' < 5
        · have HR := Lib.hid (And.intro hk' (And.intro hI' hB'))
          clear hn' hk' hI' hB'
          have q1 : decide (5 ≤ m') = false := decide_eq_false (by omega)
          go_wp2
          go_roundg (G - 1)
          case measure => have h1 := HX.out.2.2.1; have h2 := HX.out.2.2.2.1; omega
          case rel =>
            obtain ⟨hx, hbb, hG, hn, hk, hbits⟩ := HX.out
            obtain ⟨hk', hI', hB'⟩ := HR.out
            refine ⟨j + 1, k', x, m', rfl, rfl, congrArg (Value.int .i64) (by unfold wrap64; have := HL.out.1; omega), by omega, by omega, hm0, hm, hx0, ?_, hI', hB'⟩
            have e : prv p (j + 1) = b := by rw [hbb]; simp [prv, rd]
            rw [e]
            omega
        · obtain ⟨n, rfl⟩ : ∃ n : Nat, m' = (n : Int) + 5 := ⟨(m' - 5).toNat, by omega⟩
          have hcs := chunk_step p HB.out j k' n bits x b (by rw [HX.out.2.1]; simp [rd]) (by have := HX.out.1; omega) HX.out.2.2.2.2.2 (by omega) (by omega) hx0
          obtain ⟨c', hc'⟩ : ∃ c', c' = (chunk p k').toNat := ⟨_, rfl⟩
          have hc32 : c' < 32 := by have := chunk_range p k'; omega
          rw [← hc'] at hcs
          have e2 := u64_and31 (x / 2 ^ n) (by
            rcases (show n = 0 ∨ n = 1 ∨ n = 2 ∨ n = 3 ∨ n = 4 ∨ n = 5 ∨ n = 6 ∨ n = 7 by omega) with rfl | rfl | rfl | rfl | rfl | rfl | rfl | rfl <;> omega)
          rw [hcs] at e2
          have hidx := idx.out c' hc32
          have HR := Lib.hid (And.intro hn' (And.intro hk' (And.intro hI' (And.intro hB' hc'))))
          clear hcs hn' hk' hI' hB' hc'
          have hn8 : n < 8 := by omega
          clear hm0 hm12 hm
          rcases (show n = 0 ∨ n = 1 ∨ n = 2 ∨ n = 3 ∨ n = 4 ∨ n = 5 ∨ n = 6 ∨ n = 7 by omega) with rfl | rfl | rfl | rfl | rfl | rfl | rfl | rfl
          all_goals
            simp only [Int.reducePow, Int.ediv_one] at e2
            go_wp2_with (go_at_call 185; (with_reducible refine (write_byte w.heap.size w.heap.size _ _ _ HR.out.2.2.1 ?hlen ?hBw).mono ?_); (case hlen => rw [show (Lib.byteCells (txt p k')).length = k' by simp [Lib.byteCells, txt_len]]; have := HR.out.2.1; have := HX.out.2.2.2.1; have := HL.out.1; omega); (case hBw => exact below_size HR.out.2.2.2.1); rintro e w' ⟨rfl, hI2, hB2⟩)
            clear e2 hidx
            go_roundg (gk - 5)
            case measure => have h1 := HR.out.1; omega
            case rel =>
              obtain ⟨hn', hk', hI', hB', hc'⟩ := HR.out
              refine ⟨k' + 1, _, rfl, by omega, by omega, by omega, by omega, ?_, hB'.trans (hB2.mono (Nat.le_refl _))⟩
              unfold IsB
              rw [txt_succ, byteCells_snoc, ← hc']
              exact hI2
    · obtain rfl : j = p.length := by omega
      obtain ⟨hl, h5⟩ := HL.out
      obtain rfl : m = 0 := by omega
      have hk8 : k = 8 * p.length / 5 := by omega
      have HI := Lib.hid (And.intro hk8 (And.intro hI hB))
      clear hn hk hm0 hm5 hbits hI hB hl h5 hk8
      go_wp2_with (go_at_call 186; (with_reducible refine (Tryz.Builder_String_any w.heap.size w.heap.size (txt p k) _ HI.out.2.1 ?hBw).mono ?_); (case hBw => exact below_size HI.out.2.2); rintro e w' ⟨rfl, hB3⟩)
      go_returns
      exact ⟨congrArg (fun n => Ending.returned (.string ⟨(txt p n).toArray⟩)) HI.out.1, HI.out.2.2.trans hB3⟩
end Go.Proofs.YtdhghaiifeienaaGreatDoor

/- The document's letters (godownref03.Text), its names (godownref07.Right), and the program's (name.Right). -/
set_option linter.unusedVariables false
set_option linter.unusedSimpArgs false
namespace Go.Proofs.YtdhghaiifeienaaGreatDoor
open Go.RowKit Go.Proofs.YtdhghaiifeienaaGreatDoorW.PrintWords PClaimPlays

theorem r02_tabs : godownref02_New.f 20000 = some (first0, keys0) := by decide +kernel

/-! ### godownref03.Text -/
theorem bit_val (p : List Int) (hb : Bys p) (n : Nat) (h : n < 8 * p.length) (hl : p.length ≤ 1000) : godownref03_bit.f p (n : Int) = some (bitI p n) := by
  have e1 : wrap64 (Int.tdiv (n : Int) 8) = ((n / 8 : Nat) : Int) := by
    rw [Int.tdiv_eq_ediv_of_nonneg (by omega)]; unfold wrap64; omega
  have e2 : wrap64 (7 - Int.tmod (n : Int) 8) = ((7 - n % 8 : Nat) : Int) := by
    rw [Int.tmod_eq_emod_of_nonneg (by omega)]; unfold wrap64; omega
  have hr := hb.get (n / 8)
  unfold godownref03_bit.f
  rw [e1, e2, if_neg (by omega), if_pos (by omega), if_pos (by omega), if_pos (by omega)]
  unfold shr bitI
  have e3 : rd p ((n / 8 : Nat) : Int) = p.getD (n / 8) 0 := by unfold rd; rw [Int.toNat_natCast]
  rw [e3]
  have e4 : min ((7 - n % 8 : Nat) : Int).toNat IntKind.u8.bits = 7 - n % 8 := by
    rw [Int.toNat_natCast]; exact Nat.min_eq_left (by simp only [IntKind.bits]; omega)
  rw [e4]
  have h2 : 0 ≤ p.getD (n / 8) 0 / 2 ^ (7 - n % 8) ∧ p.getD (n / 8) 0 / 2 ^ (7 - n % 8) < 256 := by
    generalize p.getD (n / 8) 0 = x at hr
    rcases (show 7 - n % 8 = 0 ∨ 7 - n % 8 = 1 ∨ 7 - n % 8 = 2 ∨ 7 - n % 8 = 3 ∨ 7 - n % 8 = 4 ∨ 7 - n % 8 = 5 ∨ 7 - n % 8 = 6 ∨ 7 - n % 8 = 7 by omega) with e | e | e | e | e | e | e | e <;> rw [e] <;> omega
  generalize p.getD (n / 8) 0 / 2 ^ (7 - n % 8) = y at h2
  congr 1
  rw [show wrap64 y = y by unfold wrap64; omega, Int.tmod_eq_emod_of_nonneg h2.1]
def txtI (p : List Int) (n : Nat) : List Int := (txt p n).map (fun x => (x.toNat : Int))
theorem txtI_len (p : List Int) (n : Nat) : (txtI p n).length = n := by simp [txtI, txt_len]
theorem txtI_succ (p : List Int) (n : Nat) : txtI p (n + 1) = txtI p n ++ [((lets.getD (chunk p n).toNat 0).toNat : Int)] := by simp [txtI, txt_succ]
theorem strOf_txtI (p : List Int) (n : Nat) : strOfNums (txtI p n) = ⟨(txt p n).toArray⟩ := by
  unfold strOfNums txtI
  rw [List.map_map]
  have : (fun (m : Int) => UInt8.ofNat m.toNat) ∘ (fun (x : UInt8) => (x.toNat : Int)) = id := by
    funext x; simp
  rw [this, List.map_id]
theorem lets_bt : ∀ c : Fin 32, bt (⟨#[48, 49, 50, 51, 52, 53, 54, 55, 56, 57, 97, 98, 99, 100, 102, 103, 104, 105, 106, 107, 108, 109, 110, 112, 113, 114, 115, 118, 119, 120, 121, 122]⟩ : ByteArray) (c.val : Int) = ((lets.getD c.val 0).toNat : Int) := by decide +kernel
theorem text_letter (p : List Int) (hb : Bys p) (i : Nat) (hi : 5 * i + 5 ≤ 8 * p.length) (hl : p.length ≤ 1000) (k : Nat) (x3 : List Int) (h3 : x3.length ≤ 2000) :
    godownref03_Text.l1 (k + 6) p x3 ((5 * i : Nat) : Int) 0 0 = godownref03_Text.l0 k p (x3 ++ [((lets.getD (chunk p i).toNat 0).toNat : Int)]) ((5 * (i + 1) : Nat) : Int) := by
  have hc := chunk_bits p i (fun j => hb.get j)
  have hr := chunk_range p i
  have hbit : ∀ j, 0 ≤ bitI p j ∧ bitI p j < 2 := fun j => by unfold bitI; omega
  have b0 := hbit (5 * i)
  have b1 := hbit (5 * i + 1)
  have b2 := hbit (5 * i + 2)
  have b3 := hbit (5 * i + 3)
  have b4 := hbit (5 * i + 4)
  have v0 := bit_val p hb (5 * i) (by omega) hl
  have v1 := bit_val p hb (5 * i + 1) (by omega) hl
  have v2 := bit_val p hb (5 * i + 2) (by omega) hl
  have v3 := bit_val p hb (5 * i + 3) (by omega) hl
  have v4 := bit_val p hb (5 * i + 4) (by omega) hl
  have s : ∀ (k : Nat) (n : Int) (j : Nat), j < 5 → 0 ≤ n → n ≤ 100 → godownref03_bit.f p ((5 * i + j : Nat) : Int) = some (bitI p (5 * i + j)) → godownref03_Text.l1 (k + 1) p x3 ((5 * i : Nat) : Int) n (j : Int) = godownref03_Text.l1 k p x3 ((5 * i : Nat) : Int) (2 * n + bitI p (5 * i + j)) ((j + 1 : Nat) : Int) := by
    intro k n j hj h0 h1 hv
    have hbj := hbit (5 * i + j)
    rw [godownref03_Text.l1, if_pos (by omega), show wrap64 (((5 * i : Nat) : Int) + (j : Int)) = ((5 * i + j : Nat) : Int) by unfold wrap64; omega, hv]
    simp only [Option.bind_some]
    congr 1
    · unfold wrap64; omega
    · unfold wrap64; omega
  have s0 := s (k + 5) 0 0 (by omega) (by omega) (by omega) v0
  have s1 := s (k + 4) (2 * 0 + bitI p (5 * i)) 1 (by omega) (by omega) (by omega) v1
  have s2 := s (k + 3) (2 * (2 * 0 + bitI p (5 * i)) + bitI p (5 * i + 1)) 2 (by omega) (by omega) (by omega) v2
  have s3 := s (k + 2) (2 * (2 * (2 * 0 + bitI p (5 * i)) + bitI p (5 * i + 1)) + bitI p (5 * i + 2)) 3 (by omega) (by omega) (by omega) v3
  have s4 := s (k + 1) (2 * (2 * (2 * (2 * 0 + bitI p (5 * i)) + bitI p (5 * i + 1)) + bitI p (5 * i + 2)) + bitI p (5 * i + 3)) 4 (by omega) (by omega) (by omega) v4
  simp only [Nat.add_zero, Int.natCast_zero] at s0
  rw [show k + 6 = k + 5 + 1 from rfl]
  refine s0.trans (s1.trans (s2.trans (s3.trans (s4.trans ?_))))
  rw [← hc, godownref03_Text.l1, if_neg (by omega), if_pos hr.1, if_pos hr.2, if_pos (by omega)]
  have hl := lets_bt ⟨(chunk p i).toNat, by omega⟩
  simp only [Int.toNat_of_nonneg hr.1] at hl
  rw [hl, show wrap64 (((5 * i : Nat) : Int) + 5) = ((5 * (i + 1) : Nat) : Int) by unfold wrap64; omega]
theorem text_all (p : List Int) (hb : Bys p) (hl : p.length = 20) : ∀ d i, i + d = 32 → godownref03_Text.l0 (7 * d + 1) p (txtI p i) ((5 * i : Nat) : Int) = some (strOfNums (txtI p 32))
  | 0, i, h => by
    obtain rfl : i = 32 := by omega
    rw [godownref03_Text.l0, if_neg (by rw [hl]; unfold wrap64; omega)]
  | d + 1, i, h => by
    rw [show 7 * (d + 1) + 1 = 7 * d + 1 + 6 + 1 by omega, godownref03_Text.l0, if_pos (by rw [hl]; unfold wrap64; omega), text_letter p hb i (by omega) (by omega) (7 * d + 1) _ (by rw [txtI_len]; omega), ← txtI_succ]
    exact text_all p hb hl d (i + 1) (by omega)
theorem r03_Text (w : World) (A : Option Addr) (c : Nat) (p : List Int) (hp : (Kd.int .u8).C w A p.length p) (hc : p.length ≤ c) (hb : Bys p) (hl : p.length = 20) :
    Calls Tryz.prog 88 #[.slice A p.length c] w fun e w' => e = .returned (.string ⟨(txt p 32).toArray⟩) ∧ Below w.heap.size w w' := by
  have h := text_all p hb hl 32 0 rfl
  rw [strOf_txtI] at h
  exact godownref03_Text.calls 225 A c p _ w hp hc h

/-! ### names -/
def nameSet : List UInt8 := [97, 98, 99, 100, 101, 102, 103, 104, 105, 106, 107, 108, 109, 110, 111, 112, 113, 114, 115, 116, 117, 118, 119, 120, 121, 122, 48, 49, 50, 51, 52, 53, 54, 55, 56, 57, 43, 45, 46, 95]
def right (s : ByteArray) : Bool := decide (1 ≤ s.size) && decide (s.size ≤ 40) && !(bt s 0 == 46) && s.data.toList.all (nameSet.contains ·)

def okc (c : Int) : Bool := (decide (97 ≤ c) && decide (c ≤ 122)) || (decide (48 ≤ c) && decide (c ≤ 57)) || c == 43 || c == 45 || c == 46 || c == 95
theorem okc_set : ∀ b : UInt8, nameSet.contains b = okc (b.toNat : Int) := by
  have h : ∀ n : Fin 256, nameSet.contains (UInt8.ofNat n.val) = okc ((n.val : Nat) : Int) := by decide +kernel
  intro b
  have := h ⟨b.toNat, b.toNat_lt⟩
  simpa using this
theorem right_step (k : Nat) (s : ByteArray) (i : Nat) (hs : s.size ≤ 1000) : godownref07_Right.l0 (k + 1) s (i : Int) = if i < s.size then (if okc (bt s (i : Int)) = true then godownref07_Right.l0 k s ((i + 1 : Nat) : Int) else some false) else some true := by
  rw [godownref07_Right.l0]
  by_cases hi : i < s.size
  · rw [if_pos (by omega), if_pos (by omega), if_pos hi, show wrap64 ((i : Int) + 1) = ((i + 1 : Nat) : Int) by unfold wrap64; omega]
    generalize bt s (i : Int) = c
    unfold okc
    simp only [Bool.or_eq_true, Bool.and_eq_true, decide_eq_true_eq, beq_iff_eq]
    repeat' split
    all_goals first | rfl | (exfalso; omega) | (simp_all; done) | (simp_all; omega)
  · rw [if_neg (by omega), if_neg hi]
theorem data_drop (s : ByteArray) (i : Nat) (hi : i < s.size) : s.data.toList.drop i = (s[i]'hi) :: s.data.toList.drop (i + 1) := by
  rw [List.drop_eq_getElem_cons (by rw [data_length]; exact hi)]
  rfl
theorem right_all (s : ByteArray) (hs : s.size ≤ 1000) : ∀ d i, i + d = s.size → godownref07_Right.l0 (d + 1) s (i : Int) = some ((s.data.toList.drop i).all (nameSet.contains ·))
  | 0, i, h => by
    rw [right_step _ _ _ hs, if_neg (by omega), List.drop_eq_nil_of_le (by rw [data_length]; omega)]
    rfl
  | d + 1, i, h => by
    have hi : i < s.size := by omega
    rw [right_step _ _ _ hs, if_pos hi, data_drop s i hi, List.all_cons, okc_set]
    have hb := bt_at s (i : Int) (by rw [Int.toNat_natCast]; exact hi)
    simp only [Int.toNat_natCast] at hb
    rw [hb]
    by_cases hc : okc (bt s (i : Int)) = true
    · rw [if_pos hc, hc, Bool.true_and]
      exact right_all s hs d (i + 1) (by omega)
    · rw [if_neg hc, show okc (bt s (i : Int)) = false by simpa using hc, Bool.false_and]
theorem r07_right_val (s : ByteArray) (hs : s.size ≤ 1000000) : ∃ k, godownref07_Right.f k s = some (right s) := by
  refine ⟨s.size + 2, ?_⟩
  unfold godownref07_Right.f right
  by_cases h1 : 1 ≤ s.size
  · by_cases h2 : s.size ≤ 40
    · rw [if_neg (by omega), if_neg (by omega), if_pos (by omega), decide_eq_true h1, decide_eq_true h2, Bool.true_and, Bool.true_and, godownref07_Right.j0]
      cases hb : (bt s 0 == 46)
      · rw [if_neg (by simp)]
        have := right_all s (by omega) s.size 0 (by omega)
        simpa using this
      · simp
    · rw [if_neg (by omega), if_pos (by omega), decide_eq_false h2]
      simp [godownref07_Right.j0]
  · rw [if_pos (by omega), decide_eq_false h1]
    simp [godownref07_Right.j0]
theorem r07_Right (w : World) (s : ByteArray) (hs : s.size ≤ 1000000) : Calls Tryz.prog 83 #[.string s] w fun e w' => e = .returned (.bool (right s)) ∧ Drawn0 w w' := by
  obtain ⟨k, hk⟩ := r07_right_val s hs
  exact godownref07_Right.calls k s _ w hk
/-- strings.Trim at the program's letters. -/
theorem str_trim (w : World) (s : ByteArray) (hs : s.size ≤ 1000000) : Calls Tryz.prog 178 #[.string s, .string { data := #[97, 98, 99, 100, 101, 102, 103, 104, 105, 106, 107, 108, 109, 110, 111, 112, 113, 114, 115, 116, 117, 118, 119, 120, 121, 122, 48, 49, 50, 51, 52, 53, 54, 55, 56, 57, 43, 45, 46, 95] }] w fun e w' => e = .returned (.string ⟨(Lib.trimS s.data.toList nameSet).toArray⟩) ∧ Below w.heap.size w w' :=
  Any.strings_Trim_laid Tryz.trimL (by kernel_rfl) s { data := #[97, 98, 99, 100, 101, 102, 103, 104, 105, 106, 107, 108, 109, 110, 111, 112, 113, 114, 115, 116, 117, 118, 119, 120, 121, 122, 48, 49, 50, 51, 52, 53, 54, 55, 56, 57, 43, 45, 46, 95] } w (by omega) (by decide) (ascii_of_all (by decide))
theorem dw_nil {α : Type} (p : α → Bool) (l : List α) : l.dropWhile p = [] ↔ ∀ x ∈ l, p x = true := by
  induction l with
  | nil => simp
  | cons a l ih =>
    rw [List.dropWhile_cons]
    cases h : p a <;> simp [h, ih]
theorem trim_nil (l cs : List UInt8) : Lib.trimS l cs = [] ↔ l.all (cs.contains ·) = true := by
  unfold Lib.trimS Lib.trimLeftS Lib.trimRightS
  rw [dw_nil, List.all_eq_true]
  constructor
  · intro h
    cases hd : l.reverse.dropWhile (cs.contains ·) with
    | nil =>
      rw [dw_nil] at hd
      exact fun x hx => hd x (List.mem_reverse.2 hx)
    | cons y ys =>
      have h1 := h y (by rw [hd]; simp)
      have h2 := List.head?_dropWhile_not (cs.contains ·) l.reverse
      rw [hd] at h2
      simp at h2
      exact absurd (by simpa using h1) h2
  · intro h x hx
    have : x ∈ l := by
      have h1 := List.mem_reverse.1 hx
      exact List.mem_reverse.1 ((List.dropWhile_sublist _).subset h1)
    exact h x this
set_option maxRecDepth 20000 in
theorem name_Right (w : World) (s : ByteArray) (hs : s.size ≤ 1000000) : Calls Tryz.prog 147 #[.string s] w fun e w' => e = .returned (.bool (right s)) ∧ Below w.heap.size w w' := by
  by_cases h1 : 1 ≤ s.size
  · by_cases h2 : s.size ≤ 40
    · have hb := bt_at s 0 (by simp; omega)
      simp only [Int.toNat_zero] at hb
      have d1 : decide (1 ≤ (s.size : Int)) = true := decide_eq_true (by omega)
      have d2 : decide ((s.size : Int) ≤ 40) = true := decide_eq_true (by omega)
      cases hc : (bt s 0 == 46)
      · cases ha : s.data.toList.all (nameSet.contains ·)
        · have hr : right s = false := by unfold right; rw [ha, Bool.and_false]
          obtain ⟨y, ys, hy⟩ : ∃ y ys, Lib.trimS s.data.toList nameSet = y :: ys := by
            cases ht : Lib.trimS s.data.toList nameSet with
            | nil => rw [(trim_nil _ _).1 ht] at ha; cases ha
            | cons y ys => exact ⟨y, ys, rfl⟩
          have HR := Lib.hid hr
          have HT := str_trim w s hs
          rw [hy] at HT
          replace HT := Lib.hid HT
          have hc' : (bt s 0 != 46) = true := by rw [bne, hc]; rfl
          clear hr ha hc hy
          go_enter Tryz.func147, Tryz.ntmps147
          go_wp2_with (go_at_call 178; (with_reducible refine HT.out.mono ?_); rintro e w' ⟨rfl, hbl⟩)
          go_returns
          exact ⟨by rw [HR.out]; rfl, hbl⟩
        · have hr : right s = true := by unfold right; rw [decide_eq_true h1, decide_eq_true h2, hc, ha]; rfl
          have ht := (trim_nil _ _).2 ha
          have HR := Lib.hid hr
          have HT := str_trim w s hs
          rw [ht] at HT
          replace HT := Lib.hid HT
          have hc' : (bt s 0 != 46) = true := by rw [bne, hc]; rfl
          clear hr ht ha hc
          go_enter Tryz.func147, Tryz.ntmps147
          go_wp2_with (go_at_call 178; (with_reducible refine HT.out.mono ?_); rintro e w' ⟨rfl, hbl⟩)
          go_returns
          exact ⟨by rw [HR.out]; rfl, hbl⟩
      · have hr : right s = false := by unfold right; rw [hc, decide_eq_true h1, decide_eq_true h2]; rfl
        have HR := Lib.hid hr
        have hc' : (bt s 0 != 46) = false := by rw [bne, hc]; rfl
        clear hr hc
        go_enter Tryz.func147, Tryz.ntmps147
        go_wp2
        go_returns
        exact ⟨by rw [HR.out]; rfl, Below.refl _ _⟩
    · have hr : right s = false := by unfold right; rw [decide_eq_false h2]; simp
      have HR := Lib.hid hr
      have d1 : decide (1 ≤ (s.size : Int)) = true := decide_eq_true (by omega)
      have d2 : decide ((s.size : Int) ≤ 40) = false := decide_eq_false (by omega)
      clear hr
      go_enter Tryz.func147, Tryz.ntmps147
      go_wp2
      go_returns
      exact ⟨by rw [HR.out]; rfl, Below.refl _ _⟩
  · have hr : right s = false := by unfold right; rw [decide_eq_false h1]; rfl
    have HR := Lib.hid hr
    have d1 : decide (1 ≤ (s.size : Int)) = false := decide_eq_false (by omega)
    clear hr
    go_enter Tryz.func147, Tryz.ntmps147
    go_wp2
    go_returns
    exact ⟨by rw [HR.out]; rfl, Below.refl _ _⟩
end Go.Proofs.YtdhghaiifeienaaGreatDoor

/- Numbers and texts as bytes: package wire's writer, and the document's (godownref04). -/
set_option linter.unusedVariables false
set_option linter.unusedSimpArgs false
namespace Go.Proofs.YtdhghaiifeienaaGreatDoor
open Go.RowKit Go.Proofs.YtdhghaiifeienaaGreatDoorW.PrintWords

/-- How many bytes, and these. -/
def num2 (n : Nat) : List Int := [(n : Int) / 256 % 256, (n : Int) % 256]
def wt (s : ByteArray) : List Int := num2 s.size ++ bytesOf s
def wts (l : List ByteArray) : List Int := [(l.length : Int) % 256] ++ l.flatMap wt
theorem wt_len (s : ByteArray) : (wt s).length = s.size + 2 := by simp [wt, num2, bytesOf_length]
theorem wts_len (l : List ByteArray) : (wts l).length = 1 + (l.map (fun s => s.size + 2)).sum := by
  unfold wts
  rw [List.length_append, List.length_flatMap]
  simp [wt_len]
theorem C_bytesOf (W : World) (e : TypeId) (s : ByteArray) (hs : s.size ≤ 9223372036854775807) : (Kd.int .u8).C (Lib.bytesWorld W e s) (some ⟨W.heap.size, 0, none⟩) s.size (bytesOf s) := by
  have h := bytes_reads W e s hs
  exact Kd.C_of_reads (enc := Value.int .u8) (d := (0 : Int)) (h1 := fun _ => rfl) h

/-- A writer in memory. -/
structure WrAt (w0 w : World) (g : Nat) (xs : List Int) : Prop where
  v : ∃ v, w.heap[g]? = some (.cells #[v] 209 (0, 0)) ∧ Own (Kd.int .u8) 5 w0 w v xs
  lo : w0.heap.size ≤ g
theorem WrAt.lift {w0 w w1 : World} {g : Nat} {xs : List Int} (h : WrAt w0 w g xs) (hb : Below w.heap.size w w1) : WrAt w0 w1 g xs := by
  obtain ⟨⟨v, h1, h2⟩, h3⟩ := h
  exact ⟨⟨v, (hb.block _ (blk_lt h1)).trans h1, h2.lift hb⟩, h3⟩
theorem WrAt.below {w0 w : World} {g : Nat} {xs : List Int} (h : WrAt w0 w g xs) : Below w0.heap.size w0 w := by
  obtain ⟨⟨v, h1, h2⟩, h3⟩ := h
  exact h2.2

theorem wire_lay (w0 w : World) (g : Nat) (xs ys : List Int) (A : Option Addr) (c : Nat) (h : WrAt w0 w g xs) (m : Nat) (hm : ys.length = m) (hC : (Kd.int .u8).C w A m ys) (hl : xs.length + m ≤ 2000000) :
    Calls Tryz.prog 181 #[.pointer (some ⟨g, 0, none⟩), .slice A m c] w fun e w' => e = .returned (.pointer (some ⟨g, 0, none⟩)) ∧ WrAt w0 w' g (xs ++ ys) := by
  subst hm
  obtain ⟨⟨v, hb, ho⟩, hg⟩ := h
  have c0 : w.cell? ⟨g, 0, none⟩ = some v := (blk_cell hb 0).trans rfl
  have HO := Lib.hid (And.intro hb (And.intro ho (And.intro hg (And.intro hC hl))))
  obtain ⟨A1, c1, rfl⟩ := ho.slice
  clear hb ho hg hC hl
  go_enter Tryz.func181, Tryz.ntmps181
  go_wp2_with (at_builtin; refine app_ints (k := .u8) (w0 := w0) rfl (.tmp 11) (.tmp 12) rfl und_bytes info_u8 (by omega) _ xs ys A c rfl rfl HO.out.2.1 HO.out.2.2.2.1 (by have := HO.out.2.2.2.2; omega) ?_; intro v1 w1 ho1 hg1; have e1 := blk_grown HO.out.1 hg1 (Kd.R_ne HO.out.2.1.1 HO.out.1 (by decide)); have HO1 := Lib.hid (And.intro ho1 e1); obtain ⟨A2, c2, rfl⟩ := ho1.slice; have d0 : w1.cell? ⟨g, 0, none⟩ = some (.slice A1 xs.length c1) := (blk_cell e1 0).trans rfl; have f0 := blk_frozen e1 0; clear ho1 hg1 e1)
  rw [List.length_append] at HO1
  go_returns
  refine ⟨rfl, ⟨_, blk_set HO1.out.2 0 _, Kd.R_mono (Kd.R_set HO1.out.1.1 HO1.out.2 (by decide) 0 _) (fun _ _ => trivial), HO1.out.1.2.setCell (p := ⟨g, 0, none⟩) HO.out.2.2.1 _⟩, HO.out.2.2.1⟩

theorem lit2_C (W : World) (a b : Int) : (Kd.int .u8).C (W.alloc (.cells #[.int .u8 a, .int .u8 b] 5)) (some ⟨W.heap.size, 0, none⟩) 2 [a, b] := lit_C .u8 5 W [a, b] (by simp)
theorem lit1_C (W : World) (a : Int) : (Kd.int .u8).C (W.alloc (.cells #[.int .u8 a] 5)) (some ⟨W.heap.size, 0, none⟩) 1 [a] := lit_C .u8 5 W [a] (by simp)

theorem wire_num (w0 w : World) (g : Nat) (xs : List Int) (n : Nat) (h : WrAt w0 w g xs) (hn : n ≤ 1000000) (hl : xs.length ≤ 1000000) :
    Calls Tryz.prog 180 #[.pointer (some ⟨g, 0, none⟩), .int .i64 (n : Int)] w fun e w' => e = .returned (.pointer (some ⟨g, 0, none⟩)) ∧ WrAt w0 w' g (xs ++ num2 n) := by
  have H := Lib.hid (And.intro h hl)
  clear h hl
  go_enter Tryz.func180, Tryz.ntmps180
  go_wp2_with (go_at_call 181; (with_reducible refine (wire_lay w0 _ g xs [(n : Int) / 256 % 256, (n : Int) % 256] _ 2 (H.out.1.lift (below_alloc (Below.refl _ _) _)) 2 rfl (lit2_C _ _ _) (by have := H.out.2; simp; omega)).mono ?_); rintro e w' ⟨rfl, hw⟩)
  go_returns
  exact ⟨rfl, hw⟩
theorem wire_byte (w0 w : World) (g : Nat) (xs : List Int) (n : Int) (h : WrAt w0 w g xs) (hl : xs.length ≤ 1000000) :
    Calls Tryz.prog 184 #[.pointer (some ⟨g, 0, none⟩), .int .u8 n] w fun e w' => e = .returned (.pointer (some ⟨g, 0, none⟩)) ∧ WrAt w0 w' g (xs ++ [n]) := by
  have H := Lib.hid (And.intro h hl)
  clear h hl
  go_enter Tryz.func184, Tryz.ntmps184
  go_wp2_with (go_at_call 181; (with_reducible refine (wire_lay w0 _ g xs [n] _ 1 (H.out.1.lift (below_alloc (Below.refl _ _) _)) 1 rfl (lit1_C _ _) (by have := H.out.2; simp; omega)).mono ?_); rintro e w' ⟨rfl, hw⟩)
  go_returns
  exact ⟨rfl, hw⟩
theorem wire_text (w0 w : World) (g : Nat) (xs : List Int) (s : ByteArray) (h : WrAt w0 w g xs) (hs : s.size ≤ 1000000) (hl : xs.length ≤ 900000) :
    Calls Tryz.prog 149 #[.pointer (some ⟨g, 0, none⟩), .string s] w fun e w' => e = .returned (.pointer (some ⟨g, 0, none⟩)) ∧ WrAt w0 w' g (xs ++ wt s) := by
  have H := Lib.hid (And.intro h hl)
  clear h hl
  have kb := fun W => print_bytes (P := Tryz.prog) 9 42 5 und_str und_bytes Tryz.underlying5 s W
  go_enter Tryz.func149, Tryz.ntmps149
  go_wp2_with (first
    | (go_at_call 180; (with_reducible refine (wire_num w0 _ g xs s.size H.out.1 hs (by have := H.out.2; omega)).mono ?_); rintro e w' ⟨rfl, hw⟩; have HW := Lib.hid hw; clear hw)
    | (go_at_call 181; (with_reducible refine (wire_lay w0 _ g (xs ++ num2 s.size) (bytesOf s) _ _ (HW.out.lift (bytes_below (Below.refl _ _) (Nat.le_refl _) _ _)) s.size (bytesOf_length s) (C_bytesOf _ _ s (by omega)) ?hl).mono ?_); (case hl => have := H.out.2; simp [num2]; omega); rintro e w' ⟨rfl, hw⟩))
  go_returns
  exact ⟨rfl, by unfold wt; rw [← List.append_assoc]; exact hw⟩
theorem wire_bytes (w0 w : World) (g : Nat) (xs : List Int) (h : WrAt w0 w g xs) (hl : xs.length ≤ 2000000) :
    Calls Tryz.prog 154 #[.pointer (some ⟨g, 0, none⟩)] w fun e w' => ∃ v, e = .returned v ∧ Own (Kd.int .u8) 5 w w' v xs := by
  obtain ⟨⟨v, hb, ho⟩, hg⟩ := h
  have c0 : w.cell? ⟨g, 0, none⟩ = some v := (blk_cell hb 0).trans rfl
  obtain ⟨A1, c1, rfl, _, hC⟩ := ho.reads
  have HC := Lib.hid hC
  clear hb ho hg hC
  go_enter Tryz.func154, Tryz.ntmps154
  go_wp2_with (go_at_call 127; (with_reducible refine (clone_bytes _ A1 xs c1 HC.out (by omega)).mono ?_); rintro e w' ⟨v, rfl, hR, hB⟩)
  go_returns
  exact ⟨_, rfl, hR, hB⟩
theorem flat_len (l : List ByteArray) (hs : ∀ s ∈ l, s.size ≤ 200) : (l.flatMap wt).length ≤ 202 * l.length := by
  induction l with
  | nil => simp
  | cons s l ih =>
    have h1 := ih (fun t ht => hs t (.tail _ ht))
    have h2 := hs s (.head _)
    rw [List.flatMap_cons, List.length_append, wt_len, List.length_cons]
    omega
theorem at_str {w : World} {A : Option Addr} {n : Nat} {xs : List ByteArray} (h : Kd.string.C w A n xs) (i : Nat) (h1 : i < n) : ∃ ad, A = some ad ∧ w.cell? (ad.add i) = some (.string (xs.getD i ByteArray.empty)) :=
  ReadsOf.at_ (Kd.reads_of_C (enc := Value.string) (d := ByteArray.empty) (h1 := fun _ => rfl) h) (i : Int) (by omega) (by omega)
set_option maxRecDepth 20000 in
theorem wire_texts (w0 w : World) (g : Nat) (xs : List Int) (A : Option Addr) (c : Nat) (l : List ByteArray) (h : WrAt w0 w g xs) (hC : Kd.string.C w0 A l.length l) (hl : xs.length ≤ 1000) (hn : l.length ≤ 1000) (hs : ∀ s ∈ l, s.size ≤ 200) :
    Calls Tryz.prog 151 #[.pointer (some ⟨g, 0, none⟩), .slice A l.length c] w fun e w' => e = .returned (.pointer (some ⟨g, 0, none⟩)) ∧ WrAt w0 w' g (xs ++ wts l) := by
  have H := Lib.hid (And.intro h (And.intro hC (And.intro hl (And.intro hn hs))))
  have hn1 := hn
  clear h hC hl hn hs
  go_enter Tryz.func151, Tryz.ntmps151
  go_wp2_with (go_at_call 184; (with_reducible refine (wire_byte w0 _ g xs ((l.length : Int) % 256) H.out.1 (by have := H.out.2.2.1; omega)).mono ?_); rintro e w' ⟨rfl, hw⟩; have HW := Lib.hid hw; clear hw)
  go_loopg [14] l.length (fun n v14 w' => ∃ i : Nat, v14 = .int .i64 (i : Int) ∧ Hid (n + i = l.length ∧ WrAt w0 w' g (xs ++ [(l.length : Int) % 256] ++ (l.take i).flatMap wt)))
  case atStart => exact ⟨0, rfl, by omega, by simpa using HW.out⟩
  case round =>
    obtain ⟨i, rfl, hrel⟩ := hrel
    obtain ⟨hn, hw⟩ := hrel.out
    clear hrel HW
    rcases Nat.lt_or_ge i l.length with hi | hi
    · obtain ⟨ad, rfl, d0⟩ := at_str (Kd.C_below H.out.2.1 hw.below) i hi
      obtain ⟨s, hse⟩ : ∃ s, s = l.getD i ByteArray.empty := ⟨_, rfl⟩
      rw [← hse] at d0
      have hsm : s ∈ l := by rw [hse, List.getD_eq_getElem?_getD, List.getElem?_eq_getElem hi]; exact List.getElem_mem hi
      have q0 : ((i : Int) < (l.length : Int)) = True := eq_true (by omega)
      have HR := Lib.hid (And.intro hn (And.intro hw (And.intro hse hsm)))
      have hlen : (xs ++ [(l.length : Int) % 256] ++ (l.take i).flatMap wt).length ≤ 900000 := by
        have h1 := flat_len (l.take i) (fun t ht => H.out.2.2.2.2 t (List.mem_of_mem_take ht))
        have h2 := H.out.2.2.1
        rw [List.length_take] at h1
        simp only [List.length_append, List.length_cons, List.length_nil]
        omega
      have HL := Lib.hid hlen
      clear hn hw hse hsm hlen
      go_wp2_with (go_at_call 149; (with_reducible refine (wire_text w0 _ g _ s HR.out.2.1 (by have := H.out.2.2.2.2 s HR.out.2.2.2; omega) HL.out).mono ?_); rintro e w' ⟨rfl, hw⟩; have HW := Lib.hid hw; clear hw)
      go_roundg (gk - 1)
      case measure => have := HR.out.1; omega
      case rel =>
        refine ⟨i + 1, by go_num, by have := HR.out.1; omega, ?_⟩
        have e : (l.take (i + 1)).flatMap wt = (l.take i).flatMap wt ++ wt s := by
          rw [List.take_add_one, List.flatMap_append, HR.out.2.2.1, List.getD_eq_getElem?_getD, List.getElem?_eq_getElem hi]
          simp
        rw [e, ← List.append_assoc]
        exact HW.out
    · obtain rfl : i = l.length := by omega
      have HW := Lib.hid hw
      clear hw hn
      go_wp2
      go_returns
      exact ⟨rfl, by have := HW.out; rw [List.take_length] at this; unfold wts; rw [← List.append_assoc]; exact this⟩

section
variable {P : Program} {ops : Array Oper} {rest : List Oper} {o : Oper} {a : Act} {Q : Exit → Act → World → Prop}
theorem app_intsN {k : IntKind} {t e : TypeId} {bytes : Nat} {w0 W : World} (hgd : o.guard = none) (s x : Operand)
    (ho : o.op = .call { callee := .builtin .append, args := #[s, x], argTypes := #[t, t] })
    (ht : P.underlying t = some (.slice e)) (hinfo : (P.info? e).map (fun i => (i.zero, i.size, i.bytes)) = some (some (.int k 0), 1, bytes)) (hb0 : 0 < bytes)
    (v : Value) (xs ys : List Int) (A : Option Addr) (n c : Nat) (hs : a.eval s = v) (hx : a.eval x = .slice A n c)
    (HO : Own (Kd.int k) e w0 W v xs) (HC : (Kd.int k).C W A n ys) (hl : (xs.length + n) * bytes ≤ 140737488355328)
    (h : ∀ v1 w1, Own (Kd.int k) e w0 w1 v1 (xs ++ ys) → W.grownBy w1 v.ownBlock → wpList P ops Q rest (a.put o.dst v1) w1) :
    wpList P ops Q (o :: rest) a W :=
  Kd.R_append_row (Value.int k) 0 (w0 := w0) w0.heap.size hgd s x t e _ bytes ho ht hinfo rfl hb0 v xs ys A n c tr hs hx (fun _ _ => trivial) HO.1 HC HO.2 HO.size hl (fun v1 w1 h1 h2 h3 _ => h v1 w1 ⟨h1, h2⟩ h3)
end
/-! ### the document's -/
theorem own_lit_int (w : World) (e : TypeId) (k : IntKind) (xs : List Int) (hx : xs.length ≤ 1000) : Own (Kd.int k) e w (w.alloc (.cells (xs.map (Value.int k)).toArray e)) (.slice (some ⟨w.heap.size, 0, none⟩) xs.length xs.length) xs :=
  ⟨Kd.R_of_own (by
    have := World.ownsRow_lit (base := w.heap.size) (e := e) (size := 1) w (xs.map (Value.int k)).toArray xs.length (Nat.le_refl _) (by unfold maxLen; omega) (by simp)
    simpa [encs] using this) (fun _ _ => trivial), below_alloc (Below.refl _ _) _⟩
theorem r04_Num (w : World) (n : Nat) (hn : n ≤ 1000000) :
    Calls Tryz.prog 121 #[.int .i64 (n : Int)] w fun e w' => ∃ v, e = .returned v ∧ Own (Kd.int .u8) 5 w w' v (num2 n) := by
  have e1 : (n : Int) % 65536 / 256 = (n : Int) / 256 % 256 := by omega
  have E := Lib.hid e1
  clear e1
  go_enter Tryz.func121, Tryz.ntmps121
  go_wp2
  go_returns
  refine ⟨_, rfl, ?_⟩
  rw [E.out]
  exact own_lit_int w 5 .u8 (num2 n) (by simp [num2])
set_option maxRecDepth 20000 in
theorem r04_Text (w : World) (s : ByteArray) (hs : s.size ≤ 1000000) :
    Calls Tryz.prog 85 #[.string s] w fun e w' => ∃ v, e = .returned v ∧ Own (Kd.int .u8) 5 w w' v (wt s) := by
  have kb := fun W => print_bytes (P := Tryz.prog) 9 42 5 und_str und_bytes Tryz.underlying5 s W
  go_enter Tryz.func85, Tryz.ntmps85
  go_wp2_with (first
    | (go_at_call 121; (with_reducible refine (r04_Num _ s.size hs).mono ?_); rintro e w1 ⟨v1, rfl, ho⟩; have HO := Lib.hid ho; clear ho)
    | (at_builtin; go_loud (refine app_intsN (k := .u8) (w0 := w) rfl (.tmp 5) (.tmp 7) rfl und_bytes info_u8 (by omega) _ (num2 s.size) (bytesOf s) (some ⟨w1.heap.size, 0, none⟩) s.size _ rfl rfl (HO.out.lift (bytes_below (Below.refl _ _) (Nat.le_refl _) 5 s)) (C_bytesOf _ _ s (by omega)) (by simp [num2]; omega) ?_); intro v2 w2 ho2 hg2; clear hg2; have HO2 := Lib.hid ho2; clear ho2))
  go_returns
  exact ⟨_, rfl, HO2.out⟩
set_option maxRecDepth 20000 in
theorem r04_Texts (w : World) (A : Option Addr) (c : Nat) (l : List ByteArray) (hC : Kd.string.C w A l.length l) (hn : l.length ≤ 1000) (hs : ∀ s ∈ l, s.size ≤ 200) :
    Calls Tryz.prog 87 #[.slice A l.length c] w fun e w' => ∃ v, e = .returned v ∧ Own (Kd.int .u8) 5 w w' v (wts l) := by
  have H := Lib.hid (And.intro hC hs)
  have hn1 := hn
  have e0 : (l.length : Int) % 256 = (l.length : Int) % 256 := rfl
  clear hC hs e0
  go_enter Tryz.func87, Tryz.ntmps87
  go_wp2
  have ho0 : Own (Kd.int .u8) 5 w (w.alloc (.cells #[.int .u8 ((l.length : Int) % 256)] 5)) (.slice (some ⟨w.heap.size, 0, none⟩) 1 1) [(l.length : Int) % 256] := own_lit_int w 5 .u8 [(l.length : Int) % 256] (by simp)
  have HO := Lib.hid ho0
  clear ho0
  go_loopg [3, 4] l.length (fun n v3 v4 w' => ∃ i : Nat, v4 = .int .i64 (i : Int) ∧ Hid (n + i = l.length ∧ Own (Kd.int .u8) 5 w w' v3 ([(l.length : Int) % 256] ++ (l.take i).flatMap wt)))
  case atStart => exact ⟨0, rfl, by omega, by simpa using HO.out⟩
  case round =>
    obtain ⟨i, rfl, hrel⟩ := hrel
    obtain ⟨hn, ho⟩ := hrel.out
    clear hrel HO
    obtain ⟨q, hq⟩ : ∃ q : List Int, q = [(l.length : Int) % 256] ++ (l.take i).flatMap wt := ⟨_, rfl⟩
    rw [← hq] at ho
    have HQ := Lib.hid hq
    rcases Nat.lt_or_ge i l.length with hi | hi
    · obtain ⟨ad, rfl, d0⟩ := at_str (Kd.C_below H.out.1 ho.2) i hi
      obtain ⟨s, hse⟩ : ∃ s, s = l.getD i ByteArray.empty := ⟨_, rfl⟩
      rw [← hse] at d0
      have hsm : s ∈ l := by rw [hse, List.getD_eq_getElem?_getD, List.getElem?_eq_getElem hi]; exact List.getElem_mem hi
      have q0 : ((i : Int) < (l.length : Int)) = True := eq_true (by omega)
      have HR := Lib.hid (And.intro hn (And.intro ho (And.intro hse hsm)))
      have hlen : ([(l.length : Int) % 256] ++ (l.take i).flatMap wt).length ≤ 900000 := by
        have h1 := flat_len (l.take i) (fun t ht => H.out.2 t (List.mem_of_mem_take ht))
        rw [List.length_take] at h1
        simp only [List.length_append, List.length_cons, List.length_nil]
        omega
      have HL := Lib.hid hlen
      obtain ⟨A3, c3, rfl⟩ := ho.slice
      rw [← hq] at HL
      clear hn ho hse hsm hlen hq
      go_wp2_with (first
        | (go_at_call 85; (with_reducible refine (r04_Text _ s (by have := H.out.2 s HR.out.2.2.2; omega)).mono ?_); rintro e w1 ⟨v1, rfl, ho1⟩; obtain ⟨q2, hq2⟩ : ∃ q, q = wt s := ⟨_, rfl⟩; have HQ2 := Lib.hid hq2; rw [← hq2] at ho1; clear hq2; obtain ⟨A4, c4, rfl, _, hC4⟩ := ho1.reads; have HO1 := Lib.hid (And.intro ho1 hC4); clear ho1 hC4)
        | (at_builtin; refine app_ints (k := .u8) (w0 := w) rfl (.tmp 15) (.tmp 20) rfl und_bytes info_u8 (by omega) _ q q2 A4 c4 rfl rfl (HR.out.2.1.lift HO1.out.1.2) HO1.out.2 (by have := HL.out; have := H.out.2 s HR.out.2.2.2; rw [HQ2.out, wt_len]; omega) ?_; intro v2 w2 ho2 hg2; clear hg2; have HO2 := Lib.hid ho2; clear ho2))
      go_roundg (gk - 1)
      case measure => have := HR.out.1; omega
      case rel =>
        refine ⟨i + 1, by go_num, by have := HR.out.1; omega, ?_⟩
        have e : (l.take (i + 1)).flatMap wt = (l.take i).flatMap wt ++ wt s := by
          rw [List.take_add_one, List.flatMap_append, HR.out.2.2.1, List.getD_eq_getElem?_getD, List.getElem?_eq_getElem hi]
          simp
        rw [e, ← List.append_assoc, ← HQ.out, ← HQ2.out]
        exact HO2.out
    · obtain rfl : i = l.length := by omega
      have HW := Lib.hid ho
      obtain ⟨A3, c3, rfl⟩ := ho.slice
      clear ho hn hq
      go_wp2
      go_returns
      refine ⟨_, rfl, ?_⟩
      have := HW.out
      have e := HQ.out
      rw [List.take_length] at e
      have e2 : wts l = q := by rw [e]; rfl
      rw [e2]
      exact this
end Go.Proofs.YtdhghaiifeienaaGreatDoor

/- The folded digest, byte by byte. -/
set_option linter.unusedVariables false
set_option linter.unusedSimpArgs false
namespace Go.Proofs.YtdhghaiifeienaaGreatDoor
open Go.RowKit Go.Proofs.YtdhghaiifeienaaGreatDoorW.PrintWords

theorem getD_set {α : Type} (l : List α) (i j : Nat) (x d : α) (h : i < l.length) : (l.set i x).getD j d = if i = j then x else l.getD j d := by
  simp only [List.getD_eq_getElem?_getD, List.getElem?_set]
  by_cases e : i = j
  · subst e; simp [h]
  · simp [e]
theorem xor0 (x : Int) (h : 0 ≤ x ∧ x < 256) : Go.bits .xor .u8 0 x = x := by
  obtain ⟨n, rfl⟩ := Int.eq_ofNat_of_zero_le h.1
  have hn : n < 256 := by omega
  revert hn
  clear h
  have : ∀ m : Fin 256, Go.bits .xor .u8 0 ((m.val : Nat) : Int) = ((m.val : Nat) : Int) := by decide +kernel
  intro hn
  exact this ⟨n, hn⟩
theorem shortN_lo (s : List Int) (hs : Bys s) : ∀ n, n ≤ 20 → ∀ i, i < 20 → (shortN s n).getD i 0 = if i < n then s.getD i 0 else 0
  | 0, _, i, hi => by
    rw [if_neg (by omega), shortN, List.getD_eq_getElem?_getD, List.getElem?_replicate]
    split <;> rfl
  | n + 1, hn, i, hi => by
    have e : n % 20 = n := by omega
    rw [shortN, getD_set _ _ _ _ _ (by rw [shortN_len]; omega), e, shortN_lo s hs n (by omega) n (by omega), shortN_lo s hs n (by omega) i hi, if_neg (Nat.lt_irrefl n), xor0 _ (hs.get n)]
    by_cases h : n = i
    · subst h; rw [if_pos rfl, if_pos (by omega)]
    · rw [if_neg h]
      by_cases h2 : i < n
      · rw [if_pos h2, if_pos (by omega)]
      · rw [if_neg h2, if_neg (by omega)]
theorem shortN_hi (s : List Int) (hs : Bys s) : ∀ n, n ≤ 12 → ∀ i, i < 20 → (shortN s (20 + n)).getD i 0 = if i < n then Go.bits .xor .u8 (s.getD i 0) (s.getD (20 + i) 0) else s.getD i 0
  | 0, _, i, hi => by rw [shortN_lo s hs 20 (by omega) i hi, if_pos hi, if_neg (by omega)]
  | n + 1, hn, i, hi => by
    have e : (20 + n) % 20 = n := by omega
    rw [show 20 + (n + 1) = (20 + n) + 1 by omega, shortN, getD_set _ _ _ _ _ (by rw [shortN_len]; omega), e, shortN_hi s hs n (by omega) n (by omega), shortN_hi s hs n (by omega) i hi, if_neg (Nat.lt_irrefl n)]
    by_cases h : n = i
    · subst h; rw [if_pos rfl, if_pos (by omega)]
    · rw [if_neg h]
      by_cases h2 : i < n
      · rw [if_pos h2, if_pos (by omega)]
      · rw [if_neg h2, if_neg (by omega)]
theorem out4_bys (x : B32) : Bys (out4 x) := by
  have := x.isLt
  intro y hy
  simp only [out4, List.mem_cons, List.not_mem_nil, or_false] at hy
  rcases hy with rfl | rfl | rfl | rfl <;> omega
theorem sum_bys (p : List Int) : Bys (sum p) := by
  intro y hy
  unfold sum at hy
  obtain ⟨x, _, hx⟩ := List.mem_flatMap.1 hy
  exact out4_bys x y hx
theorem short_get (p : List Int) (i : Nat) (hi : i < 20) : (short p).getD i 0 = if i < 12 then Go.bits .xor .u8 ((sum p).getD i 0) ((sum p).getD (20 + i) 0) else (sum p).getD i 0 :=
  shortN_hi (sum p) (sum_bys p) 12 (by omega) i hi
theorem short_len (p : List Int) : (short p).length = 20 := shortN_len _ _
theorem xor_range (x y : Int) : 0 ≤ Go.bits .xor .u8 x y ∧ Go.bits .xor .u8 x y < 256 := by
  have h1 := Go.bits_within .xor .u8 x y
  have e1 : IntKind.u8.min = 0 := by decide
  have e2 : IntKind.u8.max = 255 := by decide
  rw [e1, e2] at h1
  omega
theorem short_bys (p : List Int) : Bys (short p) := by
  intro y hy
  obtain ⟨i, hi, rfl⟩ := List.getElem_of_mem hy
  rw [short_len] at hi
  have := short_get p i hi
  rw [List.getD_eq_getElem?_getD, List.getElem?_eq_getElem (by rw [short_len]; exact hi)] at this
  simp only [Option.getD_some] at this
  rw [this]
  split
  · exact xor_range _ _
  · exact (sum_bys p).get i
end Go.Proofs.YtdhghaiifeienaaGreatDoor

/- Paths (package name): Make, Fits. -/
set_option linter.unusedVariables false
set_option linter.unusedSimpArgs false
namespace Go.Proofs.YtdhghaiifeienaaGreatDoor
open Go.RowKit Go.Proofs.YtdhghaiifeienaaGreatDoorW.PrintWords

def bodyB (arch : List Int) (refs : List ByteArray) (name : ByteArray) : List Int := wt (strOfNums (sum arch)) ++ wts refs ++ wt name
/-- The path of a name, an archive, and what it refers to. -/
def pathOf (name : ByteArray) (arch : List Int) (refs : List ByteArray) : ByteArray := ((⟨(txt (short (bodyB arch refs name)) 32).toArray⟩ : ByteArray) ++ ⟨#[45]⟩) ++ name
theorem strOf_size (l : List Int) : (strOfNums l).size = l.length := by simp [strOfNums, ByteArray.size]
theorem bodyB_len (arch : List Int) (refs : List ByteArray) (name : ByteArray) (hn : name.size ≤ 40) (hr : refs.length ≤ 255) (hs : ∀ s ∈ refs, s.size ≤ 200) : (bodyB arch refs name).length ≤ 100000 := by
  have h := flat_len refs hs
  unfold bodyB wts
  simp only [List.length_append, wt_len, strOf_size, sum_len, List.length_cons, List.length_nil]
  omega
theorem rising_nil (w : World) (A : Option Addr) (c : Nat) : Calls Tryz.prog 148 #[.slice A 0 c] w fun e w' => e = .returned (.bool true) ∧ Below w.heap.size w w' := by
  go_enter Tryz.func148, Tryz.ntmps148
  go_wp2
  go_loopg [7] 0 (fun n v7 w' => v7 = .int .i64 0 ∧ w' = w)
  case atStart => exact ⟨rfl, rfl⟩
  case round =>
    obtain ⟨rfl, rfl⟩ := hrel
    go_wp2
    go_returns
    exact ⟨rfl, Below.refl _ _⟩
/-- That a list of paths rises, each one a path: as the program finds it, in whatever world follows. -/
def RisOk (w : World) (A : Option Addr) (c : Nat) (refs : List ByteArray) : Prop := ∀ W, KeepT D w W → Calls Tryz.prog 148 #[.slice A refs.length c] W fun e w' => e = .returned (.bool true) ∧ Below W.heap.size W w'
theorem RisOk.nil (w : World) (A : Option Addr) (c : Nat) : RisOk w A c [] := fun W _ => rising_nil W A c
theorem RisOk.keep {w w1 : World} {A : Option Addr} {c : Nat} {refs : List ByteArray} (h : RisOk w A c refs) (hk : KeepT D w w1) : RisOk w1 A c refs := fun W hW => h W (hk.trans hW)
theorem RisOk.call {w : World} {A : Option Addr} {c : Nat} {refs : List ByteArray} (h : RisOk w A c refs) (W : World) (hk : KeepT D w W) : Calls Tryz.prog 148 #[.slice A refs.length c] W fun e w' => e = .returned (.bool true) ∧ Below W.heap.size W w' := h W hk
theorem right_size {s : ByteArray} (h : right s = true) : s.size ≤ 40 := by
  unfold right at h
  simp only [Bool.and_eq_true, decide_eq_true_eq] at h
  exact h.1.1.2
theorem wr_new (w : World) : WrAt w (w.alloc (.cells #[.slice none 0 0] 209)) w.heap.size [] :=
  ⟨⟨_, heap_alloc_new w _, (Own.nil (Kd.int .u8) 5 w).alloc _⟩, Nat.le_refl _⟩
set_option maxRecDepth 20000 in
set_option maxHeartbeats 1000000 in
theorem name_Make (w : World) (name : ByteArray) (A : Option Addr) (c : Nat) (arch : List Int) (A3 : Option Addr) (c3 : Nat) (refs : List ByteArray) (hg : Glob w) (hC : (Kd.int .u8).C w A arch.length arch) (hal : arch.length ≤ 1000000) (hCr : Kd.string.C w A3 refs.length refs) (hrl : refs.length ≤ 255) (hrs : ∀ s ∈ refs, s.size ≤ 200) (hn : right name = true) (hris : RisOk w A3 c3 refs) :
    Calls Tryz.prog 129 #[.string name, .slice A arch.length c, .slice A3 refs.length c3] w fun e w' => e = .returned (.tuple #[.string (pathOf name arch refs), .int .i64 0]) ∧ Below w.heap.size w w' := by
  have H := Lib.hid (And.intro hg (And.intro hC (And.intro hCr (And.intro hrs (And.intro hn hris)))))
  have hsz := right_size hn
  have HL := Lib.hid (And.intro (bodyB_len arch refs name hsz hrl hrs) (And.intro hsz (And.intro hal hrl)))
  clear hg hC hCr hrs hn hris hsz hal hrl
  go_enter Tryz.func129, Tryz.ntmps129
  go_wp2_with (first
    | (go_at_call 147; (with_reducible refine (name_Right _ name (by have := HL.out.2.1; omega)).mono ?_); rw [H.out.2.2.2.2.1]; rintro e w1 ⟨rfl, hb1⟩)
    | (go_at_call 148; (with_reducible refine (H.out.2.2.2.2.2.call _ (KeepT.of_below hb1)).mono ?_); rintro e w2 ⟨rfl, hb2⟩; have hB2 : Below w.heap.size w w2 := hb1.trans (hb2.mono (below_size hb1)); have H2 := Lib.hid (And.intro hB2 (And.intro (H.out.1.below hB2) (And.intro (Kd.C_below H.out.2.1 hB2) (Kd.C_below H.out.2.2.1 hB2)))); clear hb1 hb2 hB2)
    | (go_at_call 150; (with_reducible refine (hash_Sum _ A c arch (H2.out.2.1.below (below_alloc (Below.refl _ _) _)) (Kd.C_below H2.out.2.2.1 (below_alloc (Below.refl _ _) _)) HL.out.2.2.1).mono ?_); rintro e w3 ⟨v3, rfl, ho3⟩; obtain ⟨A4, c4, rfl, _, hC4⟩ := ho3.reads; have hcv := Kd.C_string (P := Tryz.prog) (c := c4) und_bytes Tryz.underlying5 und_str hC4; have HW3 := Lib.hid ((wr_new w2).lift ho3.2); clear ho3 hC4))
  (with_reducible refine (wire_text w2 _ w2.heap.size [] (strOfNums (sum arch)) HW3.out (by rw [strOf_size, sum_len]; omega) (by simp)).mono ?_)
  rintro e w4 ⟨rfl, hw4⟩
  rw [List.nil_append] at hw4
  have HW4 := Lib.hid hw4
  have hl4 : (wt (strOfNums (sum arch))).length = 34 := by rw [wt_len, strOf_size, sum_len]
  have HL4 := Lib.hid hl4
  clear hw4 hl4 hcv
  go_wp2_with (first
    | (go_at_call 151; (with_reducible refine (wire_texts w2 _ w2.heap.size _ A3 c3 refs HW4.out H2.out.2.2.2 (by rw [HL4.out]; omega) (by have := HL.out.2.2.2; omega) H.out.2.2.2.1).mono ?_); rintro e w5 ⟨rfl, hw5⟩; have HW5 := Lib.hid hw5; clear hw5)
    | (go_at_call 149; (with_reducible refine (wire_text w2 _ w2.heap.size _ name HW5.out (by have := HL.out.2.1; omega) (by have := HL.out.1; unfold bodyB at this; rw [List.length_append] at this; omega)).mono ?_); rintro e w6 ⟨rfl, hw6⟩; have HW6 := Lib.hid hw6; clear hw6))
  have hw6 := HW6.out
  change WrAt w2 w6 w2.heap.size (bodyB arch refs name) at hw6
  obtain ⟨q, hq⟩ : ∃ q, q = bodyB arch refs name := ⟨_, rfl⟩
  rw [← hq] at hw6
  have HQ := Lib.hid (And.intro hq (hq ▸ HL.out.1))
  have HW7 := Lib.hid hw6
  clear hw6 hq
  (with_reducible refine (wire_bytes w2 _ w2.heap.size q HW7.out (by have := HQ.out.2; omega)).mono ?_)
  rintro e w7 ⟨v7, rfl, ho7⟩
  obtain ⟨A7, c7, rfl, _, hC7⟩ := ho7.reads
  have H7 := Lib.hid (And.intro ho7.2 hC7)
  have hB7 : Below w.heap.size w w7 := H2.out.1.trans ((HW7.out.below.mono (below_size H2.out.1)).trans (ho7.2.mono (Nat.le_trans (below_size H2.out.1) (below_size HW7.out.below))))
  have HB7 := Lib.hid hB7
  clear ho7 hC7 hB7
  go_wp2_with fail
  (with_reducible refine (hash_Short _ A7 c7 q (H.out.1.below HB7.out) H7.out.2 (by have := HQ.out.2; omega)).mono ?_)
  rintro e w8 ⟨v8, rfl, ho8⟩
  obtain ⟨A8, c8, rfl, _, hC8⟩ := ho8.reads
  obtain ⟨z, hz⟩ : ∃ z, z = short q := ⟨_, rfl⟩
  have hzl : z.length = 20 := by rw [hz]; exact short_len q
  have hzb : Bys z := by rw [hz]; exact short_bys q
  rw [← hz] at ho8 hC8 ⊢
  have H8 := Lib.hid (And.intro ho8.2 (And.intro hC8 (And.intro hz (And.intro hzl hzb))))
  clear ho8 hC8 hz hzl hzb
  go_wp2_with fail
  have hbt := base_Text w8 A8 c8 z H8.out.2.1 H8.out.2.2.2.2 (by have := H8.out.2.2.2.1; omega) (by have := H8.out.2.2.2.1; omega)
  rw [H8.out.2.2.2.1] at hbt
  obtain ⟨T, hT⟩ : ∃ T : ByteArray, T = ⟨(txt z (8 * 20 / 5)).toArray⟩ := ⟨_, rfl⟩
  rw [← hT] at hbt
  have hTs : T.size ≤ 32 := by rw [hT]; simp [ByteArray.size, txt_len]
  have HT := Lib.hid hT
  have HBT := Lib.hid hbt
  have hz20 := H8.out.2.2.2.1
  rw [hz20]
  clear hT hbt hz20
  (with_reducible refine HBT.out.mono ?_)
  rintro e w9 ⟨rfl, hb9⟩
  have a1 := fun W => run_string_add_sum (P := Tryz.prog) (w := W) T { data := #[45] } (by have : (ByteArray.mk #[45]).size = 1 := rfl; omega)
  have a2 := fun W => run_string_add_sum (P := Tryz.prog) (w := W) (T ++ { data := #[45] }) name (by have : (ByteArray.mk #[45]).size = 1 := rfl; rw [ByteArray.size_append]; have := HL.out.2.1; omega)
  clear hTs
  go_wp2
  go_returns
  refine ⟨?_, ?_⟩
  · unfold pathOf
    rw [← HQ.out.1, ← H8.out.2.2.1, ← HT.out]
    rfl
  · exact HB7.out.trans ((H8.out.1.mono (below_size HB7.out)).trans (hb9.mono (Nat.le_trans (below_size HB7.out) (below_size H8.out.1))))
end Go.Proofs.YtdhghaiifeienaaGreatDoor

/- Paths (package name): Fits. -/
set_option linter.unusedVariables false
set_option linter.unusedSimpArgs false
namespace Go.Proofs.YtdhghaiifeienaaGreatDoor
open Go.RowKit Go.Proofs.YtdhghaiifeienaaGreatDoorW.PrintWords

/-- A row whose name is right, whose references rise, whose sizes are small. -/
structure RowOk (x : Row) : Prop where
  nm : right x.name = true
  al : x.arch.length ≤ 1000000
  rl : x.refs.length ≤ 255
  rs : ∀ s ∈ x.refs, s.size ≤ 200
def fitsB (x : Row) : Bool := (pathOf x.name x.arch x.refs).toList == x.path.toList
theorem fitsB_iff (x : Row) : fitsB x = true ↔ pathOf x.name x.arch x.refs = x.path := by
  unfold fitsB
  rw [beq_iff_eq]
  constructor
  · intro h
    rw [Lib.toList_data, Lib.toList_data] at h
    exact ByteArray.ext (Array.ext' h)
  · intro h; rw [h]
/-- The references of a row's value are found to rise. -/
def RisV (w : World) (x : Row) (v : Value) : Prop := ∀ (u : Value) (A : Option Addr) (c : Nat), v = .agg #[.string x.path, .string x.name, u, .slice A x.refs.length c] → RisOk w A c x.refs
theorem RisV.keep {w w1 : World} {x : Row} {v : Value} (h : RisV w x v) (hk : KeepT D w w1) : RisV w1 x v := fun u A c e => (h u A c e).keep hk
theorem RisV.nil {w : World} {x : Row} {v : Value} (h : x.refs = []) : RisV w x v := fun u A c e => by rw [h]; exact RisOk.nil _ _ _
theorem name_Fits (w : World) (x : Row) (v : Value) (hg : Glob w) (hv : RowV w x v) (hx : RowOk x) (hris : RisV w x v) :
    Calls Tryz.prog 98 #[v] w fun e w' => e = .returned (.bool (fitsB x)) ∧ Below w.heap.size w w' := by
  obtain ⟨A2, c2, A3, c3, rfl, h2, h3⟩ := hv.open_
  have hr := hris _ A3 c3 rfl
  have C2 := C_of_R h2
  have C3 := C_of_R h3
  have gB := heap_alloc_new w (.cells #[.string x.path, .string x.name, .slice A2 x.arch.length c2, .slice A3 x.refs.length c3] 44)
  have H := Lib.hid (And.intro hg (And.intro hx (And.intro hr (And.intro C2 (And.intro C3 gB)))))
  have hb0 : Below w.heap.size w (w.alloc (.cells #[.string x.path, .string x.name, .slice A2 x.arch.length c2, .slice A3 x.refs.length c3] 44)) := below_alloc (Below.refl _ _) _
  obtain ⟨pp, hpp⟩ : ∃ pp, pp = pathOf x.name x.arch x.refs := ⟨_, rfl⟩
  have HP := Lib.hid (And.intro hpp hb0)
  clear hv hg hx hr h2 h3 C2 C3 gB hris hpp hb0
  go_enter Tryz.func98, Tryz.ntmps98
  go_wp2_with (go_at_call 129; (with_reducible refine (name_Make _ x.name A2 c2 x.arch A3 c3 x.refs (H.out.1.below HP.out.2) (Kd.C_below H.out.2.2.2.1 HP.out.2) H.out.2.1.al (Kd.C_below H.out.2.2.2.2.1 HP.out.2) H.out.2.1.rl H.out.2.1.rs H.out.2.1.nm (H.out.2.2.1.keep (KeepT.of_below HP.out.2))).mono ?_); rw [← HP.out.1]; rintro e w' ⟨rfl, hb⟩; have gB' := blk_below H.out.2.2.2.2.2 hb; obtain ⟨q0, q1, q2, q3⟩ := cells4 gB'; have HB := Lib.hid hb; clear hb gB')
  go_returns
  refine ⟨?_, HP.out.2.trans (HB.out.mono (below_size HP.out.2))⟩
  unfold fitsB
  rw [← HP.out.1]
  rfl
end Go.Proofs.YtdhghaiifeienaaGreatDoor
