/- Words of this proof: what a call may change, maps that are read as lists of pairs, data that is kept. No statement of the program. -/
import Derived.Test.YtdhghaiifeienaaGreatDoorWWords
import Derived.Maps.OwnSet
import Derived.StillTailTactics
import Derived.Lib.Hide
import Derived.Deep.RegionLaw
import Derived.Deep.RegionHeld3
import Derived.Deep.RegionWith
import Derived.Deep.QuietTactic
import Derived.BigQuiet
import Derived.BigRegion
import Derived.Deep.DeepFit
import Derived.Deep.DeepCutAuto
import Derived.Deep.CutBlock
import Derived.Deep.LoopGhost
import Derived.Handy
import Derived.Test.YtdhghaiifeienaaGreatDoorProg
import Derived.KernelRfl
import Derived.WalkSpells

/- Words of this proof: what a call may change, maps that are read as lists of pairs, data that is kept. No statement of the program. -/
set_option linter.unusedVariables false
set_option linter.unusedSimpArgs false
namespace Go.Proofs.YtdhghaiifeienaaGreatDoor
open Go.RowKit Go.Proofs.YtdhghaiifeienaaGreatDoorW.PrintWords

/-! ### 1. What a call may have changed: the blocks of F, and new ones -/
structure Mut (F : Nat → Prop) (w w' : World) : Prop where
  os : w'.os = w.os
  tape : w'.tape = w.tape
  output : w'.output = w.output
  size : w.heap.size ≤ w'.heap.size
  block : ∀ k, k < w.heap.size → ¬ F k → w'.heap[k]? = w.heap[k]?

theorem Mut.refl (F : Nat → Prop) (w : World) : Mut F w w := ⟨rfl, rfl, rfl, Nat.le_refl _, fun _ _ _ => rfl⟩
theorem Mut.of_below {F : Nat → Prop} {w w' : World} (h : Below w.heap.size w w') : Mut F w w' := ⟨h.os, h.tape, h.output, h.size, fun k hk _ => h.block k hk⟩
theorem Mut.mono {F G : Nat → Prop} {w w' : World} (h : Mut F w w') (hFG : ∀ k, k < w.heap.size → F k → G k) : Mut G w w' :=
  ⟨h.os, h.tape, h.output, h.size, fun k hk hn => h.block k hk (fun hf => hn (hFG k hk hf))⟩
theorem Mut.trans {F : Nat → Prop} {a b c : World} (h : Mut F a b) {G : Nat → Prop} (k : Mut G b c) (hGF : ∀ i, i < a.heap.size → G i → F i) : Mut F a c :=
  ⟨k.os.trans h.os, k.tape.trans h.tape, k.output.trans h.output, Nat.le_trans h.size k.size,
    fun i hi hn => (k.block i (Nat.lt_of_lt_of_le hi h.size) (fun hg => hn (hGF i hi hg))).trans (h.block i hi hn)⟩
theorem Mut.of_grown {F : Nat → Prop} {w w' : World} {row : Option Nat} (h : w.grownBy w' row) (hr : ∀ k, row = some k → F k) : Mut F w w' :=
  ⟨h.os, h.tape, h.output, h.size, fun k hk hn => h.block k hk (fun e => hn (hr k e.symm))⟩
theorem Mut.alloc {F : Nat → Prop} {a w : World} (h : Mut F a w) (o : Obj) : Mut F a (w.alloc o) :=
  h.trans (Mut.of_below (F := fun _ => False) (below_alloc (Below.refl _ _) o)) (fun _ _ hf => hf.elim)
theorem Mut.drew {F : Nat → Prop} {a w : World} (h : Mut F a w) : Mut F a w.drew := ⟨h.os, h.tape, h.output, h.size, h.block⟩
theorem Mut.drewN {F : Nat → Prop} {a w : World} (h : Mut F a w) (n : Nat) : Mut F a (w.drewN n) := ⟨h.os, h.tape, h.output, h.size, h.block⟩
theorem Mut.setCell {F : Nat → Prop} {a w : World} (h : Mut F a w) {p : Addr} (hp : p.block < a.heap.size → F p.block) (u : Value) : Mut F a (w.setCell p u) :=
  ⟨h.os, h.tape, h.output, by simpa [World.setCell] using h.size, fun k hk hn => (Below.heap_setCell w p u k (fun e => hn (by subst e; exact hp hk))).trans (h.block k hk hn)⟩
theorem Mut.below {F : Nat → Prop} {w w' : World} {B : Nat} (h : Mut F w w') (hB : B ≤ w.heap.size) (hF : ∀ k, k < w.heap.size → F k → B ≤ k) : Below B w w' :=
  ⟨h.os, h.tape, h.output, h.size, fun k hk => h.block k (by omega) (fun hf => by have := hF k (by omega) hf; omega)⟩
theorem Mut.none {w w' : World} (h : Mut (fun _ => False) w w') : Below w.heap.size w w' := h.below (Nat.le_refl _) (fun _ _ hf => hf.elim)
theorem Mut.at_ {F : Nat → Prop} {w w' : World} (h : Mut F w w') {k : Nat} {o : Obj} (hb : w.heap[k]? = some o) (hn : ¬ F k) : w'.heap[k]? = some o := (h.block k (blk_lt hb) hn).trans hb
theorem mut_trans {F : Nat → Prop} {a b c : World} (h : Mut F a b) (k : Mut F b c) : Mut F a c := h.trans k (fun _ _ hf => hf)

/-! ### 2. Blocks of data (by their elements' types) stay -/
def KeepT (D : Nat → Bool) (w w' : World) : Prop :=
  w.heap.size ≤ w'.heap.size ∧ ∀ (k : Nat) (C : Array Value) (t : TypeId) (fr : Nat × Nat), w.heap[k]? = some (Obj.cells C t fr) → D t = true → w'.heap[k]? = some (Obj.cells C t fr)
theorem KeepT.refl (D : Nat → Bool) (w : World) : KeepT D w w := ⟨Nat.le_refl _, fun _ _ _ _ h _ => h⟩
theorem KeepT.trans {D : Nat → Bool} {a b c : World} (h : KeepT D a b) (k : KeepT D b c) : KeepT D a c :=
  ⟨Nat.le_trans h.1 k.1, fun i C t fr hb ht => k.2 i C t fr (h.2 i C t fr hb ht) ht⟩
theorem KeepT.of_below {D : Nat → Bool} {w w' : World} (h : Below w.heap.size w w') : KeepT D w w' :=
  ⟨h.size, fun k C t fr hb _ => (h.block k (blk_lt hb)).trans hb⟩
theorem Mut.keepT {D : Nat → Bool} {F : Nat → Prop} {w w' : World} (h : Mut F w w') (hF : ∀ (k : Nat) (C : Array Value) (t : TypeId) (fr : Nat × Nat), F k → w.heap[k]? = some (Obj.cells C t fr) → D t = false) : KeepT D w w' :=
  ⟨h.size, fun k C t fr hb ht => h.at_ hb (fun hf => by rw [hF k C t fr hf hb] at ht; cases ht)⟩
theorem KeepT.alloc {D : Nat → Bool} {a w : World} (h : KeepT D a w) (o : Obj) : KeepT D a (w.alloc o) := h.trans (KeepT.of_below (below_alloc (Below.refl _ _) o))
theorem KeepT.drew {D : Nat → Bool} {a w : World} (h : KeepT D a w) : KeepT D a w.drew := h
theorem KeepT.drewN {D : Nat → Bool} {a w : World} (h : KeepT D a w) (n : Nat) : KeepT D a (w.drewN n) := h
theorem KeepT.setCell {D : Nat → Bool} {a w : World} (h : KeepT D a w) {g : Nat} {C : Array Value} {t : TypeId} {fr : Nat × Nat} (hb : w.heap[g]? = some (.cells C t fr)) (ht : D t = false) (j : Nat) (u : Value) : KeepT D a (w.setCell ⟨g, j, none⟩ u) :=
  h.trans ⟨by simp [World.setCell], fun k C' t' fr' hb' ht' => by
    refine (Below.heap_setCell w ⟨g, j, none⟩ u k ?_).trans hb'
    rintro rfl
    have := hb'.symm.trans hb
    injection this with this
    injection this with _ e _
    subst e
    rw [ht] at ht'; cases ht'⟩

/-- A row of elements that is read, now and as long as data stays. -/
def CT {α : Type} (D : Nat → Bool) (d : Kd α) (w : World) (A : Option Addr) (xs : List α) : Prop := ∀ W, KeepT D w W → d.C W A xs.length xs
theorem CT.now {α : Type} {D : Nat → Bool} {d : Kd α} {w : World} {A : Option Addr} {xs : List α} (h : CT D d w A xs) : d.C w A xs.length xs := h w (KeepT.refl _ _)
theorem CT.keep {α : Type} {D : Nat → Bool} {d : Kd α} {w w1 : World} {A : Option Addr} {xs : List α} (h : CT D d w A xs) (hk : KeepT D w w1) : CT D d w1 A xs := fun W hW => h W (hk.trans hW)
theorem CT.below {α : Type} {D : Nat → Bool} {d : Kd α} {w w1 : World} {A : Option Addr} {xs : List α} (h : CT D d w A xs) (hk : Below w.heap.size w w1) : CT D d w1 A xs := h.keep (KeepT.of_below hk)
theorem CT.nil {α : Type} (D : Nat → Bool) (d : Kd α) (w : World) : CT D d w none [] := fun W _ => Kd.C_nil d W

/-- What is owned, of data types alone, is kept with data. -/
theorem R_keepT {α : Type} {D : Nat → Bool} {d : Kd α} {e : Nat} {w w1 : World} {base : Nat} {ok : Nat → Prop} {v : Value} {xs : List α} (h : d.R e w base ok v xs) (hE : ∀ q, q ∈ e :: d.E → D q = true) (hk : KeepT D w w1) : d.R e w1 base ok v xs :=
  Kd.R_mono (Kd.R_move (Kd.R_bound h) (fun k hk' => by
    obtain ⟨_, _, _, q, hq, cells, hc⟩ := hk'
    rw [hk.2 k cells q (0, 0) hc (hE q hq), hc])) (fun _ hk' => hk'.1)
theorem M_keepT {α : Type} {D : Nat → Bool} {d : Kd α} {w w1 : World} {base : Nat} {ok : Nat → Prop} {x : α} {cs : List Value} (h : d.M w base ok x cs) (hE : ∀ q, q ∈ d.E → D q = true) (hk : KeepT D w w1) : d.M w1 base ok x cs :=
  d.M_mono (fun _ hk' => hk'.1) (d.M_move (fun k hk' => by
    obtain ⟨_, _, _, q, hq, cells, hc⟩ := hk'
    rw [hk.2 k cells q (0, 0) hc (hE q hq), hc]) (d.M_bound h))
theorem R_CT {α : Type} {D : Nat → Bool} {d : Kd α} {e : Nat} {w : World} {base : Nat} {ok : Nat → Prop} {v : Value} {xs : List α} (h : d.R e w base ok v xs) (hE : ∀ q, q ∈ e :: d.E → D q = true) : ∃ A c, v = .slice A xs.length c ∧ xs.length ≤ c ∧ CT D d w A xs := by
  obtain ⟨A, c, rfl, hl, _⟩ := Kd.R_reads h
  refine ⟨A, c, rfl, hl, fun W hW => ?_⟩
  obtain ⟨A', c', he, _, hc⟩ := Kd.R_reads (R_keepT h hE hW)
  injection he with h1 h2 h3
  subst h1
  exact hc

/-! ### 3. Two lists, element by element -/
inductive L2 {α β : Type} (R : α → β → Prop) : List α → List β → Prop
  | nil : L2 R [] []
  | cons {a : α} {b : β} {l : List α} {m : List β} : R a b → L2 R l m → L2 R (a :: l) (b :: m)
namespace L2
variable {α β : Type} {R S : α → β → Prop}
theorem imp (h : ∀ a b, R a b → S a b) : ∀ {l : List α} {m : List β}, L2 R l m → L2 S l m
  | _, _, .nil => .nil
  | _, _, .cons hr hl => .cons (h _ _ hr) (imp h hl)
theorem imp_mem {l : List α} {m : List β} (hl : L2 R l m) (h : ∀ a b, a ∈ l → b ∈ m → R a b → S a b) : L2 S l m := by
  induction hl with
  | nil => exact .nil
  | cons hr hl ih => exact .cons (h _ _ (.head _) (.head _) hr) (ih (fun a b ha hb => h a b (.tail _ ha) (.tail _ hb)))
theorem len : ∀ {l : List α} {m : List β}, L2 R l m → l.length = m.length
  | _, _, .nil => rfl
  | _, _, .cons _ hl => by simp [len hl]
theorem append : ∀ {l : List α} {m : List β} {l' : List α} {m' : List β}, L2 R l m → L2 R l' m' → L2 R (l ++ l') (m ++ m')
  | _, _, _, _, .nil, h => h
  | _, _, _, _, .cons hr hl, h => .cons hr (append hl h)
theorem get {l : List α} {m : List β} (h : L2 R l m) : ∀ (i : Nat), (l[i]? = none ∧ m[i]? = none) ∨ ∃ a b, l[i]? = some a ∧ m[i]? = some b ∧ R a b := by
  induction h with
  | nil => exact fun i => .inl ⟨rfl, rfl⟩
  | cons hr hl ih =>
    intro i
    cases i with
    | zero => exact .inr ⟨_, _, rfl, rfl, hr⟩
    | succ i => simpa using ih i
end L2

/-! ### 4. A map's entries as pairs -/
section
variable {κ α : Type} [DecidableEq κ]
def mlook : List (κ × α) → κ → Option α
  | [], _ => none
  | p :: m, k => if p.1 = k then some p.2 else mlook m k
def mset : List (κ × α) → κ → α → List (κ × α)
  | [], k, v => [(k, v)]
  | p :: m, k, v => if p.1 = k then (k, v) :: m else p :: mset m k v
def mdel : List (κ × α) → κ → List (κ × α)
  | [], _ => []
  | p :: m, k => if p.1 = k then m else p :: mdel m k
def mkeys (m : List (κ × α)) : List κ := m.map Prod.fst

theorem mlook_none {m : List (κ × α)} {k : κ} : mlook m k = none ↔ k ∉ mkeys m := by
  induction m with
  | nil => simp [mlook, mkeys]
  | cons p m ih =>
    unfold mlook
    by_cases h : p.1 = k
    · simp [h, mkeys]
    · simp only [if_neg h, ih]
      simp [mkeys, Ne.symm h]
theorem mlook_set (m : List (κ × α)) (k : κ) (v : α) (k' : κ) : mlook (mset m k v) k' = if k = k' then some v else mlook m k' := by
  induction m with
  | nil => simp [mset, mlook]
  | cons p m ih =>
    unfold mset
    by_cases h : p.1 = k
    · rw [if_pos h]
      unfold mlook
      simp only
      by_cases h' : k = k'
      · simp [h']
      · rw [if_neg h', if_neg h', if_neg (by rw [h]; exact h')]
    · rw [if_neg h]
      unfold mlook
      rw [ih]
      by_cases h' : p.1 = k'
      · rw [if_pos h', if_pos h', if_neg (by rw [← h']; exact fun e => h e.symm)]
      · rw [if_neg h', if_neg h']
theorem mkeys_set (m : List (κ × α)) (k : κ) (v : α) : mkeys (mset m k v) = if k ∈ mkeys m then mkeys m else mkeys m ++ [k] := by
  induction m with
  | nil => simp [mset, mkeys]
  | cons p m ih =>
    unfold mset
    by_cases h : p.1 = k
    · rw [if_pos h]; simp [mkeys, h]
    · rw [if_neg h]
      have ih' : List.map Prod.fst (mset m k v) = if k ∈ m.map Prod.fst then m.map Prod.fst else m.map Prod.fst ++ [k] := ih
      have hne : ¬ k = p.1 := fun e => h e.symm
      simp only [mkeys, List.map_cons, ih', List.mem_cons, hne, false_or]
      split <;> simp
theorem mkeys_del (m : List (κ × α)) (k : κ) (hn : (mkeys m).Nodup) : mkeys (mdel m k) = (mkeys m).filter (fun x => x ≠ k) := by
  induction m with
  | nil => simp [mdel, mkeys]
  | cons p m ih =>
    have hn' : (mkeys m).Nodup := by simp only [mkeys, List.map_cons, List.nodup_cons] at hn ⊢; exact hn.2
    have hp : p.1 ∉ mkeys m := by simp only [mkeys, List.map_cons, List.nodup_cons] at hn ⊢; exact hn.1
    unfold mdel
    by_cases h : p.1 = k
    · rw [if_pos h]
      have : mkeys (p :: m) = p.1 :: mkeys m := rfl
      rw [this, List.filter_cons, if_neg (by simp [h])]
      exact (List.filter_eq_self.2 (fun x hx => by simp; rintro rfl; exact hp (h ▸ hx))).symm
    · rw [if_neg h]
      have e1 : mkeys (p :: m) = p.1 :: mkeys m := rfl
      have e2 : mkeys (p :: mdel m k) = p.1 :: mkeys (mdel m k) := rfl
      rw [e1, e2, ih hn', List.filter_cons, if_pos (by simp [h])]
theorem mlook_del (m : List (κ × α)) (k : κ) (hn : (mkeys m).Nodup) (k' : κ) : mlook (mdel m k) k' = if k = k' then none else mlook m k' := by
  induction m with
  | nil => simp [mdel, mlook]
  | cons p m ih =>
    have hn' : (mkeys m).Nodup := by simp only [mkeys, List.map_cons, List.nodup_cons] at hn ⊢; exact hn.2
    have hp : p.1 ∉ mkeys m := by simp only [mkeys, List.map_cons, List.nodup_cons] at hn ⊢; exact hn.1
    unfold mdel
    by_cases h : p.1 = k
    · rw [if_pos h]
      by_cases h' : k = k'
      · rw [if_pos h', mlook_none, ← h', ← h]; exact hp
      · rw [if_neg h']
        conv => rhs; unfold mlook
        rw [if_neg (by rw [h]; exact h')]
    · rw [if_neg h]
      unfold mlook
      rw [ih hn']
      by_cases h' : p.1 = k'
      · rw [if_pos h', if_pos h', if_neg (by rw [← h']; exact fun e => h e.symm)]
      · rw [if_neg h', if_neg h']
theorem nodup_set {m : List (κ × α)} (k : κ) (v : α) (hn : (mkeys m).Nodup) : (mkeys (mset m k v)).Nodup := by
  rw [mkeys_set]
  split
  · exact hn
  · rename_i h
    exact List.nodup_append.2 ⟨hn, by simp, fun a ha b hb => by simp at hb; rintro rfl; exact h (hb ▸ ha)⟩
theorem nodup_del {m : List (κ × α)} (k : κ) (hn : (mkeys m).Nodup) : (mkeys (mdel m k)).Nodup := by
  rw [mkeys_del m k hn]; exact hn.filter _
theorem mlook_mem {m : List (κ × α)} {k : κ} {v : α} (h : mlook m k = some v) : (k, v) ∈ m := by
  induction m with
  | nil => simp [mlook] at h
  | cons p m ih =>
    unfold mlook at h
    by_cases e : p.1 = k
    · rw [if_pos e] at h
      injection h with h
      subst h e
      exact .head _
    · rw [if_neg e] at h
      exact .tail _ (ih h)
theorem mem_mlook {m : List (κ × α)} {k : κ} {v : α} (hn : (mkeys m).Nodup) (h : (k, v) ∈ m) : mlook m k = some v := by
  induction m with
  | nil => simp at h
  | cons p m ih =>
    have hn' : (mkeys m).Nodup := by simp only [mkeys, List.map_cons, List.nodup_cons] at hn ⊢; exact hn.2
    have hp : p.1 ∉ mkeys m := by simp only [mkeys, List.map_cons, List.nodup_cons] at hn ⊢; exact hn.1
    unfold mlook
    rcases List.mem_cons.1 h with h | h
    · subst h; simp
    · rw [if_neg (fun e => hp (by rw [e]; exact List.mem_map.2 ⟨_, h, rfl⟩)), ih hn' h]
theorem mset_mem {m : List (κ × α)} {k : κ} {v : α} {p : κ × α} (h : p ∈ mset m k v) : p = (k, v) ∨ p ∈ m := by
  induction m with
  | nil => simp [mset] at h; exact .inl h
  | cons q m ih =>
    unfold mset at h
    split at h
    · rcases List.mem_cons.1 h with h | h
      · exact .inl h
      · exact .inr (.tail _ h)
    · rcases List.mem_cons.1 h with h | h
      · exact .inr (by rw [h]; exact .head _)
      · exact (ih h).imp id (.tail _)
theorem mdel_mem {m : List (κ × α)} {k : κ} {p : κ × α} (h : p ∈ mdel m k) : p ∈ m := by
  induction m with
  | nil => simp [mdel] at h
  | cons q m ih =>
    unfold mdel at h
    split at h
    · exact .tail _ h
    · rcases List.mem_cons.1 h with h | h
      · rw [h]; exact .head _
      · exact .tail _ (ih h)
end

/-- A kind of keys: strings, or whole numbers. -/
structure Key (P : Program) (kt : TypeId) (κ : Type) where
  enc : κ → Value
  desc : TypeDesc
  und : P.underlying kt = some desc
  isK : ∀ k, MapKept.IsKey desc (enc k)
  inj : ∀ a b, enc a = enc b → a = b
def strKey {P : Program} {kt : TypeId} (h : P.underlying kt = some .string) : Key P kt ByteArray := ⟨Value.string, .string, h, fun _ => trivial, fun a b e => by injection e⟩
def intKey {P : Program} {kt : TypeId} {q : IntKind} (h : P.underlying kt = some (.int q)) : Key P kt Int := ⟨Value.int q, .int q, h, fun _ => rfl, fun a b e => by injection e⟩

/-- Block b is a map: its entries, in the order in which they came, are m's pairs. -/
def MapAt {κ α : Type} (enc : κ → Value) (R : α → Value → Prop) (w : World) (b : Nat) (m : List (κ × α)) : Prop :=
  ∃ es clock, w.heap[b]? = some (.map es clock) ∧ L2 (fun (p : κ × α) (e : MapEntry) => e.key = enc p.1 ∧ R p.2 e.val) m es.toList ∧ (mkeys m).Nodup ∧ MapKept.Stamped es clock

section
variable {κ α : Type} [DecidableEq κ] {P : Program} {t kt et : TypeId} (K : Key P kt κ) {R R' : α → Value → Prop} {w w1 : World} {b : Nat} {m : List (κ × α)}
omit [DecidableEq κ] in
theorem MapAt.lt {enc : κ → Value} (h : MapAt enc R w b m) : b < w.heap.size := by
  obtain ⟨es, clock, hb, _⟩ := h
  exact blk_lt hb
omit [DecidableEq κ] in
theorem MapAt.nodup {enc : κ → Value} (h : MapAt enc R w b m) : (mkeys m).Nodup := by
  obtain ⟨es, clock, hb, _, hn, _⟩ := h
  exact hn
omit [DecidableEq κ] in
theorem MapAt.move {enc : κ → Value} (h : MapAt enc R w b m) (hb : w1.heap[b]? = w.heap[b]?) (hR : ∀ p ∈ m, ∀ v, R p.2 v → R' p.2 v) : MapAt enc R' w1 b m := by
  obtain ⟨es, clock, h1, h2, h3, h4⟩ := h
  exact ⟨es, clock, hb.trans h1, h2.imp_mem (fun p e hp _ hr => ⟨hr.1, hR p hp _ hr.2⟩), h3, h4⟩
omit [DecidableEq κ] in
theorem MapAt.same {enc : κ → Value} (h : MapAt enc R w b m) (hb : w1.heap[b]? = w.heap[b]?) : MapAt enc R w1 b m := h.move hb (fun _ _ _ hr => hr)
omit [DecidableEq κ] in
theorem MapAt.ne_cells {enc : κ → Value} (h : MapAt enc R w b m) {g : Nat} {C : Array Value} {q : TypeId} {fr : Nat × Nat} (hg : w.heap[g]? = some (.cells C q fr)) : g ≠ b := by
  rintro rfl
  obtain ⟨es, clock, h1, _⟩ := h
  rw [h1] at hg
  cases hg
omit [DecidableEq κ] in
theorem MapAt.made (enc : κ → Value) (R : α → Value → Prop) (w : World) : MapAt enc R (w.alloc (.map #[] 0)) w.heap.size ([] : List (κ × α)) :=
  ⟨#[], 0, heap_alloc_new w _, .nil, by simp [mkeys], MapKept.stamped_empty _⟩
theorem L2.look {enc : κ → Value} (inj : ∀ a b, enc a = enc b → a = b) {m : List (κ × α)} {es : List MapEntry} (h : L2 (fun (p : κ × α) (e : MapEntry) => e.key = enc p.1 ∧ R p.2 e.val) m es) (k : κ) :
    (mlook m k = none ∧ ∀ e ∈ es, e.key ≠ enc k) ∨ ∃ x, mlook m k = some x ∧ ∃ e ∈ es, e.key = enc k := by
  induction h with
  | nil => exact .inl ⟨rfl, by simp⟩
  | cons hr hl ih =>
    rename_i p e l es'
    unfold mlook
    by_cases hk : p.1 = k
    · exact .inr ⟨p.2, by simp [hk], e, .head _, by rw [hr.1, hk]⟩
    · have hne : e.key ≠ enc k := by rw [hr.1]; exact fun h => hk (inj _ _ h)
      rcases ih with ⟨h1, h2⟩ | ⟨x, h1, e', he, hk'⟩
      · exact .inl ⟨by simp [hk, h1], fun e' he' => by
          rcases List.mem_cons.1 he' with rfl | he'
          · exact hne
          · exact h2 e' he'⟩
      · exact .inr ⟨x, by simp [hk, h1], e', .tail _ he, hk'⟩
omit [DecidableEq κ] in
theorem L2.keysK {m : List (κ × α)} {es : List MapEntry} (h : L2 (fun (p : κ × α) (e : MapEntry) => e.key = K.enc p.1 ∧ R p.2 e.val) m es) : ∀ e ∈ es, MapKept.IsKey K.desc e.key := by
  induction h with
  | nil => simp
  | cons hr hl ih =>
    intro e he
    rcases List.mem_cons.1 he with rfl | he
    · rw [hr.1]; exact K.isK _
    · exact ih e he
theorem L2.at_look {enc : κ → Value} (inj : ∀ a b, enc a = enc b → a = b) {m : List (κ × α)} {es : List MapEntry} (h : L2 (fun (p : κ × α) (e : MapEntry) => e.key = enc p.1 ∧ R p.2 e.val) m es) (hn : (mkeys m).Nodup) {j : Nat} {e : MapEntry} {k : κ} (hj : es[j]? = some e) (hk : e.key = enc k) :
    ∃ x, mlook m k = some x ∧ R x e.val := by
  rcases h.get j with ⟨_, h2⟩ | ⟨p, e', h1, h2, hr⟩
  · rw [h2] at hj; cases hj
  · rw [h2] at hj
    injection hj with hj
    subst hj
    have : p.1 = k := inj _ _ (hr.1.symm.trans hk)
    subst this
    exact ⟨p.2, mem_mlook hn (List.mem_of_getElem? h1), hr.2⟩

/-- m[k], with or without ok. -/
theorem MapAt.run_lookup (h : MapAt K.enc R w b m) (ht : P.underlying t = some (.map kt et)) {z : Value} (hz : ∀ W : World, (zeroValue et).run P W = .ok z W) (k : κ) :
    (mlook m k = none ∧ ∀ c W, W.heap[b]? = w.heap[b]? → (Instr.lookup t (.map (some b)) (K.enc k) c).run P W = .ok (if c then .tuple #[z, .bool false] else z) W) ∨
    ∃ x v, mlook m k = some x ∧ R x v ∧ ∀ c W, W.heap[b]? = w.heap[b]? → (Instr.lookup t (.map (some b)) (K.enc k) c).run P W = .ok (if c then .tuple #[v, .bool true] else v) W := by
  obtain ⟨es, clock, hb, hl, hn, hst⟩ := h
  rcases MapKept.findNow_spec (K.isK k) es.toList 0 (hl.keysK K) with ⟨h1, h2⟩ | ⟨j, e0, h1, h2, h3⟩
  · refine .inl ⟨?_, fun c W hW => by simp [Instr.lookup, run_underlying ht, MapKept.run_getObj_map (hW.trans hb), MapKept.run_checkKey K.und (K.isK k), MapKept.run_findKey K.und h1, hz, Result.andThen]⟩
    rcases hl.look K.inj k with ⟨h, _⟩ | ⟨x, _, e, he, hk⟩
    · exact h
    · exact absurd hk (h2 e he)
  · obtain ⟨x, hx, hr⟩ := hl.at_look K.inj hn h2 h3
    exact .inr ⟨x, e0.val, hx, hr, fun c W hW => by simp [Instr.lookup, run_underlying ht, MapKept.run_getObj_map (hW.trans hb), MapKept.run_checkKey K.und (K.isK k), MapKept.run_findKey K.und h1, Result.andThen]⟩

omit [DecidableEq κ] in
theorem L2.modify {R : κ × α → MapEntry → Prop} {f : MapEntry → MapEntry} {m : List (κ × α)} {es : List MapEntry} (h : L2 R m es) : ∀ {j : Nat} {p p' : κ × α} {e : MapEntry}, m[j]? = some p → es[j]? = some e → R p' (f e) → L2 R (m.set j p') (es.modify j f) := by
  induction h with
  | nil => intro j p p' e h1; simp at h1
  | cons hr hl ih =>
    intro j p p' e h1 h2 hr'
    cases j with
    | zero =>
      simp at h1 h2
      subst h2
      simpa using L2.cons hr' hl
    | succ j => simpa using L2.cons hr (ih (by simpa using h1) (by simpa using h2) hr')
theorem set_mset {m : List (κ × α)} (hn : (mkeys m).Nodup) {j : Nat} {p : κ × α} (h : m[j]? = some p) (v : α) : m.set j (p.1, v) = mset m p.1 v := by
  induction m generalizing j with
  | nil => simp at h
  | cons q m ih =>
    have hn' : (mkeys m).Nodup := by simp only [mkeys, List.map_cons, List.nodup_cons] at hn ⊢; exact hn.2
    have hq : q.1 ∉ mkeys m := by simp only [mkeys, List.map_cons, List.nodup_cons] at hn ⊢; exact hn.1
    unfold mset
    cases j with
    | zero => simp at h; subst h; simp
    | succ j =>
      have hm : m[j]? = some p := by simpa using h
      rw [if_neg (fun e => hq (by rw [e]; exact List.mem_map.2 ⟨p, List.mem_of_getElem? hm, rfl⟩))]
      simp [ih hn' hm]
theorem mset_new {m : List (κ × α)} {k : κ} (h : mlook m k = none) (v : α) : mset m k v = m ++ [(k, v)] := by
  induction m with
  | nil => rfl
  | cons p m ih =>
    unfold mlook at h
    unfold mset
    split at h
    · cases h
    · rename_i hne
      rw [if_neg hne, ih h]; rfl
omit [DecidableEq κ] in
theorem L2.erase {R : κ × α → MapEntry → Prop} {m : List (κ × α)} {es : List MapEntry} (h : L2 R m es) : ∀ j : Nat, L2 R (m.eraseIdx j) (es.eraseIdx j) := by
  induction h with
  | nil => intro j; exact .nil
  | cons hr hl ih =>
    intro j
    cases j with
    | zero => simpa using hl
    | succ j => simpa using L2.cons hr (ih j)
theorem erase_mdel {m : List (κ × α)} (hn : (mkeys m).Nodup) {j : Nat} {p : κ × α} (h : m[j]? = some p) : m.eraseIdx j = mdel m p.1 := by
  induction m generalizing j with
  | nil => simp at h
  | cons q m ih =>
    have hn' : (mkeys m).Nodup := by simp only [mkeys, List.map_cons, List.nodup_cons] at hn ⊢; exact hn.2
    have hq : q.1 ∉ mkeys m := by simp only [mkeys, List.map_cons, List.nodup_cons] at hn ⊢; exact hn.1
    unfold mdel
    cases j with
    | zero => simp at h; subst h; simp
    | succ j =>
      have hm : m[j]? = some p := by simpa using h
      rw [if_neg (fun e => hq (by rw [e]; exact List.mem_map.2 ⟨p, List.mem_of_getElem? hm, rfl⟩))]
      simp [ih hn' hm]
theorem mdel_none {m : List (κ × α)} {k : κ} (h : mlook m k = none) : mdel m k = m := by
  induction m with
  | nil => rfl
  | cons p m ih =>
    unfold mlook at h
    unfold mdel
    split at h
    · cases h
    · rename_i hne
      rw [if_neg hne, ih h]

/-- m[k] = v. -/
theorem MapAt.run_update (h : MapAt K.enc R w b m) (ht : P.underlying t = some (.map kt et)) (k : κ) {x : α} {v : Value} (hv : R x v) :
    ∃ w1, (Instr.mapUpdate t (.map (some b)) (K.enc k) v).run P w = .ok () w1 ∧ MapAt K.enc R w1 b (mset m k x) ∧ w.grownBy w1 (some b) ∧ w1.heap.size = w.heap.size := by
  obtain ⟨es, clock, hb, hl, hn, hst⟩ := h
  rcases MapKept.findNow_spec (K.isK k) es.toList 0 (hl.keysK K) with ⟨h1, h2⟩ | ⟨j, e0, h1, h2, h3⟩
  · have hnone : mlook m k = none := by
      rcases hl.look K.inj k with ⟨h, _⟩ | ⟨x, _, e, he, hk⟩
      · exact h
      · exact absurd hk (h2 e he)
    refine ⟨{ w with heap := w.heap.setIfInBounds b (.map (es.push { key := K.enc k, val := v, born := clock }) (clock + 1)) }, by simp [Instr.mapUpdate, run_underlying ht, MapKept.run_getObj_map hb, MapKept.run_checkKey K.und (K.isK k), MapKept.run_findKey K.und h1, MapKept.run_setObj_map _ hb, Result.andThen], ?_, ⟨rfl, rfl, rfl, by simp, fun k' hk' hne => ?_⟩, by simp⟩
    · refine ⟨_, _, (MapKept.heap_set hb).1, ?_, nodup_set k x hn, MapKept.stamped_push hst h2⟩
      rw [mset_new hnone, Array.toList_push]
      exact hl.append (.cons ⟨rfl, hv⟩ .nil)
    · exact (MapKept.heap_set hb).2 k' (fun e => hne (by rw [e]))
  · rw [Nat.zero_add] at h1
    have he : es[j]? = some e0 := by rw [← Array.getElem?_toList]; exact h2
    have hsame : Instr.sameBits 10000 e0.key (K.enc k) = true := by
      rw [h3]
      have := K.isK k
      generalize K.enc k = u at this ⊢
      cases hd : K.desc <;> cases u <;> simp_all [MapKept.IsKey, Instr.sameBits, MapKept.bytes_beq]
    refine ⟨{ w with heap := w.heap.setIfInBounds b (.map (es.modify j fun e => { e with key := K.enc k, val := v }) clock) }, by simp [Instr.mapUpdate, run_underlying ht, MapKept.run_getObj_map hb, MapKept.run_checkKey K.und (K.isK k), MapKept.run_findKey K.und h1, Instr.keyThatStays, he, hsame, MapKept.run_setObj_map _ hb, Result.andThen], ?_, ⟨rfl, rfl, rfl, by simp, fun k' hk' hne => ?_⟩, by simp⟩
    · rcases hl.get j with ⟨_, h4⟩ | ⟨p, e', h4, h5, hr⟩
      · rw [h4] at h2; cases h2
      · rw [h5] at h2
        injection h2 with h2
        subst h2
        have hpk : p.1 = k := K.inj _ _ (hr.1.symm.trans h3)
        refine ⟨_, _, (MapKept.heap_set hb).1, ?_, nodup_set k x hn, MapKept.stamped_modify hst j _ (fun _ _ => rfl) (fun e1 _ he1 => by rw [he] at he1; injection he1 with he1; subst he1; exact h3.symm)⟩
        rw [← hpk, ← set_mset hn h4 x, Array.toList_modify]
        exact L2.modify hl h4 h5 ⟨by rw [hpk], hv⟩
    · exact (MapKept.heap_set hb).2 k' (fun e => hne (by rw [e]))

/-- delete(m, k). -/
theorem MapAt.run_delete (h : MapAt K.enc R w b m) (ht : P.underlying t = some (.map kt et)) (k : κ) (ty kty : TypeId) :
    ∃ w1, (Builtin.delete_ #[t, kty] ty #[.map (some b), K.enc k]).run P w = .ok (.tuple #[]) w1 ∧ MapAt K.enc R w1 b (mdel m k) ∧ w.grownBy w1 (some b) ∧ w1.heap.size = w.heap.size := by
  obtain ⟨es, clock, hb, hl, hn, hst⟩ := h
  rcases MapKept.findNow_spec (K.isK k) es.toList 0 (hl.keysK K) with ⟨h1, h2⟩ | ⟨j, e0, h1, h2, h3⟩
  · have hnone : mlook m k = none := by
      rcases hl.look K.inj k with ⟨h, _⟩ | ⟨x, _, e, he, hk⟩
      · exact h
      · exact absurd hk (h2 e he)
    refine ⟨{ w with heap := w.heap.setIfInBounds b (.map es clock) }, by simp [Builtin.delete_, run_underlying ht, MapKept.run_getObj_map hb, MapKept.run_checkKey K.und (K.isK k), MapKept.run_findKey K.und h1, MapKept.run_setObj_map _ hb, Result.andThen], ?_, ⟨rfl, rfl, rfl, by simp, fun k' hk' hne => ?_⟩, by simp⟩
    · exact ⟨_, _, (MapKept.heap_set hb).1, by rw [mdel_none hnone]; exact hl, nodup_del k hn, hst⟩
    · exact (MapKept.heap_set hb).2 k' (fun e => hne (by rw [e]))
  · rw [Nat.zero_add] at h1
    refine ⟨{ w with heap := w.heap.setIfInBounds b (.map (es.eraseIdxIfInBounds j) clock) }, by simp [Builtin.delete_, run_underlying ht, MapKept.run_getObj_map hb, MapKept.run_checkKey K.und (K.isK k), MapKept.run_findKey K.und h1, MapKept.run_setObj_map _ hb, Result.andThen], ?_, ⟨rfl, rfl, rfl, by simp, fun k' hk' hne => ?_⟩, by simp⟩
    · rcases hl.get j with ⟨_, h4⟩ | ⟨p, e', h4, h5, hr⟩
      · rw [h4] at h2; cases h2
      · rw [h5] at h2
        injection h2 with h2
        subst h2
        have hpk : p.1 = k := K.inj _ _ (hr.1.symm.trans h3)
        refine ⟨_, _, (MapKept.heap_set hb).1, ?_, nodup_del k hn, MapKept.stamped_erase hst j⟩
        rw [← hpk, ← erase_mdel hn h4]
        have : (es.eraseIdxIfInBounds j).toList = es.toList.eraseIdx j := by simp [Array.toList_eraseIdxIfInBounds]
        rw [this]
        exact hl.erase j
    · exact (MapKept.heap_set hb).2 k' (fun e => hne (by rw [e]))

omit [DecidableEq κ] in
/-- len(m). -/
theorem MapAt.run_len {enc : κ → Value} (h : MapAt enc R w b m) (ht : P.underlying t = some (.map kt et)) (ty : TypeId) : ∀ W : World, W.heap[b]? = w.heap[b]? →
    (Builtin.len_ #[t] ty #[.map (some b)]).run P W = .ok (goInt m.length) W := by
  obtain ⟨es, clock, hb, hl, hn, hst⟩ := h
  intro W hW
  have : es.size = m.length := by rw [hl.len]; simp
  simp [Builtin.len_, run_underlying ht, MapKept.run_getObj_map (hW.trans hb), Result.andThen, this]
end
/-! ### 5. append on a row of data, base 0 -/
theorem M_apart {α : Type} {d d' : Kd α} {β : Type} {dv : Kd β} {e : Nat} {W : World} {v : Value} {ys : List β} {x : α} {cs : List Value} (h : d.M W 0 (fun _ => True) x cs) (hv : dv.R e W 0 (fun _ => True) v ys) (hE : ∀ q, q ∈ d.E → q ≠ e) : d.M W 0 (fun k => True ∧ some k ≠ v.ownBlock) x cs :=
  d.M_mono (fun k hk => ⟨trivial, fun he => by
    obtain ⟨_, _, _, q, hq, cells, hc⟩ := hk
    obtain ⟨inner, ho⟩ := Kd.R_own hv
    obtain ⟨cells', hc'⟩ := own_typed ho k he.symm
    rw [hc] at hc'
    injection hc' with hc'
    injection hc' with _ hc'
    exact hE q hq hc'⟩) (d.M_bound h)
section
variable {P : Program} {ops : Array Oper} {rest : List Oper} {o : Oper} {a : Act} {Q : Exit → Act → World → Prop} {α : Type}
theorem R_app (d : Kd α) {W : World} (hgd : o.guard = none) (s x : Operand) (t e : TypeId) (z : Value) (bytes : Nat)
    (ho : o.op = .call { callee := .builtin .append, args := #[s, x], argTypes := #[t, t] })
    (ht : P.underlying t = some (.slice e)) (hinfo : (P.info? e).map (fun i => (i.zero, i.size, i.bytes)) = some (some z, d.sz, bytes)) (hz : z.cells.size = d.sz) (hs0 : 0 < d.sz) (hb0 : 0 < bytes) (hE : ∀ q, q ∈ d.E → q ≠ e)
    (v : Value) (xs : List α) (p : α) (cs : List Value) (hs : a.eval s = v) (hx : a.eval x = .slice (some ⟨W.heap.size, 0, none⟩) 1 1) (hp : d.M W 0 (fun _ => True) p cs)
    (HO : d.R e W 0 (fun _ => True) v xs) (hl : (xs.length + 1) * bytes ≤ 140737488355328)
    (h : ∀ v1 w1, d.R e w1 0 (fun _ => True) v1 (xs ++ [p]) → W.grownBy w1 v.ownBlock → (v1.ownBlock = v.ownBlock ∨ ∃ b, v1.ownBlock = some b ∧ W.heap.size ≤ b) → wpList P ops Q rest (a.put o.dst v1) w1) :
    wpList P ops Q (o :: rest) a (W.alloc (.cells cs.toArray e)) :=
  Kd.R_append d (w0 := W) 0 hgd s x t e z bytes ho ht hinfo hz hs0 hb0 v xs p cs (fun _ => True) _ hs hx (M_apart (d' := d) hp HO hE) (fun _ hk => hk) (fun _ _ => trivial) HO (Below.refl _ _) (Nat.zero_le _) hl (fun v1 w1 h1 _ h2 h3 => h v1 w1 h1 h2 h3)
end
section
variable {P : Program} {ops : Array Oper} {o : Oper} {a : Act} {Q : Exit → Act → World → Prop} {Kc : Act → World → Prop} {α : Type}
theorem R_app_step (d : Kd α) {W : World} (hw : Region.wanted o (yielded ops a.tmps) = true) (s x : Operand) (t e : TypeId) (z : Value) (bytes : Nat)
    (ho : o.op = .call { callee := .builtin .append, args := #[s, x], argTypes := #[t, t] })
    (ht : P.underlying t = some (.slice e)) (hinfo : (P.info? e).map (fun i => (i.zero, i.size, i.bytes)) = some (some z, d.sz, bytes)) (hz : z.cells.size = d.sz) (hs0 : 0 < d.sz) (hb0 : 0 < bytes) (hE : ∀ q, q ∈ d.E → q ≠ e)
    (v : Value) (xs : List α) (p : α) (cs : List Value) (hs : a.eval s = v) (hx : a.eval x = .slice (some ⟨W.heap.size, 0, none⟩) 1 1) (hp : d.M W 0 (fun _ => True) p cs)
    (HO : d.R e W 0 (fun _ => True) v xs) (hl : (xs.length + 1) * bytes ≤ 140737488355328)
    (h : ∀ v1 w1, d.R e w1 0 (fun _ => True) v1 (xs ++ [p]) → W.grownBy w1 v.ownBlock → (v1.ownBlock = v.ownBlock ∨ ∃ b, v1.ownBlock = some b ∧ W.heap.size ≤ b) → Kc (a.put o.dst v1) w1) :
    if Region.wanted o (yielded ops a.tmps) = true then Oper.wp P o a (W.alloc (.cells cs.toArray e)) Kc Q else Kc (a.put o.dst undef) (W.alloc (.cells cs.toArray e)) :=
  Kd.R_append_step d (w0 := W) 0 hw s x t e z bytes ho ht hinfo hz hs0 hb0 v xs p cs (fun _ => True) _ hs hx (M_apart (d' := d) hp HO hE) (fun _ hk => hk) (fun _ _ => trivial) HO (Below.refl _ _) (Nat.zero_le _) hl (fun v1 w1 h1 _ h2 h3 => h v1 w1 h1 h2 h3)
end
/-! ### 6. A map's operations in the walk -/
section
variable {κ α : Type} [DecidableEq κ] {P : Program} {kt et : TypeId} (K : Key P kt κ) {R : α → Value → Prop} {W : World} {b : Nat} {m : List (κ × α)}
variable {ops : Array Oper} {rest : List Oper} {o : Oper} {a : Act} {Q : Exit → Act → World → Prop}
theorem wp_mapUpdate_at (hg : o.guard = none) (mo ko vo : Operand) (t : TypeId) (hop : o.op = .mapUpdate t mo ko vo) (ht : P.underlying t = some (.map kt et))
    (hm : a.eval mo = .map (some b)) (hat : MapAt K.enc R W b m) (k : κ) (hk : a.eval ko = K.enc k) (x : α) (v : Value) (hv : a.eval vo = v) (hR : R x v)
    (h : ∀ w1, MapAt K.enc R w1 b (mset m k x) → W.grownBy w1 (some b) → w1.heap.size = W.heap.size → wpList P ops Q rest (a.put o.dst undef) w1) : wpList P ops Q (o :: rest) a W := by
  refine wpList_plain hg fun K' hK' => ?_
  obtain ⟨w1, hrun, r1, r2, r3⟩ := hat.run_update K ht k hR
  unfold Oper.wp
  simp [execOp, hop, hm, hk, hv, hrun, Result.andThen]
  exact hK' _ _ (h w1 r1 r2 r3)
theorem wp_delete_at (hg : o.guard = none) (mo ko : Operand) (t : TypeId) (hop : o.op = .call { callee := .builtin .delete, args := #[mo, ko], argTypes := #[t, kt] }) (ht : P.underlying t = some (.map kt et))
    (hm : a.eval mo = .map (some b)) (hat : MapAt K.enc R W b m) (k : κ) (hk : a.eval ko = K.enc k)
    (h : ∀ w1, MapAt K.enc R w1 b (mdel m k) → W.grownBy w1 (some b) → w1.heap.size = W.heap.size → wpList P ops Q rest (a.put o.dst (.tuple #[])) w1) : wpList P ops Q (o :: rest) a W := by
  refine wpList_plain hg fun K' hK' => ?_
  obtain ⟨w1, hrun, r1, r2, r3⟩ := hat.run_delete K ht k o.type kt
  unfold Oper.wp
  simp [execOp, hop, resolve, invoke, builtin, hm, hk, hrun, Result.andThen]
  exact hK' _ _ (h w1 r1 r2 r3)
omit [DecidableEq κ] in
theorem wp_len_at {enc : κ → Value} (hg : o.guard = none) (mo : Operand) (t : TypeId) (hop : o.op = .call { callee := .builtin .len, args := #[mo], argTypes := #[t] }) (ht : P.underlying t = some (.map kt et))
    (hm : a.eval mo = .map (some b)) (hat : MapAt enc R W b m) (h : wpList P ops Q rest (a.put o.dst (.int .i64 m.length)) W) : wpList P ops Q (o :: rest) a W := by
  refine wpList_plain hg fun K' hK' => ?_
  unfold Oper.wp
  simp [execOp, hop, resolve, invoke, builtin, hm, hat.run_len ht o.type W rfl, Result.andThen]
  exact hK' _ _ h
end
theorem grown_mut {w w1 : World} {b : Nat} (h : w.grownBy w1 (some b)) : Mut (fun k => k = b) w w1 := Mut.of_grown h (fun k hk => by injection hk with hk; exact hk.symm)
theorem cells2 {w : World} {g : Nat} {t : TypeId} {u0 u1 : Value} (h : w.heap[g]? = some (.cells #[u0, u1] t (0, 0))) : w.cell? ⟨g, 0, none⟩ = some u0 ∧ w.cell? ⟨g, 1, none⟩ = some u1 := ⟨(blk_cell h 0).trans rfl, (blk_cell h 1).trans rfl⟩
theorem cells3 {w : World} {g : Nat} {t : TypeId} {u0 u1 u2 : Value} (h : w.heap[g]? = some (.cells #[u0, u1, u2] t (0, 0))) : w.cell? ⟨g, 0, none⟩ = some u0 ∧ w.cell? ⟨g, 1, none⟩ = some u1 ∧ w.cell? ⟨g, 2, none⟩ = some u2 := ⟨(blk_cell h 0).trans rfl, (blk_cell h 1).trans rfl, (blk_cell h 2).trans rfl⟩
theorem cells4 {w : World} {g : Nat} {t : TypeId} {u0 u1 u2 u3 : Value} (h : w.heap[g]? = some (.cells #[u0, u1, u2, u3] t (0, 0))) : w.cell? ⟨g, 0, none⟩ = some u0 ∧ w.cell? ⟨g, 1, none⟩ = some u1 ∧ w.cell? ⟨g, 2, none⟩ = some u2 ∧ w.cell? ⟨g, 3, none⟩ = some u3 := ⟨(blk_cell h 0).trans rfl, (blk_cell h 1).trans rfl, (blk_cell h 2).trans rfl, (blk_cell h 3).trans rfl⟩
theorem cells5 {w : World} {g : Nat} {t : TypeId} {u0 u1 u2 u3 u4 : Value} (h : w.heap[g]? = some (.cells #[u0, u1, u2, u3, u4] t (0, 0))) : w.cell? ⟨g, 0, none⟩ = some u0 ∧ w.cell? ⟨g, 1, none⟩ = some u1 ∧ w.cell? ⟨g, 2, none⟩ = some u2 ∧ w.cell? ⟨g, 3, none⟩ = some u3 ∧ w.cell? ⟨g, 4, none⟩ = some u4 := ⟨(blk_cell h 0).trans rfl, (blk_cell h 1).trans rfl, (blk_cell h 2).trans rfl, (blk_cell h 3).trans rfl, (blk_cell h 4).trans rfl⟩
theorem cells6 {w : World} {g : Nat} {t : TypeId} {u0 u1 u2 u3 u4 u5 : Value} (h : w.heap[g]? = some (.cells #[u0, u1, u2, u3, u4, u5] t (0, 0))) : w.cell? ⟨g, 0, none⟩ = some u0 ∧ w.cell? ⟨g, 1, none⟩ = some u1 ∧ w.cell? ⟨g, 2, none⟩ = some u2 ∧ w.cell? ⟨g, 3, none⟩ = some u3 ∧ w.cell? ⟨g, 4, none⟩ = some u4 ∧ w.cell? ⟨g, 5, none⟩ = some u5 := ⟨(blk_cell h 0).trans rfl, (blk_cell h 1).trans rfl, (blk_cell h 2).trans rfl, (blk_cell h 3).trans rfl, (blk_cell h 4).trans rfl, (blk_cell h 5).trans rfl⟩
/-- A map has been written: what is owned lives on. -/
theorem R_map {α : Type} {d : Kd α} {e : Nat} {w w1 : World} {base : Nat} {ok : Nat → Prop} {v : Value} {xs : List α} (h : d.R e w base ok v xs) {b : Nat} (hb : ∀ C t fr, w.heap[b]? ≠ some (Obj.cells C t fr)) (hg : w.grownBy w1 (some b)) : d.R e w1 base ok v xs :=
  Kd.R_mono (Kd.R_grown (Kd.R_bound h) hg (fun k hk he => by
    obtain ⟨_, _, _, q, hq, cells, hc⟩ := hk
    injection he with he
    subst he
    exact hb _ _ _ hc)) (fun _ hk => hk.1)
theorem MapAt.no_cells {κ α : Type} {enc : κ → Value} {R : α → Value → Prop} {w : World} {b : Nat} {m : List (κ × α)} (h : MapAt enc R w b m) : ∀ C t fr, w.heap[b]? ≠ some (Obj.cells C t fr) := fun C t fr hc => h.ne_cells hc rfl
theorem MapAt.keepT {κ α : Type} {enc : κ → Value} {R : α → Value → Prop} {w w1 : World} {b : Nat} {m : List (κ × α)} (h : MapAt enc R w b m) (hg : w.grownBy w1 (some b)) (D : Nat → Bool) : KeepT D w w1 :=
  (grown_mut hg).keepT (fun k C t fr hk hc => absurd hc (by subst hk; exact h.no_cells C t fr))
theorem grown_undrew {w w1 : World} {r : Option Nat} (h : w.drew.grownBy w1 r) : w.grownBy w1 r := ⟨h.os, h.tape, h.output, h.size, h.block⟩
theorem grown_undrewN {w w1 : World} {n : Nat} {r : Option Nat} (h : (w.drewN n).grownBy w1 r) : w.grownBy w1 r := ⟨h.os, h.tape, h.output, h.size, h.block⟩
end Go.Proofs.YtdhghaiifeienaaGreatDoor

/- The program's types as Lean kinds: rows, touches, claims; closed facts of the program's tables. -/
set_option linter.unusedVariables false
set_option linter.unusedSimpArgs false
namespace Go.Proofs.YtdhghaiifeienaaGreatDoor
open Go.RowKit Go.Proofs.YtdhghaiifeienaaGreatDoorW.PrintWords

abbrev tr : Nat → Prop := fun _ => True

theorem info_int : (Tryz.prog.info? 3).map (fun i => (i.zero, i.size, i.bytes)) = some (some (.int .i64 0), 1, 8) := by kernel_rfl
theorem info_u8 : (Tryz.prog.info? 5).map (fun i => (i.zero, i.size, i.bytes)) = some (some (.int .u8 0), 1, 1) := by kernel_rfl
theorem info_str : (Tryz.prog.info? 9).map (fun i => (i.zero, i.size, i.bytes)) = some (some (.string ⟨#[]⟩), 1, 16) := by kernel_rfl
theorem info_row : (Tryz.prog.info? 44).map (fun i => (i.zero, i.size, i.bytes)) = some (some (.agg #[(.string ⟨#[]⟩), (.string ⟨#[]⟩), (.slice none 0 0), (.slice none 0 0)]), 4, 80) := by kernel_rfl
theorem info_was : (Tryz.prog.info? 176).map (fun i => (i.zero, i.size, i.bytes)) = some (some (.agg #[(.string ⟨#[]⟩), (.string ⟨#[]⟩), (.string ⟨#[]⟩), (.slice none 0 0), (.slice none 0 0), .bool false]), 6, 104) := by kernel_rfl
theorem info_claim : (Tryz.prog.info? 57).map (fun i => (i.zero, i.size, i.bytes)) = some (some (.agg #[(.string ⟨#[]⟩), (.int .u64 0)]), 2, 24) := by kernel_rfl

theorem zero_row (W : World) : (zeroValue 44).run Tryz.prog W = .ok (.agg #[(.string ⟨#[]⟩), (.string ⟨#[]⟩), (.slice none 0 0), (.slice none 0 0)]) W := by kernel_rfl
theorem zero_bool (W : World) : (zeroValue 4).run Tryz.prog W = .ok (.bool false) W := by kernel_rfl
theorem zero_u64 (W : World) : (zeroValue 26).run Tryz.prog W = .ok (.int .u64 0) W := by kernel_rfl
theorem zero_set (W : World) : (zeroValue 114).run Tryz.prog W = .ok (.map none) W := by kernel_rfl
theorem zero_claims (W : World) : (zeroValue 53).run Tryz.prog W = .ok (.slice none 0 0) W := by kernel_rfl

theorem und_rows : Tryz.prog.underlying 168 = some (.map 9 44) := by kernel_rfl
theorem und_back : Tryz.prog.underlying 113 = some (.map 9 114) := by kernel_rfl
theorem und_set : Tryz.prog.underlying 114 = some (.map 9 4) := by kernel_rfl
theorem und_stamps : Tryz.prog.underlying 115 = some (.map 9 26) := by kernel_rfl
theorem und_book : Tryz.prog.underlying 122 = some (.map 3 53) := by kernel_rfl
theorem und_was : Tryz.prog.underlying 169 = some (.slice 176) := by kernel_rfl
theorem und_rowl : Tryz.prog.underlying 39 = some (.slice 44) := by kernel_rfl
theorem und_strl : Tryz.prog.underlying 33 = some (.slice 9) := by kernel_rfl
theorem und_bytes : Tryz.prog.underlying 42 = some (.slice 5) := by kernel_rfl
theorem und_claiml : Tryz.prog.underlying 53 = some (.slice 57) := by kernel_rfl
theorem und_str : Tryz.prog.underlying 9 = some .string := by kernel_rfl
theorem und_int : Tryz.prog.underlying 3 = some (.int .i64) := by kernel_rfl

/-- The element types whose blocks are data: nobody changes them but who made them. -/
def D (t : Nat) : Bool := [5, 9, 44, 42, 184, 133, 73, 166, 26, 3].contains t

/-! ### rows -/
structure Row where
  path : ByteArray
  name : ByteArray
  arch : List Int
  refs : List ByteArray
instance : Inhabited Row := ⟨⟨⟨#[]⟩, ⟨#[]⟩, [], []⟩⟩
def zRow : Row := ⟨⟨#[]⟩, ⟨#[]⟩, [], []⟩
def kRow : Kd Row := Kd.iso (Kd.pair Kd.string (Kd.pair Kd.string (Kd.pair (Kd.slice 5 (Kd.int .u8)) (Kd.slice 9 Kd.string)))) (fun x : Row => (x.path, x.name, x.arch, x.refs))
theorem kRow_open {w : World} {x : Row} {cs : List Value} (h : kRow.K w x cs) : ∃ A2 c2 A3 c3, cs = [.string x.path, .string x.name, .slice A2 x.arch.length c2, .slice A3 x.refs.length c3] ∧ x.arch.length ≤ c2 ∧ (Kd.int .u8).C w A2 x.arch.length x.arch ∧ x.refs.length ≤ c3 ∧ Kd.string.C w A3 x.refs.length x.refs := by
  obtain ⟨_, _, rfl, rfl, ⟨_, _, rfl, rfl, ⟨_, _, rfl, ⟨A2, c2, rfl, l2, g2⟩, ⟨A3, c3, rfl, l3, g3⟩⟩⟩⟩ := h
  exact ⟨A2, c2, A3, c3, rfl, l2, g2, l3, g3⟩
theorem kRow_openM {w : World} {base : Nat} {ok : Nat → Prop} {x : Row} {cs : List Value} (h : kRow.M w base ok x cs) : ∃ v2 v3, cs = [.string x.path, .string x.name, v2, v3] ∧ (Kd.int .u8).R 5 w base ok v2 x.arch ∧ Kd.string.R 9 w base ok v3 x.refs := by
  obtain ⟨_, _, rfl, rfl, ⟨_, _, rfl, rfl, ⟨_, _, rfl, ⟨v2, rfl, g2⟩, ⟨v3, rfl, g3⟩⟩⟩⟩ := h
  exact ⟨v2, v3, rfl, g2, g3⟩
theorem kRow_mk (w : World) (x : Row) {A2 : Option Addr} {c2 : Nat} (l2 : x.arch.length ≤ c2) (g2 : (Kd.int .u8).C w A2 x.arch.length x.arch) {A3 : Option Addr} {c3 : Nat} (l3 : x.refs.length ≤ c3) (g3 : Kd.string.C w A3 x.refs.length x.refs) : kRow.K w x [.string x.path, .string x.name, .slice A2 x.arch.length c2, .slice A3 x.refs.length c3] := ⟨[.string x.path], [.string x.name, .slice A2 x.arch.length c2, .slice A3 x.refs.length c3], rfl, rfl, ⟨[.string x.name], [.slice A2 x.arch.length c2, .slice A3 x.refs.length c3], rfl, rfl, ⟨[.slice A2 x.arch.length c2], [.slice A3 x.refs.length c3], rfl, ⟨A2, c2, rfl, l2, g2⟩, ⟨A3, c3, rfl, l3, g3⟩⟩⟩⟩
theorem kRow_mkM (w : World) (base : Nat) (ok : Nat → Prop) (x : Row) {v2 : Value} (g2 : (Kd.int .u8).R 5 w base ok v2 x.arch) {v3 : Value} (g3 : Kd.string.R 9 w base ok v3 x.refs) : kRow.M w base ok x [.string x.path, .string x.name, v2, v3] := ⟨[.string x.path], [.string x.name, v2, v3], rfl, rfl, ⟨[.string x.name], [v2, v3], rfl, rfl, ⟨[v2], [v3], rfl, ⟨v2, rfl, g2⟩, ⟨v3, rfl, g3⟩⟩⟩⟩
def rdRow (xs : List Row) (i : Int) : Row := xs.getD i.toNat zRow
/-- A row's value, owned by nobody in particular. -/
def RowV (w : World) (x : Row) (v : Value) : Prop := ∃ v2 v3, v = .agg #[.string x.path, .string x.name, v2, v3] ∧ (Kd.int .u8).R 5 w 0 tr v2 x.arch ∧ Kd.string.R 9 w 0 tr v3 x.refs
theorem RowV.open_ {w : World} {x : Row} {v : Value} (h : RowV w x v) : ∃ A2 c2 A3 c3, v = .agg #[.string x.path, .string x.name, .slice A2 x.arch.length c2, .slice A3 x.refs.length c3] ∧ (Kd.int .u8).R 5 w 0 tr (.slice A2 x.arch.length c2) x.arch ∧ Kd.string.R 9 w 0 tr (.slice A3 x.refs.length c3) x.refs := by
  obtain ⟨v2, v3, rfl, h2, h3⟩ := h
  obtain ⟨A2, c2, rfl⟩ := Kd.R_slice h2
  obtain ⟨A3, c3, rfl⟩ := Kd.R_slice h3
  exact ⟨A2, c2, A3, c3, rfl, h2, h3⟩
theorem RowV.mk {w : World} {x : Row} {v2 v3 : Value} (h2 : (Kd.int .u8).R 5 w 0 tr v2 x.arch) (h3 : Kd.string.R 9 w 0 tr v3 x.refs) : RowV w x (.agg #[.string x.path, .string x.name, v2, v3]) := ⟨v2, v3, rfl, h2, h3⟩
theorem RowV.below {w w1 : World} {x : Row} {v : Value} (h : RowV w x v) (hb : Below w.heap.size w w1) : RowV w1 x v := by
  obtain ⟨v2, v3, rfl, h2, h3⟩ := h
  exact ⟨v2, v3, rfl, Kd.R_below h2 hb, Kd.R_below h3 hb⟩
theorem RowV.keep {w w1 : World} {x : Row} {v : Value} (h : RowV w x v) (hk : KeepT D w w1) : RowV w1 x v := by
  obtain ⟨v2, v3, rfl, h2, h3⟩ := h
  exact ⟨v2, v3, rfl, R_keepT h2 (by decide) hk, R_keepT h3 (by decide) hk⟩
theorem RowV.zero (w : World) : RowV w zRow (.agg #[(.string ⟨#[]⟩), (.string ⟨#[]⟩), (.slice none 0 0), (.slice none 0 0)]) := ⟨_, _, rfl, Kd.R_nil _ _ _ _ _, Kd.R_nil _ _ _ _ _⟩


/-! ### a row written into a block of its own -/
def set4 (w : World) (g : Nat) (v0 v1 v2 v3 : Value) : World := (((w.setCell ⟨g, 0, none⟩ v0).setCell ⟨g, 1, none⟩ v1).setCell ⟨g, 2, none⟩ v2).setCell ⟨g, 3, none⟩ v3
theorem set4_blk {w : World} {g : Nat} {t : TypeId} {a0 a1 a2 a3 : Value} (h : w.heap[g]? = some (.cells #[a0, a1, a2, a3] t (0, 0))) (v0 v1 v2 v3 : Value) : (set4 w g v0 v1 v2 v3).heap[g]? = some (.cells #[v0, v1, v2, v3] t (0, 0)) := by
  have := blk_set (blk_set (blk_set (blk_set h 0 v0) 1 v1) 2 v2) 3 v3
  simpa [set4] using this
theorem set4_mut (w : World) (g : Nat) (v0 v1 v2 v3 : Value) : Mut (fun k => k = g) w (set4 w g v0 v1 v2 v3) :=
  ((((Mut.refl (fun k => k = g) w).setCell (p := ⟨g, 0, none⟩) (fun _ => rfl) v0).setCell (p := ⟨g, 1, none⟩) (fun _ => rfl) v1).setCell (p := ⟨g, 2, none⟩) (fun _ => rfl) v2).setCell (p := ⟨g, 3, none⟩) (fun _ => rfl) v3
theorem RowV.set4 {w : World} {x : Row} {v : Value} {g : Nat} {C : Array Value} (h : RowV w x v) (hb : w.heap[g]? = some (.cells C 44 (0, 0))) (v0 v1 v2 v3 : Value) : RowV (set4 w g v0 v1 v2 v3) x v := by
  obtain ⟨u2, u3, rfl, h2, h3⟩ := h
  have e1 := blk_set hb 0 v0
  have e2 := blk_set e1 1 v1
  have e3 := blk_set e2 2 v2
  exact ⟨u2, u3, rfl,
    Kd.R_mono (Kd.R_set (Kd.R_mono (Kd.R_set (Kd.R_mono (Kd.R_set (Kd.R_mono (Kd.R_set h2 hb (by decide) 0 v0) (fun _ _ => trivial)) e1 (by decide) 1 v1) (fun _ _ => trivial)) e2 (by decide) 2 v2) (fun _ _ => trivial)) e3 (by decide) 3 v3) (fun _ _ => trivial),
    Kd.R_mono (Kd.R_set (Kd.R_mono (Kd.R_set (Kd.R_mono (Kd.R_set (Kd.R_mono (Kd.R_set h3 hb (by decide) 0 v0) (fun _ _ => trivial)) e1 (by decide) 1 v1) (fun _ _ => trivial)) e2 (by decide) 2 v2) (fun _ _ => trivial)) e3 (by decide) 3 v3) (fun _ _ => trivial)⟩
theorem size_row : (Tryz.prog.info? 44).map (·.size) = some 4 := by kernel_rfl
theorem results_row_t {fn : Func} {p u : Tmp} (h : fn.results = #[.cell p 44, .tmp u]) (tmps : Array Value) (w : World) (g : Nat) (v0 v1 v2 v3 : Value) (t : TypeId)
    (hp : tmps.getD p undef = .pointer (some ⟨g, 0, none⟩)) (e4 : w.heap[g]? = some (.cells #[v0, v1, v2, v3] t (0, 0))) : (results fn tmps).run Tryz.prog w = .ok (.tuple #[.agg #[v0, v1, v2, v3], tmps.getD u undef]) w :=
  results_ct h tmps w g t _ _ _ hp e4 Tryz.underlying44 rfl size_row
theorem results_row {fn : Func} {p : Tmp} (h : fn.results = #[.cell p 44]) (tmps : Array Value) (w : World) (g : Nat) (v0 v1 v2 v3 : Value) (t : TypeId)
    (hp : tmps.getD p undef = .pointer (some ⟨g, 0, none⟩)) (e4 : w.heap[g]? = some (.cells #[v0, v1, v2, v3] t (0, 0))) : (results fn tmps).run Tryz.prog w = .ok (.agg #[v0, v1, v2, v3]) w := by
  have hp' : tmps[p]?.getD undef = .pointer (some ⟨g, 0, none⟩) := by simpa using hp
  simp [results, h, hp', asAddr, run_loadVar_row w g t 44 #[v0, v1, v2, v3] (0, 0) _ e4 Tryz.underlying44 rfl size_row]

end Go.Proofs.YtdhghaiifeienaaGreatDoor

/- The table of rows with its journal (package rows): what each of its functions does. -/
set_option linter.unusedVariables false
set_option linter.unusedSimpArgs false
namespace Go.Proofs.YtdhghaiifeienaaGreatDoor
open Go.RowKit Go.Proofs.YtdhghaiifeienaaGreatDoorW.PrintWords

/-- What a key had. -/
structure Was where
  key : ByteArray
  v : Row
  had : Bool
def kWas : Kd Was := Kd.iso (Kd.pair Kd.string (Kd.pair kRow Kd.bool)) (fun x : Was => (x.key, x.v, x.had))
theorem kWas_openM {w : World} {base : Nat} {ok : Nat → Prop} {x : Was} {cs : List Value} (h : kWas.M w base ok x cs) : ∃ v2 v3, cs = [.string x.key, .string x.v.path, .string x.v.name, v2, v3, .bool x.had] ∧ (Kd.int .u8).R 5 w base ok v2 x.v.arch ∧ Kd.string.R 9 w base ok v3 x.v.refs := by
  obtain ⟨_, _, rfl, rfl, ⟨_, _, rfl, h1, rfl⟩⟩ := h
  obtain ⟨v2, v3, rfl, g2, g3⟩ := kRow_openM h1
  exact ⟨v2, v3, rfl, g2, g3⟩
theorem kWas_mkM (w : World) (base : Nat) (ok : Nat → Prop) (x : Was) {v2 : Value} (g2 : (Kd.int .u8).R 5 w base ok v2 x.v.arch) {v3 : Value} (g3 : Kd.string.R 9 w base ok v3 x.v.refs) : kWas.M w base ok x [.string x.key, .string x.v.path, .string x.v.name, v2, v3, .bool x.had] :=
  ⟨[.string x.key], [.string x.v.path, .string x.v.name, v2, v3, .bool x.had], rfl, rfl, ⟨[.string x.v.path, .string x.v.name, v2, v3], [.bool x.had], rfl, kRow_mkM w base ok x.v g2 g3, rfl⟩⟩

/-- A table: its two cells, its map, its journal. -/
structure TableAt (w : World) (tb lb : Nat) (jv : Value) (rows : List (ByteArray × Row)) (J : List Was) : Prop where
  blk : w.heap[tb]? = some (.cells #[.map (some lb), jv] 171 (0, 0))
  map : MapAt Value.string (RowV w) w lb rows
  jour : kWas.R 176 w 0 tr jv J

noncomputable abbrev strK : Key Tryz.prog 9 ByteArray := strKey und_str

theorem table_get (w : World) (tb lb : Nat) (rows : List (ByteArray × Row)) (p : ByteArray) (hblk : w.cell? ⟨tb, 0, none⟩ = some (.map (some lb))) (hm : MapAt Value.string (RowV w) w lb rows) :
    Calls Tryz.prog 126 #[.pointer (some ⟨tb, 0, none⟩), .string p] w fun e w' => ∃ v, e = .returned (.tuple #[v, .bool (mlook rows p).isSome]) ∧ RowV w' ((mlook rows p).getD zRow) v ∧ Below w.heap.size w w' := by
  have hlt : tb < w.heap.size := World.block_lt_of_cell? w _ hblk
  have hll := hm.lt
  rcases MapAt.run_lookup strK hm und_rows zero_row p with ⟨h1, h2⟩ | ⟨x, v, h1, hR, h2⟩
  · rw [h1]
    have h3 := h2 true (w.alloc (.cells #[(.string ⟨#[]⟩), (.string ⟨#[]⟩), (.slice none 0 0), (.slice none 0 0)] 44)) (Below.heap_alloc _ _ _ hll)
    clear h2 h1 hll
    simp only [if_true] at h3
    change (Instr.lookup _ (.map (some lb)) (.string p) true).run _ _ = _ at h3
    go_enter Tryz.func126, Tryz.ntmps126
    go_wp2
    go_returns
    exact ⟨_, rfl, RowV.zero _, by go_grown⟩
  · obtain ⟨A2, c2, A3, c3, rfl, hb2, hb3⟩ := hR.open_
    rw [h1]
    have h3 := h2 true (w.alloc (.cells #[(.string ⟨#[]⟩), (.string ⟨#[]⟩), (.slice none 0 0), (.slice none 0 0)] 44)) (Below.heap_alloc _ _ _ hll)
    clear h2 h1 hll
    simp only [if_true] at h3
    change (Instr.lookup _ (.map (some lb)) (.string p) true).run _ _ = _ at h3
    go_enter Tryz.func126, Tryz.ntmps126
    go_wp2
    go_returns
    refine ⟨_, rfl, hR.below ?_, ?_⟩ <;> go_grown

theorem TableAt.cell0 {w : World} {tb lb : Nat} {jv : Value} {rows : List (ByteArray × Row)} {J : List Was} (h : TableAt w tb lb jv rows J) : w.cell? ⟨tb, 0, none⟩ = some (.map (some lb)) := (blk_cell h.blk 0).trans rfl
theorem TableAt.cell1 {w : World} {tb lb : Nat} {jv : Value} {rows : List (ByteArray × Row)} {J : List Was} (h : TableAt w tb lb jv rows J) : w.cell? ⟨tb, 1, none⟩ = some jv := (blk_cell h.blk 1).trans rfl
theorem TableAt.jne {w : World} {tb lb : Nat} {jv : Value} {rows : List (ByteArray × Row)} {J : List Was} (h : TableAt w tb lb jv rows J) : some tb ≠ jv.ownBlock := Kd.R_ne h.jour h.blk (by decide)

theorem rows_move {w w2 : World} {lb : Nat} {rows : List (ByteArray × Row)} (hm : MapAt Value.string (RowV w) w lb rows) (hb : w2.heap[lb]? = w.heap[lb]?) (hk : KeepT D w w2) : MapAt Value.string (RowV w2) w2 lb rows := hm.move hb (fun p _ v hv => hv.keep hk)
/-- What the table's functions may change: its cells, its map, its journal's row. -/
def TabF (tb lb : Nat) (jv : Value) (k : Nat) : Prop := k = tb ∨ k = lb ∨ jv.ownBlock = some k
theorem TableAt.typ {w : World} {tb lb : Nat} {jv : Value} {rows : List (ByteArray × Row)} {J : List Was} (h : TableAt w tb lb jv rows J) (k : Nat) (C : Array Value) (t : TypeId) (fr : Nat × Nat) (hk : TabF tb lb jv k) (hb : w.heap[k]? = some (Obj.cells C t fr)) : D t = false := by
  rcases hk with rfl | rfl | hk
  · rw [h.blk] at hb; injection hb with hb; injection hb with _ e _; subst e; decide
  · obtain ⟨es, cl, h1, _⟩ := h.map; rw [h1] at hb; cases hb
  · obtain ⟨inner, ho⟩ := Kd.R_own h.jour
    obtain ⟨cells, hc⟩ := own_typed ho k hk
    rw [hc] at hb; injection hb with hb; injection hb with _ e _; subst e; decide
theorem TableAt.lne {w : World} {tb lb : Nat} {jv : Value} {rows : List (ByteArray × Row)} {J : List Was} (h : TableAt w tb lb jv rows J) : tb ≠ lb ∧ jv.ownBlock ≠ some lb := by
  refine ⟨h.map.ne_cells h.blk, fun he => ?_⟩
  obtain ⟨inner, ho⟩ := Kd.R_own h.jour
  obtain ⟨cells, hc⟩ := own_typed ho lb he
  exact h.map.ne_cells hc rfl

theorem table_note (w : World) (tb lb : Nat) (jv : Value) (rows : List (ByteArray × Row)) (J : List Was) (p : ByteArray) (h : TableAt w tb lb jv rows J) (hJ : J.length < 1000000) :
    Calls Tryz.prog 139 #[.pointer (some ⟨tb, 0, none⟩), .string p] w fun e w' => e = .returned (.bool (mlook rows p).isSome) ∧ ∃ jv', TableAt w' tb lb jv' rows (J ++ [⟨p, (mlook rows p).getD zRow, (mlook rows p).isSome⟩]) ∧
      Mut (fun k => k = tb ∨ jv.ownBlock = some k) w w' ∧ (jv'.ownBlock = jv.ownBlock ∨ ∃ b, jv'.ownBlock = some b ∧ w.heap.size ≤ b) := by
  have c0 := h.cell0
  have c1 := h.cell1
  obtain ⟨Aj, cj, rfl⟩ := Kd.R_slice h.jour
  have hlt : tb < w.heap.size := World.block_lt_of_cell? w _ c0
  have hlt1 : tb < w.heap.size + 1 := by omega
  have f1 : w.frozen? ⟨tb, 1, none⟩ = false := blk_frozen h.blk 1
  go_enter Tryz.func139, Tryz.ntmps139
  go_wp2_with (go_at_call 126; (with_reducible refine (table_get w tb lb rows p c0 h.map).mono ?_); rintro e w' ⟨v, rfl, hv, hb⟩; obtain ⟨A2, c2, A3, c3, rfl, hb2, hb3⟩ := hv.open_)
  have d0 := (hb.cell (p := ⟨tb, 0, none⟩) hlt).trans c0
  have d1 := (hb.cell (p := ⟨tb, 1, none⟩) hlt).trans c1
  have g1 := (hb.frozen (p := ⟨tb, 1, none⟩) hlt).trans f1
  have hs := hb.size
  have hl2 : tb < w'.heap.size := by omega
  have hl3 : tb < w'.heap.size + 1 := by omega
  generalize hX : (mlook rows p).getD zRow = X at hb2 hb3
  have HJ := Lib.hid (Kd.R_below h.jour hb)
  have HX := Lib.hid hX
  clear hX hv
  go_region_law (refine R_app_step kWas (W := (w'.alloc _).drew) rfl (.tmp 17) (.tmp 22) 169 176 _ 104 rfl und_was info_was rfl (by decide) (by decide) (by decide) (.slice Aj J.length cj) J ⟨p, X, (mlook rows p).isSome⟩ [.string p, .string X.path, .string X.name, .slice A2 X.arch.length c2, .slice A3 X.refs.length c3, .bool (mlook rows p).isSome] ?_ ?_ ?_ ?_ ?_ ?_; (rfl); (simp [Act.eval]); (exact kWas_mkM _ _ _ _ (Kd.R_below hb2 (below_drew (below_alloc (Below.refl _ _) _))) (Kd.R_below hb3 (below_drew (below_alloc (Below.refl _ _) _)))); (exact Kd.R_below HJ.out (below_drew (below_alloc (Below.refl _ _) _))); (omega); intro v1 w1 hR hg hat; obtain ⟨A9, c9, rfl⟩ := Kd.R_slice hR; have e0 := blk_grown (blk_drew (blk_alloc (blk_below h.blk hb) _)) hg h.jne; have e1 := blk_cell e0 1; have e2 := blk_frozen e0 1; simp at e1)
  all_goals
    go_wp2
    go_returns
    have hM1 : Mut (fun k => k = tb ∨ (Value.slice Aj J.length cj).ownBlock = some k) w w1 := (((Mut.of_below hb).alloc _).drew).trans (Mut.of_grown (F := fun k => (Value.slice Aj J.length cj).ownBlock = some k) hg (fun k hk => hk)) (fun _ _ hk => .inr hk)
    have hM := hM1.setCell (p := ⟨tb, 1, none⟩) (fun _ => .inl rfl) (.slice A9 (J.length + 1) c9)
    have hK : KeepT D w (w1.setCell ⟨tb, 1, none⟩ (.slice A9 (J.length + 1) c9)) := hM.keepT (fun k C t fr hk hb' => h.typ k C t fr (hk.imp id .inr) hb')
    have hl9 : (J ++ [(⟨p, X, (mlook rows p).isSome⟩ : Was)]).length = J.length + 1 := by simp
    rw [hl9] at hR hat
    refine ⟨rfl, .slice A9 (J.length + 1) c9, ⟨blk_set e0 1 _, rows_move h.map (hM.block lb h.map.lt (fun hk => hk.elim (fun e => h.lne.1 e.symm) h.lne.2)) hK, ?_⟩, hM, ?_⟩
    · rw [HX.out]; exact Kd.R_set hR e0 (by decide) 1 _
    · refine hat.imp id (fun ⟨b, h1, h2⟩ => ⟨b, h1, ?_⟩)
      simp at h2; omega

theorem TableAt.below {w w1 : World} {tb lb : Nat} {jv : Value} {rows : List (ByteArray × Row)} {J : List Was} (h : TableAt w tb lb jv rows J) (hb : Below w.heap.size w w1) : TableAt w1 tb lb jv rows J :=
  ⟨blk_below h.blk hb, rows_move h.map (hb.block _ h.map.lt) (KeepT.of_below hb), Kd.R_below h.jour hb⟩

set_option maxRecDepth 100000 in
theorem table_set (w : World) (tb lb : Nat) (jv : Value) (rows : List (ByteArray × Row)) (J : List Was) (p : ByteArray) (x : Row) (v : Value) (h : TableAt w tb lb jv rows J) (hJ : J.length < 1000000) (hv : RowV w x v) :
    Calls Tryz.prog 112 #[.pointer (some ⟨tb, 0, none⟩), .string p, v] w fun e w' => e = .returned (.tuple #[]) ∧ ∃ jv', TableAt w' tb lb jv' (mset rows p x) (J ++ [⟨p, (mlook rows p).getD zRow, (mlook rows p).isSome⟩]) ∧
      Mut (TabF tb lb jv) w w' ∧ (jv'.ownBlock = jv.ownBlock ∨ ∃ b, jv'.ownBlock = some b ∧ w.heap.size ≤ b) := by
  obtain ⟨A2, c2, A3, c3, rfl, hb2, hb3⟩ := hv.open_
  go_enter Tryz.func112, Tryz.ntmps112
  go_wp2_with (go_at_call 139; (with_reducible refine (table_note _ tb lb jv rows J p (h.below (below_alloc (Below.refl _ _) _)) hJ).mono ?_); rintro e w' ⟨rfl, jv', ht', hM, hat⟩; have d0 := ht'.cell0; have gB := hM.at_ (k := w.heap.size) (heap_alloc_new w _) (fun hk => hk.elim (fun e => by have := blk_lt h.blk; omega) (fun e => by have := Kd.R_lt h.jour _ e; omega)); obtain ⟨q0, q1, q2, q3⟩ := cells4 gB)
  have hlt : w.heap.size < w'.heap.size := blk_lt gB
  have hlb : tb < w'.heap.size := blk_lt ht'.blk
  have hMw : Mut (TabF tb lb jv) w w' := ((Mut.refl _ w).alloc _).trans hM (fun k _ hk => hk.imp id .inr)
  have hK := hMw.keepT h.typ
  go_still_tail 6, (by kernel_rfl)
  change wpList _ _ _ _ _ w'.drew
  refine wp_mapUpdate_at strK rfl (.tmp 14) (.tmp 15) (.tmp 16) 168 rfl und_rows rfl ht'.map p rfl x _ rfl (hv.keep hK) ?_
  intro w2 hm2 hg2 hs2
  go_wp2
  go_returns
  have hM2 : Mut (TabF tb lb jv) w w2 := (hMw.drew).trans (grown_mut hg2) (fun k _ hk => .inr (.inl hk))
  have hK2 : KeepT D w' w2 := ht'.map.keepT (grown_undrew hg2) D
  refine ⟨rfl, jv', ⟨blk_grown (blk_drew ht'.blk) hg2 (by simpa using ht'.lne.1), hm2.move rfl (fun p _ v hv => hv.keep hK2), R_map (Kd.R_drew ht'.jour) ht'.map.no_cells hg2⟩, hM2, ?_⟩
  refine hat.imp id (fun ⟨b, h1, h2⟩ => ⟨b, h1, ?_⟩)
  simp at h2; omega
end Go.Proofs.YtdhghaiifeienaaGreatDoor

/- The table of rows, continued. -/
set_option linter.unusedVariables false
set_option linter.unusedSimpArgs false
namespace Go.Proofs.YtdhghaiifeienaaGreatDoor
open Go.RowKit Go.Proofs.YtdhghaiifeienaaGreatDoorW.PrintWords

theorem table_len (w : World) (tb lb : Nat) (jv : Value) (rows : List (ByteArray × Row)) (J : List Was) (h : TableAt w tb lb jv rows J) :
    Calls Tryz.prog 138 #[.pointer (some ⟨tb, 0, none⟩)] w fun e w' => e = .returned (.int .i64 rows.length) ∧ w = w' := by
  have d0 := h.cell0
  go_enter Tryz.func138, Tryz.ntmps138
  go_wp2_with (with_reducible refine wp_len_at rfl (.tmp 8) 168 rfl und_rows rfl h.map ?_)
  go_returns
  exact ⟨rfl, rfl⟩

theorem table_mark (w : World) (tb lb : Nat) (jv : Value) (rows : List (ByteArray × Row)) (J : List Was) (h : TableAt w tb lb jv rows J) :
    Calls Tryz.prog 113 #[.pointer (some ⟨tb, 0, none⟩)] w fun e w' => e = .returned (.int .i64 J.length) ∧ w = w' := by
  have d1 := h.cell1
  obtain ⟨Aj, cj, rfl⟩ := Kd.R_slice h.jour
  go_enter Tryz.func113, Tryz.ntmps113
  go_wp2
  go_returns
  exact ⟨rfl, rfl⟩

theorem table_done (w : World) (tb lb : Nat) (jv : Value) (rows : List (ByteArray × Row)) (J : List Was) (h : TableAt w tb lb jv rows J) :
    Calls Tryz.prog 68 #[.pointer (some ⟨tb, 0, none⟩)] w fun e w' => e = .returned (.tuple #[]) ∧ TableAt w' tb lb (.slice none 0 0) rows [] ∧ Mut (fun k => k = tb) w w' := by
  have d1 := h.cell1
  have f1 : w.frozen? ⟨tb, 1, none⟩ = false := blk_frozen h.blk 1
  obtain ⟨Aj, cj, rfl⟩ := Kd.R_slice h.jour
  go_enter Tryz.func68, Tryz.ntmps68
  go_wp2
  go_returns
  have hM : Mut (fun k => k = tb) w (w.setCell ⟨tb, 1, none⟩ (.slice none 0 0)) := (Mut.refl (fun k => k = tb) w).setCell (p := ⟨tb, 1, none⟩) (fun _ => rfl) _
  have hK := hM.keepT (D := D) (fun k C t fr hk hb => h.typ k C t fr (.inl hk) hb)
  exact ⟨rfl, ⟨blk_set h.blk 1 _, rows_move h.map (hM.block lb h.map.lt (fun e => h.lne.1 e.symm)) hK, Kd.R_nil _ _ _ _ _⟩, hM⟩

theorem table_new (w : World) :
    Calls Tryz.prog 64 #[] w fun e w' => ∃ tb lb, e = .returned (.pointer (some ⟨tb, 0, none⟩)) ∧ w.heap.size ≤ tb ∧ w.heap.size ≤ lb ∧ TableAt w' tb lb (.slice none 0 0) [] [] ∧ Below w.heap.size w w' := by
  have hmm := @run_makeMap Tryz.prog
  go_enter Tryz.func64, Tryz.ntmps64
  go_wp2
  go_returns
  refine ⟨w.heap.size + 1, w.heap.size, rfl, by omega, by omega, ⟨?_, ?_, Kd.R_nil _ _ _ _ _⟩, by go_grown⟩
  · have := heap_alloc_new (w.alloc (.map #[] 0)) (.cells #[.map (some w.heap.size), .slice none 0 0] 171)
    simpa using this
  · exact (MapAt.made _ _ w).same (Below.heap_alloc _ _ _ (by simp))

set_option maxRecDepth 100000 in
theorem table_drop (w : World) (tb lb : Nat) (jv : Value) (rows : List (ByteArray × Row)) (J : List Was) (p : ByteArray) (h : TableAt w tb lb jv rows J) (hJ : J.length < 1000000) (hp : (mlook rows p).isSome = true) :
    Calls Tryz.prog 119 #[.pointer (some ⟨tb, 0, none⟩), .string p] w fun e w' => e = .returned (.bool true) ∧ ∃ jv', TableAt w' tb lb jv' (mdel rows p) (J ++ [⟨p, (mlook rows p).getD zRow, (mlook rows p).isSome⟩]) ∧
      Mut (TabF tb lb jv) w w' ∧ (jv'.ownBlock = jv.ownBlock ∨ ∃ b, jv'.ownBlock = some b ∧ w.heap.size ≤ b) := by
  go_enter Tryz.func119, Tryz.ntmps119
  go_wp2_with (go_at_call 126; (with_reducible refine (table_get w tb lb rows p h.cell0 h.map).mono ?_); rw [hp]; rintro e w1 ⟨v, rfl, hv, hb⟩; obtain ⟨A2, c2, A3, c3, rfl, hb2, hb3⟩ := hv.open_)
  have hb1 : Below w.heap.size w (w1.alloc (.cells #[.string ((mlook rows p).getD zRow).path, .string ((mlook rows p).getD zRow).name, .slice A2 ((mlook rows p).getD zRow).arch.length c2, .slice A3 ((mlook rows p).getD zRow).refs.length c3] 44)) := below_alloc hb _
  go_wp2_with (first | (go_at_call 139; (with_reducible refine (table_note _ tb lb jv rows J p (h.below hb1) hJ).mono ?_); rintro e w' ⟨rfl, jv', ht', hM, hat⟩; have d0 := ht'.cell0) | (at_delete; refine wp_delete_at strK rfl (.tmp 21) (.tmp 22) 168 rfl und_rows rfl (‹TableAt w' tb lb _ _ _›).map p rfl ?_; intro w2 hm2 hg2 hs2))
  have hMw : Mut (TabF tb lb jv) w w' := (Mut.of_below hb1).trans hM (fun k _ hk => hk.imp id .inr)
  go_wp2
  go_returns
  have hM2 : Mut (TabF tb lb jv) w w2 := hMw.trans (grown_mut hg2) (fun k _ hk => .inr (.inl hk))
  have hK2 : KeepT D w' w2 := ht'.map.keepT hg2 D
  refine ⟨rfl, jv', ⟨blk_grown ht'.blk hg2 (by simpa using ht'.lne.1), hm2.move rfl (fun p _ v hv => hv.keep hK2), R_map ht'.jour ht'.map.no_cells hg2⟩, hM2, ?_⟩
  refine hat.imp id (fun ⟨b, h1, h2⟩ => ⟨b, h1, ?_⟩)
  have := hb1.size
  omega

/-- One step back. -/
def undo1 (x : Was) (rows : List (ByteArray × Row)) : List (ByteArray × Row) := if x.had then mset rows x.key x.v else mdel rows x.key

theorem kWas_open {w : World} {x : Was} {cs : List Value} (h : kWas.K w x cs) : ∃ A2 c2 A3 c3, cs = [.string x.key, .string x.v.path, .string x.v.name, .slice A2 x.v.arch.length c2, .slice A3 x.v.refs.length c3, .bool x.had] := by
  obtain ⟨_, _, rfl, rfl, ⟨_, _, rfl, h1, rfl⟩⟩ := h
  obtain ⟨A2, c2, A3, c3, rfl, _⟩ := kRow_open h1
  exact ⟨A2, c2, A3, c3, rfl⟩
/-- The last entry of a journal: its cells, its row. -/
theorem jour_last {w : World} {jv : Value} {J : List Was} {x : Was} (h : kWas.R 176 w 0 tr jv (J ++ [x])) : ∃ g c A2 c2 A3 c3, jv = .slice (some ⟨g, 0, none⟩) (J.length + 1) c ∧ J.length + 1 ≤ c ∧ g < w.heap.size ∧
    w.cell? ⟨g, J.length * 6, none⟩ = some (.string x.key) ∧ w.cell? ⟨g, J.length * 6 + 1, none⟩ = some (.string x.v.path) ∧ w.cell? ⟨g, J.length * 6 + 2, none⟩ = some (.string x.v.name) ∧ w.cell? ⟨g, J.length * 6 + 3, none⟩ = some (.slice A2 x.v.arch.length c2) ∧ w.cell? ⟨g, J.length * 6 + 4, none⟩ = some (.slice A3 x.v.refs.length c3) ∧ w.cell? ⟨g, J.length * 6 + 5, none⟩ = some (.bool x.had) ∧
    RowV w x.v (.agg #[.string x.v.path, .string x.v.name, .slice A2 x.v.arch.length c2, .slice A3 x.v.refs.length c3]) := by
  obtain ⟨g, cap, rfl, _, hg, _⟩ := Kd.R_form h (by simp)
  obtain ⟨h0, inner, ho, hr⟩ := h
  have hx : (J ++ [x])[J.length]? = some x := by simp
  obtain ⟨v2, v3, hcs, g2, g3⟩ := kWas_openM (hr.2 J.length x hx)
  obtain ⟨A2, c2, rfl⟩ := Kd.R_slice g2
  obtain ⟨A3, c3, rfl⟩ := Kd.R_slice g3
  have hsz : kWas.sz = 6 := rfl
  rw [hsz] at hcs
  have hin : ∀ j u, ([.string x.key, .string x.v.path, .string x.v.name, .slice A2 x.v.arch.length c2, .slice A3 x.v.refs.length c3, .bool x.had] : List Value)[j]? = some u → w.cell? ⟨g, J.length * 6 + j, none⟩ = some u := by
    intro j u hu
    rw [← hcs, List.getElem?_take] at hu
    split at hu
    · rw [List.getElem?_drop] at hu
      have := ho.cells (g := g) rfl _ u hu
      rwa [add_plain] at this
    · cases hu
  have hl : (J ++ [x]).length = J.length + 1 := by simp
  have hle := own_le ho
  rw [hl] at hle ⊢
  exact ⟨g, cap, A2, c2, A3, c3, rfl, hle, hg, hin 0 _ rfl, hin 1 _ rfl, hin 2 _ rfl, hin 3 _ rfl, hin 4 _ rfl, hin 5 _ rfl, RowV.mk (Kd.R_mono g2 (fun _ _ => trivial)) (Kd.R_mono g3 (fun _ _ => trivial))⟩

theorem table_setj {w : World} {tb lb : Nat} {jv jv' : Value} {rows : List (ByteArray × Row)} {J J' : List Was} (h : TableAt w tb lb jv rows J) (hj : kWas.R 176 w 0 tr jv' J') : TableAt (w.setCell ⟨tb, 1, none⟩ jv') tb lb jv' rows J' ∧ Mut (fun k => k = tb) w (w.setCell ⟨tb, 1, none⟩ jv') := by
  have hM : Mut (fun k => k = tb) w (w.setCell ⟨tb, 1, none⟩ jv') := (Mut.refl (fun k => k = tb) w).setCell (p := ⟨tb, 1, none⟩) (fun _ => rfl) _
  have hK := hM.keepT (D := D) (fun k C t fr hk hb => h.typ k C t fr (.inl hk) hb)
  exact ⟨⟨blk_set h.blk 1 _, rows_move h.map (hM.block lb h.map.lt (fun e => h.lne.1 e.symm)) hK, Kd.R_mono (Kd.R_set hj h.blk (by decide) 1 _) (fun _ _ => trivial)⟩, hM⟩

/-- What a map's change leaves of the table. -/
theorem table_mapped {w w2 : World} {tb lb : Nat} {jv : Value} {rows rows' : List (ByteArray × Row)} {J : List Was} (h : TableAt w tb lb jv rows J) (hm2 : MapAt Value.string (RowV w) w2 lb rows') (hg2 : w.grownBy w2 (some lb)) : TableAt w2 tb lb jv rows' J :=
  ⟨blk_grown h.blk hg2 (by simpa using h.lne.1), hm2.move rfl (fun p _ v hv => hv.keep (h.map.keepT hg2 D)), R_map h.jour h.map.no_cells hg2⟩

set_option maxRecDepth 100000 in
theorem table_undo (w : World) (tb lb : Nat) (jv : Value) (rows : List (ByteArray × Row)) (J : List Was) (h : TableAt w tb lb jv rows J) (hJ : J.length < 1000000) :
    Calls Tryz.prog 67 #[.pointer (some ⟨tb, 0, none⟩), .int .i64 0] w fun e w' => e = .returned (.tuple #[]) ∧ ∃ jv', TableAt w' tb lb jv' (J.foldr undo1 rows) [] ∧ Mut (TabF tb lb jv) w w' ∧ jv'.ownBlock = jv.ownBlock := by
  have H := Lib.hid h
  clear h
  go_enter Tryz.func67, Tryz.ntmps67
  go_wp2
  go_loopg [] J.length (fun n w' => ∃ J' jv' rows', Hid (n = J'.length ∧ J'.foldr undo1 rows' = J.foldr undo1 rows ∧ TableAt w' tb lb jv' rows' J' ∧ Mut (TabF tb lb jv) w w' ∧ jv'.ownBlock = jv.ownBlock ∧ J'.length < 1000000))
  case atStart => exact ⟨J, jv, rows, rfl, rfl, H.out, Mut.refl _ _, rfl, hJ⟩
  case round =>
    obtain ⟨J', jv', rows', hrel⟩ := hrel
    obtain ⟨hn, hfold, ht, hM, hown, hJ'⟩ := hrel.out
    clear hrel
    rcases List.eq_nil_or_concat J' with rfl | ⟨J1, x, rfl⟩
    · go_wp2_with (go_at_call 113; (with_reducible refine (table_mark wr tb lb jv' rows' [] ht).mono ?_); rintro e w' ⟨rfl, rfl⟩)
      go_returns
      exact ⟨rfl, jv', by rw [← hfold]; exact ht, hM, hown⟩
    · obtain ⟨g, c, A2, c2, A3, c3, rfl, hc, hg, x0, x1, x2, x3, x4, x5, hv⟩ := jour_last (by simpa using ht.jour)
      have hl9 : (J1.concat x).length = J1.length + 1 := by simp
      rw [hl9] at hn hJ'
      subst hn
      have d0 := ht.cell0
      have d1 := ht.cell1
      have hsl := cut_to (P := Tryz.prog) 169 176 .i64 und_was (i := Tryz.t176) rfl (some ⟨g, 0, none⟩) (J1.length + 1) c (J1.length : Int) (by omega) (by omega) hc
      have f1 : wr.frozen? ⟨tb, 1, none⟩ = false := blk_frozen ht.blk 1
      have hlt : tb < wr.heap.size := blk_lt ht.blk
      have hlt1 : tb < wr.heap.size + 1 := by omega
      have hj1 : kWas.R 176 wr 0 tr (.slice (some ⟨g, 0, none⟩) J1.length c) J1 := by
        have := Kd.R_take (m := J1.length) ht.jour (by simp)
        simpa using this
      obtain ⟨ht1, hM1⟩ := table_setj ht hj1
      have hb2 := below_alloc (Below.refl (wr.setCell ⟨tb, 1, none⟩ (.slice (some ⟨g, 0, none⟩) J1.length c)).heap.size _) (.cells #[.string x.key, .string x.v.path, .string x.v.name, .slice A2 x.v.arch.length c2, .slice A3 x.v.refs.length c3, .bool x.had] 176)
      have ht2 := ht1.below hb2
      have hM2 := hM.trans (((hM1.trans (Mut.of_below (F := fun _ => False) hb2) (fun _ _ hf => hf.elim))).mono (G := TabF tb lb jv) (fun k _ hk => .inl hk)) (fun _ _ hk => hk)
      have hv2 : RowV _ x.v (.agg #[.string x.v.path, .string x.v.name, .slice A2 x.v.arch.length c2, .slice A3 x.v.refs.length c3]) := hv.keep (hM1.keepT (D := D) (fun k C t fr hk hb => ht.typ k C t fr (.inl hk) hb))
      replace hv2 := hv2.below hb2
      have gB := heap_alloc_new (wr.setCell ⟨tb, 1, none⟩ (.slice (some ⟨g, 0, none⟩) J1.length c)) (.cells #[.string x.key, .string x.v.path, .string x.v.name, .slice A2 x.v.arch.length c2, .slice A3 x.v.refs.length c3, .bool x.had] 176)
      have hsz : (wr.setCell ⟨tb, 1, none⟩ (.slice (some ⟨g, 0, none⟩) J1.length c)).heap.size = wr.heap.size := by simp [World.setCell]
      rw [hsz] at gB
      have GB := Lib.hid gB
      clear hj1 hsz gB
      obtain ⟨xk, xv, xh⟩ := x
      have HT := Lib.hid ht2
      have HM := Lib.hid hM2
      have HV := Lib.hid hv2
      clear ht1 hM1 hb2 ht2 hM2 hv2
      cases xh
      · go_wp2_with (go_at_call 113; (with_reducible refine (table_mark wr tb lb _ rows' _ ht).mono ?_); rintro e w' ⟨rfl, rfl⟩)
        generalize (World.alloc (wr.setCell _ _) _) = W2 at HT HM HV GB ⊢
        have z0 := HT.out.cell0
        obtain ⟨q0, q1, q2, q3, q4, q5⟩ := cells6 GB.out
        have hlt2 : tb < W2.heap.size := blk_lt HT.out.blk
        have hlt3 : wr.heap.size < W2.heap.size := blk_lt GB.out
        go_still_tail 6, (by kernel_rfl)
        change wpList _ _ _ _ _ (World.drew _)
        refine wp_delete_at strK rfl (.tmp 46) (.tmp 48) 168 rfl und_rows rfl HT.out.map xk rfl ?_
        intro w2 hm2 hg2 hs2
        go_wp2
        go_roundg J1.length
        case measure => omega
        case rel =>
          refine ⟨J1, _, _, rfl, ?_, table_mapped HT.out hm2 (grown_undrew hg2), HM.out.trans (grown_mut (grown_undrew hg2)) (fun k _ hk => .inr (.inl hk)), ?_, by omega⟩
          · rw [← hfold]; simp [undo1]
          · rw [← hown]; rfl
      · go_wp2_with (go_at_call 113; (with_reducible refine (table_mark wr tb lb _ rows' _ ht).mono ?_); rintro e w' ⟨rfl, rfl⟩)
        generalize (World.alloc (wr.setCell _ _) _) = W2 at HT HM HV GB ⊢
        have z0 := HT.out.cell0
        obtain ⟨q0, q1, q2, q3, q4, q5⟩ := cells6 GB.out
        have hlt2 : tb < W2.heap.size := blk_lt HT.out.blk
        have hlt3 : wr.heap.size < W2.heap.size := blk_lt GB.out
        go_still_tail 8, (by kernel_rfl)
        change wpList _ _ _ _ _ (World.drew _)
        refine wp_mapUpdate_at strK rfl (.tmp 38) (.tmp 40) (.tmp 42) 168 rfl und_rows rfl HT.out.map xk rfl xv _ rfl HV.out ?_
        intro w2 hm2 hg2 hs2
        go_wp2
        go_roundg J1.length
        case measure => omega
        case rel =>
          refine ⟨J1, _, _, rfl, ?_, table_mapped HT.out hm2 (grown_undrew hg2), HM.out.trans (grown_mut (grown_undrew hg2)) (fun k _ hk => .inr (.inl hk)), ?_, by omega⟩
          · rw [← hfold]; simp [undo1]
          · rw [← hown]; rfl
end Go.Proofs.YtdhghaiifeienaaGreatDoor

/- slices.Clone, bytes.Clone at the program's kinds. -/
set_option linter.unusedVariables false
set_option linter.unusedSimpArgs false
namespace Go.Proofs.YtdhghaiifeienaaGreatDoor
open Go.RowKit Go.Proofs.YtdhghaiifeienaaGreatDoorW.PrintWords

theorem C_none {α : Type} {d : Kd α} {w : World} {xs : List α} (h : d.C w none xs.length xs) : xs = [] := by
  rcases xs with _ | ⟨x, xs⟩
  · rfl
  · obtain ⟨_, h, _⟩ := h.2.2 (by simp)
    cases h
theorem R_empty {α : Type} (d : Kd α) (e : Nat) (W : World) (base : Nat) (hb : base ≤ W.heap.size) : d.R e (W.alloc (.cells #[] e)) base (fun _ => True) (.slice (some ⟨W.heap.size, 0, none⟩) 0 0) [] := by
  refine ⟨fun _ _ => trivial, ?_⟩
  have := OwnRow.lit (R := d.M (W.alloc (.cells #[] e)) base (fun k => True ∧ some k ≠ (Value.slice (some ⟨W.heap.size, 0, none⟩) 0 0).ownBlock)) (e := e) (size := d.sz) (ps := []) W base (inner := []) (Reps.none _ _) hb (by simp)
  simpa using this

theorem clone_str (w : World) (A : Option Addr) (xs : List ByteArray) (c : Nat) (hC : Kd.string.C w A xs.length xs) (hl : xs.length * 16 ≤ 140737488355328) :
    Calls Tryz.prog 102 #[.slice A xs.length c] w fun e w' => ∃ v, e = .returned v ∧ Kd.string.R 9 w' w.heap.size tr v xs ∧ Below w.heap.size w w' := by
  have he := fun W => Lib.run_eql_slice_nil (P := Tryz.prog) W 33 9 A xs.length c 0 0 und_strl
  rcases A with _ | a
  · obtain rfl : xs = [] := C_none hC
    simp only [List.length_nil, Option.isNone_none] at he ⊢
    clear hC hl
    go_enter Tryz.func102, Tryz.ntmps102
    go_wp2
    go_returns
    exact ⟨_, rfl, Kd.R_nil _ _ _ _ _, Below.refl _ _⟩
  · have HC := Lib.hid (Kd.C_alloc hC (.cells #[] 9))
    have HR := Lib.hid (R_empty Kd.string 9 w w.heap.size (Nat.le_refl _))
    have HL := Lib.hid hl
    clear hC hl
    go_enter Tryz.func102, Tryz.ntmps102
    go_wp2_with (at_builtin; refine Kd.R_append_row Value.string ByteArray.empty (w0 := w) w.heap.size rfl (.tmp 5) (.tmp 6) 33 9 _ 16 rfl und_strl info_str rfl (by decide) _ [] xs (some a) xs.length c tr rfl rfl (fun _ _ => trivial) HR.out HC.out (below_alloc (Below.refl _ _) _) (by simp) (by simpa using HL.out) ?_; intro v1 w1 hR hb hg hat)
    go_returns
    exact ⟨_, rfl, by rw [List.nil_append] at hR; exact hR, hb⟩

theorem clone_bytes (w : World) (A : Option Addr) (xs : List Int) (c : Nat) (hC : (Kd.int .u8).C w A xs.length xs) (hl : xs.length * 1 ≤ 140737488355328) :
    Calls Tryz.prog 127 #[.slice A xs.length c] w fun e w' => ∃ v, e = .returned v ∧ (Kd.int .u8).R 5 w' w.heap.size tr v xs ∧ Below w.heap.size w w' := by
  have he := fun W => Lib.run_eql_slice_nil (P := Tryz.prog) W 42 5 A xs.length c 0 0 und_bytes
  rcases A with _ | a
  · obtain rfl : xs = [] := C_none hC
    simp only [List.length_nil, Option.isNone_none] at he ⊢
    clear hC hl
    go_enter Tryz.func127, Tryz.ntmps127
    go_wp2
    go_returns
    exact ⟨_, rfl, Kd.R_nil _ _ _ _ _, Below.refl _ _⟩
  · have HC := Lib.hid (Kd.C_alloc hC (.cells #[] 5))
    have HR := Lib.hid (R_empty (Kd.int .u8) 5 w w.heap.size (Nat.le_refl _))
    have HL := Lib.hid hl
    clear hC hl
    go_enter Tryz.func127, Tryz.ntmps127
    go_wp2_with (at_builtin; refine Kd.R_append_row (Value.int .u8) 0 (w0 := w) w.heap.size rfl (.tmp 5) (.tmp 6) 42 5 _ 1 rfl und_bytes info_u8 rfl (by decide) _ [] xs (some a) xs.length c tr rfl rfl (fun _ _ => trivial) HR.out HC.out (below_alloc (Below.refl _ _) _) (by simp) (by simpa using HL.out) ?_; intro v1 w1 hR hb hg hat)
    go_returns
    exact ⟨_, rfl, by rw [List.nil_append] at hR; exact hR, hb⟩

end Go.Proofs.YtdhghaiifeienaaGreatDoor

/- The store (package db): what lies in memory; its readers. -/
set_option linter.unusedVariables false
set_option linter.unusedSimpArgs false
namespace Go.Proofs.YtdhghaiifeienaaGreatDoor
open Go.RowKit Go.Proofs.YtdhghaiifeienaaGreatDoorW.PrintWords

/-- A set of strings in memory. -/
abbrev SetAt (w : World) (b : Nat) (m : List (ByteArray × Unit)) : Prop := MapAt Value.string (fun _ v => v = .bool true) w b m
/-- The blocks of a store. -/
structure Bl where
  sb : Nat
  tb : Nat
  lb : Nat
  bb : Nat
  rb : Nat
  stb : Nat
  jv : Value
/-- What a store holds. -/
structure St where
  rows : List (ByteArray × Row)
  back : List (ByteArray × (Nat × List (ByteArray × Unit)))
  roots : List (ByteArray × Unit)
  stamps : List (ByteArray × Int)
  ver : Int
abbrev Bl.ptr (B : Bl) : Value := .pointer (some ⟨B.sb, 0, none⟩)
structure StoreAt (w : World) (B : Bl) (S : St) : Prop where
  blk : w.heap[B.sb]? = some (.cells #[.pointer (some ⟨B.tb, 0, none⟩), .map (some B.bb), .map (some B.rb), .map (some B.stb), .int .u64 S.ver] 117 (0, 0))
  tab : TableAt w B.tb B.lb B.jv S.rows []
  back : MapAt Value.string (fun (x : Nat × List (ByteArray × Unit)) v => v = .map (some x.1)) w B.bb S.back
  sets : ∀ p ∈ S.back, SetAt w p.2.1 p.2.2
  roots : SetAt w B.rb S.roots
  stamps : MapAt Value.string (fun (x : Int) v => v = .int .u64 x) w B.stb S.stamps
  nd : ([B.lb, B.bb, B.rb, B.stb] ++ S.back.map (fun p => p.2.1)).Nodup
/-- The blocks that belong to a store. -/
def StF (B : Bl) (S : St) (k : Nat) : Prop := k = B.sb ∨ k = B.tb ∨ B.jv.ownBlock = some k ∨ k ∈ [B.lb, B.bb, B.rb, B.stb] ++ S.back.map (fun p => p.2.1)

section
variable {w w1 : World} {B : Bl} {S : St}
theorem StoreAt.below (h : StoreAt w B S) (hb : Below w.heap.size w w1) : StoreAt w1 B S :=
  ⟨blk_below h.blk hb, h.tab.below hb, h.back.same (hb.block _ h.back.lt), fun p hp => (h.sets p hp).same (hb.block _ (h.sets p hp).lt), h.roots.same (hb.block _ h.roots.lt), h.stamps.same (hb.block _ h.stamps.lt), h.nd⟩
theorem StoreAt.drew (h : StoreAt w B S) : StoreAt w.drew B S := h.below (below_drew (Below.refl _ _))
theorem StoreAt.drewN (h : StoreAt w B S) (n : Nat) : StoreAt (w.drewN n) B S := h.below (pw_below_drewN (Below.refl _ _) n)
theorem StoreAt.alloc (h : StoreAt w B S) (o : Obj) : StoreAt (w.alloc o) B S := h.below (below_alloc (Below.refl _ _) o)
theorem StoreAt.cells (h : StoreAt w B S) : w.cell? ⟨B.sb, 0, none⟩ = some (.pointer (some ⟨B.tb, 0, none⟩)) ∧ w.cell? ⟨B.sb, 1, none⟩ = some (.map (some B.bb)) ∧ w.cell? ⟨B.sb, 2, none⟩ = some (.map (some B.rb)) ∧ w.cell? ⟨B.sb, 3, none⟩ = some (.map (some B.stb)) ∧ w.cell? ⟨B.sb, 4, none⟩ = some (.int .u64 S.ver) := cells5 h.blk
theorem StoreAt.lt (h : StoreAt w B S) : B.sb < w.heap.size := blk_lt h.blk
/-- No map of the store is a block of cells. -/
theorem StoreAt.maps (h : StoreAt w B S) {k : Nat} (hk : k ∈ [B.lb, B.bb, B.rb, B.stb] ++ S.back.map (fun p => p.2.1)) : k < w.heap.size ∧ ∀ C t fr, w.heap[k]? ≠ some (Obj.cells C t fr) := by
  rcases List.mem_append.1 hk with hk | hk
  · simp only [List.mem_cons, List.mem_nil_iff, or_false] at hk
    rcases hk with rfl | rfl | rfl | rfl
    · exact ⟨h.tab.map.lt, h.tab.map.no_cells⟩
    · exact ⟨h.back.lt, h.back.no_cells⟩
    · exact ⟨h.roots.lt, h.roots.no_cells⟩
    · exact ⟨h.stamps.lt, h.stamps.no_cells⟩
  · obtain ⟨p, hp, rfl⟩ := List.mem_map.1 hk
    exact ⟨(h.sets p hp).lt, (h.sets p hp).no_cells⟩
theorem StoreAt.typ (h : StoreAt w B S) (k : Nat) (C : Array Value) (t : TypeId) (fr : Nat × Nat) (hk : StF B S k) (hb : w.heap[k]? = some (Obj.cells C t fr)) : D t = false := by
  rcases hk with rfl | rfl | hk | hk
  · rw [h.blk] at hb; injection hb with hb; injection hb with _ e _; subst e; decide
  · exact h.tab.typ _ C t fr (.inl rfl) hb
  · exact h.tab.typ _ C t fr (.inr (.inr hk)) hb
  · exact absurd hb ((h.maps hk).2 C t fr)
theorem StoreAt.F_lt (h : StoreAt w B S) {k : Nat} (hk : StF B S k) : k < w.heap.size := by
  rcases hk with rfl | rfl | hk | hk
  · exact h.lt
  · exact blk_lt h.tab.blk
  · exact Kd.R_lt h.tab.jour _ hk
  · exact (h.maps hk).1
/-- Whatever leaves its blocks alone leaves the store. -/
theorem StoreAt.move (h : StoreAt w B S) {G : Nat → Prop} (hM : Mut G w w1) (hG : ∀ k, StF B S k → ¬ G k) (hK : KeepT D w w1) : StoreAt w1 B S := by
  have hmap : ∀ k, k ∈ [B.lb, B.bb, B.rb, B.stb] ++ S.back.map (fun p => p.2.1) → w1.heap[k]? = w.heap[k]? := fun k hk => hM.block k (h.maps hk).1 (hG k (.inr (.inr (.inr hk))))
  refine ⟨hM.at_ h.blk (hG _ (.inl rfl)), ⟨hM.at_ h.tab.blk (hG _ (.inr (.inl rfl))), rows_move h.tab.map (hmap _ (by simp)) hK, ?_⟩, h.back.same (hmap _ (by simp)), fun p hp => (h.sets p hp).same (hmap _ (List.mem_append_right _ (List.mem_map.2 ⟨p, hp, rfl⟩))), h.roots.same (hmap _ (by simp)), h.stamps.same (hmap _ (by simp)), h.nd⟩
  exact ⟨fun _ _ => trivial, by
    obtain ⟨_, inner, ho, hr⟩ := h.tab.jour
    have : inner = [] := by have := hr.1; simpa using this
    subst this
    exact ⟨[], own_move ho (fun k hk => hM.block k (own_lt ho k hk) (hG k (.inr (.inr (.inl hk))))), Reps.none _ _⟩⟩
end

/-! ### readers -/
theorem store_row (w : World) (B : Bl) (S : St) (p : ByteArray) (h : StoreAt w B S) :
    Calls Tryz.prog 92 #[B.ptr, .string p] w fun e w' => ∃ v, e = .returned (.tuple #[v, .bool (mlook S.rows p).isSome]) ∧ RowV w' ((mlook S.rows p).getD zRow) v ∧ Below w.heap.size w w' := by
  obtain ⟨c0, c1, c2, c3, c4⟩ := h.cells
  have hlt := h.lt
  have hlt1 : B.sb < w.heap.size + 1 := by omega
  have hb0 : Below w.heap.size w (w.alloc (.cells #[(.string ⟨#[]⟩), (.string ⟨#[]⟩), (.slice none 0 0), (.slice none 0 0)] 44)) := below_alloc (Below.refl _ _) _
  have ht := h.tab.below hb0
  have HT := Lib.hid ht
  have gB := heap_alloc_new w (.cells #[(.string ⟨#[]⟩), (.string ⟨#[]⟩), (.slice none 0 0), (.slice none 0 0)] 44)
  clear ht
  go_enter Tryz.func92, Tryz.ntmps92
  go_wp2_with (go_at_call 126; (with_reducible refine (table_get _ B.tb B.lb S.rows p HT.out.cell0 HT.out.map).mono ?_); rintro e w' ⟨v, rfl, hv, hb⟩; obtain ⟨A2, c2', A3, c3', rfl, hb2, hb3⟩ := hv.open_; have e0 := blk_below gB hb; have f0 := blk_frozen e0 0; have f1 := blk_frozen e0 1; have f2 := blk_frozen e0 2; have f3 := blk_frozen e0 3; obtain ⟨q0, q1, q2, q3⟩ := cells4 e0)
  have e4 := set4_blk e0 (.string ((mlook S.rows p).getD zRow).path) (.string ((mlook S.rows p).getD zRow).name) (.slice A2 ((mlook S.rows p).getD zRow).arch.length c2') (.slice A3 ((mlook S.rows p).getD zRow).refs.length c3')
  refine bodyPost_ret (results_row_t rfl _ _ w.heap.size _ _ _ _ _ rfl e4) rfl ⟨_, rfl, hv.set4 e0 _ _ _ _, ?_⟩
  exact (hb0.trans (hb.mono (by simp))).trans ((set4_mut _ _ _ _ _ _).below (by have := hb.size; simp at this; omega) (fun k _ hk => by omega))
end Go.Proofs.YtdhghaiifeienaaGreatDoor

/- The store: more readers, and those of no store. -/
set_option linter.unusedVariables false
set_option linter.unusedSimpArgs false
namespace Go.Proofs.YtdhghaiifeienaaGreatDoor
open Go.RowKit Go.Proofs.YtdhghaiifeienaaGreatDoorW.PrintWords

theorem store_has (w : World) (B : Bl) (S : St) (p : ByteArray) (h : StoreAt w B S) :
    Calls Tryz.prog 50 #[B.ptr, .string p] w fun e w' => e = .returned (.bool (mlook S.rows p).isSome) ∧ Below w.heap.size w w' := by
  go_enter Tryz.func50, Tryz.ntmps50
  go_wp2_with (go_at_call 92; (with_reducible refine (store_row w B S p h).mono ?_); rintro e w' ⟨v, rfl, hv, hb⟩; obtain ⟨A2, c2', A3, c3', rfl, hb2, hb3⟩ := hv.open_)
  go_returns
  exact ⟨rfl, below_alloc hb _⟩

theorem store_refs (w : World) (B : Bl) (S : St) (p : ByteArray) (h : StoreAt w B S) (hl : ((mlook S.rows p).getD zRow).refs.length < 1000000) :
    Calls Tryz.prog 56 #[B.ptr, .string p] w fun e w' => ∃ v, e = .returned v ∧ Kd.string.R 9 w' w.heap.size tr v ((mlook S.rows p).getD zRow).refs ∧ Below w.heap.size w w' := by
  have HL := Lib.hid hl
  clear hl
  go_enter Tryz.func56, Tryz.ntmps56
  go_wp2_with (first | (go_at_call 92; (with_reducible refine (store_row w B S p h).mono ?_); rintro e w' ⟨v, rfl, hv, hb⟩; obtain ⟨A2, c2', A3, c3', rfl, hb2, hb3⟩ := hv.open_; obtain ⟨_, _, hC⟩ := Kd.R_reads' hb3) | (go_at_call 102; (with_reducible refine (clone_str _ A3 ((mlook S.rows p).getD zRow).refs c3' (Kd.C_alloc (by assumption) _) (by have := HL.out; omega)).mono ?_); rintro e w2 ⟨v, rfl, hR, hb5⟩))
  have hb9 : Below w.heap.size w w2 := (below_alloc hb _).trans (hb5.mono (by have := hb.size; simp; omega))
  go_returns
  refine ⟨_, rfl, Kd.R_lower hR (by have := hb.size; simp; omega), hb9⟩

theorem store_stamp (w : World) (B : Bl) (S : St) (p : ByteArray) (h : StoreAt w B S) :
    Calls Tryz.prog 23 #[B.ptr, .string p] w fun e w' => e = .returned (.int .u64 ((mlook S.stamps p).getD 0)) ∧ w = w' := by
  obtain ⟨c0, c1, c2, c3, c4⟩ := h.cells
  rcases MapAt.run_lookup strK h.stamps und_stamps zero_u64 p with ⟨h1, h2⟩ | ⟨x, v, h1, rfl, h2⟩
  all_goals
    rw [h1]
    have h3 := h2 false w rfl
    clear h2 h1
    simp only [Bool.false_eq_true, if_false] at h3
    change (Instr.lookup _ (.map (some B.stb)) (.string p) false).run _ _ = _ at h3
    go_enter Tryz.func23, Tryz.ntmps23
    go_wp2
    go_returns
    exact ⟨rfl, rfl⟩

theorem store_version (w : World) (B : Bl) (S : St) (h : StoreAt w B S) :
    Calls Tryz.prog 41 #[B.ptr] w fun e w' => e = .returned (.int .u64 S.ver) ∧ w = w' := by
  obtain ⟨c0, c1, c2, c3, c4⟩ := h.cells
  go_enter Tryz.func41, Tryz.ntmps41
  go_wp2
  go_returns
  exact ⟨rfl, rfl⟩

set_option maxRecDepth 100000 in
theorem db_new (w : World) :
    Calls Tryz.prog 18 #[] w fun e w' => ∃ B, e = .returned B.ptr ∧ StoreAt w' B ⟨[], [], [], [], 0⟩ ∧ (∀ k, StF B ⟨[], [], [], [], 0⟩ k → w.heap.size ≤ k) ∧ Below w.heap.size w w' := by
  have hmm := @run_makeMap Tryz.prog
  go_enter Tryz.func18, Tryz.ntmps18
  go_wp2_with (go_at_call 64; (with_reducible refine (table_new w).mono ?_); rintro e w' ⟨tb, lb, rfl, h1, h2, ht, hb⟩)
  go_returns
  have hs := hb.size
  have hlb := ht.map.lt
  have htb := blk_lt ht.blk
  refine ⟨⟨w'.heap.size + 1 + 1 + 1, tb, lb, w'.heap.size, w'.heap.size + 1, w'.heap.size + 1 + 1, .slice none 0 0⟩, rfl, ⟨?_, ht.below ?_, ?_, ?_, ?_, ?_, ?_⟩, ?_, ?_⟩
  · have := heap_alloc_new (((w'.alloc (.map #[] 0)).alloc (.map #[] 0)).alloc (.map #[] 0)) (.cells #[.pointer (some ⟨tb, 0, none⟩), .map (some w'.heap.size), .map (some (w'.heap.size + 1)), .map (some (w'.heap.size + 1 + 1)), .int .u64 0] 117)
    simpa using this
  · go_grown
  · exact (((MapAt.made _ _ w').same (Below.heap_alloc _ _ _ (by simp))).same (Below.heap_alloc _ _ _ (by simp; omega))).same (Below.heap_alloc _ _ _ (by simp; omega))
  · simp
  · have := MapAt.made (κ := ByteArray) (α := Unit) Value.string (fun _ v => v = .bool true) (w'.alloc (.map #[] 0))
    simp at this
    exact (this.same (Below.heap_alloc _ _ _ (by simp))).same (Below.heap_alloc _ _ _ (by simp))
  · have := MapAt.made (κ := ByteArray) (α := Int) Value.string (fun x v => v = .int .u64 x) ((w'.alloc (.map #[] 0)).alloc (.map #[] 0))
    simp at this
    exact this.same (Below.heap_alloc _ _ _ (by simp))
  · simp; omega
  · intro k hk
    simp [StF, Value.ownBlock] at hk
    omega
  · exact hb.trans ((by go_grown : Below w'.heap.size w' _).mono hs)
end Go.Proofs.YtdhghaiifeienaaGreatDoor
