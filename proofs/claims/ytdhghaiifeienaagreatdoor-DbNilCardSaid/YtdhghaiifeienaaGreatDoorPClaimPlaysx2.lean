-- PRINTED BY print.sh 35421559b90ae4d0a3588c463048766b98c2df88dd9212a6774a882060cdf62d: not written by this session
import Derived.Test.YtdhghaiifeienaaGreatDoorPClaimPlaysx0
import Derived.Test.YtdhghaiifeienaaGreatDoorPClaimPlaysx1
namespace Go.Proofs.YtdhghaiifeienaaGreatDoor.PClaimPlays
open Go.RowKit Go.Proofs.YtdhghaiifeienaaGreatDoorW.PrintWords Go.Proofs.YtdhghaiifeienaaGreatDoorW.PrintLast Go.Proofs.YtdhghaiifeienaaGreatDoorW.PrintMore
attribute [local go_sem] max2_int min2_int max_two min_two max_three min_three max_four min_four   -- for this text's walks alone
set_option linter.unusedVariables false
set_option linter.unusedSimpArgs false

/-! ### godownref02_wide: function 187 -/
def godownref02_wide.f (a0 : Int) (a1 : Int) : Option (Int × Int) := some (IntKind.u64.wrap ((IntKind.u64.wrap ((IntKind.u64.wrap ((a0 / 4294967296) * (a1 / 4294967296))) + ((IntKind.u64.wrap ((IntKind.u64.wrap ((a0 / 4294967296) * (Int.tmod a1 4294967296))) + ((IntKind.u64.wrap ((Int.tmod a0 4294967296) * (Int.tmod a1 4294967296))) / 4294967296))) / 4294967296))) + ((IntKind.u64.wrap ((Int.tmod (IntKind.u64.wrap ((IntKind.u64.wrap ((a0 / 4294967296) * (Int.tmod a1 4294967296))) + ((IntKind.u64.wrap ((Int.tmod a0 4294967296) * (Int.tmod a1 4294967296))) / 4294967296))) 4294967296) + (IntKind.u64.wrap ((Int.tmod a0 4294967296) * (a1 / 4294967296))))) / 4294967296)), IntKind.u64.wrap (a0 * a1))
set_option maxHeartbeats 8000000 in
set_option maxRecDepth 100000 in
theorem godownref02_wide.calls (a0 : Int) (a1 : Int) (r1 : Int) (r2 : Int) (w : World) (h : godownref02_wide.f a0 a1 = some (r1, r2)) :
    Calls Tryz.prog 187 #[.int .u64 a0, .int .u64 a1] w fun e w' => e = .returned (.tuple #[.int .u64 r1, .int .u64 r2]) ∧ Drawn0 w w' := by
  have H : (some (IntKind.u64.wrap ((IntKind.u64.wrap ((IntKind.u64.wrap ((a0 / 4294967296) * (a1 / 4294967296))) + ((IntKind.u64.wrap ((IntKind.u64.wrap ((a0 / 4294967296) * (Int.tmod a1 4294967296))) + ((IntKind.u64.wrap ((Int.tmod a0 4294967296) * (Int.tmod a1 4294967296))) / 4294967296))) / 4294967296))) + ((IntKind.u64.wrap ((Int.tmod (IntKind.u64.wrap ((IntKind.u64.wrap ((a0 / 4294967296) * (Int.tmod a1 4294967296))) + ((IntKind.u64.wrap ((Int.tmod a0 4294967296) * (Int.tmod a1 4294967296))) / 4294967296))) 4294967296) + (IntKind.u64.wrap ((Int.tmod a0 4294967296) * (a1 / 4294967296))))) / 4294967296)), IntKind.u64.wrap (a0 * a1))) = some (r1, r2) := h
  clear h
  simp only [Option.some.injEq, Prod.mk.injEq] at H
  obtain ⟨rfl, rfl⟩ := H
  go_enter Tryz.func187, Tryz.ntmps187
  go_wp2
  go_ret2
  exact ⟨by first | rfl | (simp; done) | (simp [*]; done), by repeat (first | exact Drawn0.refl _ | apply Drawn0.step)⟩

/-! ### godownref02_cube: function 156 -/
def godownref02_cube.f (a0 : Int) (a1 : Int) : Option (Bool) := (godownref02_wide.f a0 a0).bind fun bt130 => ((godownref02_wide.f bt130.2 a0).bind fun bt132 => ((godownref02_wide.f bt130.1 a0).bind fun bt134 => (if (IntKind.u64.wrap (bt134.2 + bt132.1)) < bt134.2 then (if (Go.bits .or .u64 (IntKind.u64.wrap ((IntKind.u64.wrap (bt134.1 + 1)) * 4294967296)) ((IntKind.u64.wrap (bt134.2 + bt132.1)) / 4294967296)) < a1 then (some true) else (if (Go.bits .or .u64 (IntKind.u64.wrap ((IntKind.u64.wrap (bt134.1 + 1)) * 4294967296)) ((IntKind.u64.wrap (bt134.2 + bt132.1)) / 4294967296)) = a1 then (some ((Go.bits .or .u64 (Int.tmod (IntKind.u64.wrap (bt134.2 + bt132.1)) 4294967296) bt132.2) == 0)) else (some false))) else (if (Go.bits .or .u64 (IntKind.u64.wrap (bt134.1 * 4294967296)) ((IntKind.u64.wrap (bt134.2 + bt132.1)) / 4294967296)) < a1 then (some true) else (if (Go.bits .or .u64 (IntKind.u64.wrap (bt134.1 * 4294967296)) ((IntKind.u64.wrap (bt134.2 + bt132.1)) / 4294967296)) = a1 then (some ((Go.bits .or .u64 (Int.tmod (IntKind.u64.wrap (bt134.2 + bt132.1)) 4294967296) bt132.2) == 0)) else (some false))))))
set_option maxHeartbeats 8000000 in
set_option maxRecDepth 100000 in
theorem godownref02_cube.calls (a0 : Int) (a1 : Int) (r : Bool) (w : World) (h : godownref02_cube.f a0 a1 = some r) :
    Calls Tryz.prog 156 #[.int .u64 a0, .int .u64 a1] w fun e w' => e = .returned (.bool r) ∧ Drawn0 w w' := by
  have H : ((godownref02_wide.f a0 a0).bind fun bt130 => ((godownref02_wide.f bt130.2 a0).bind fun bt132 => ((godownref02_wide.f bt130.1 a0).bind fun bt134 => (if (IntKind.u64.wrap (bt134.2 + bt132.1)) < bt134.2 then (if (Go.bits .or .u64 (IntKind.u64.wrap ((IntKind.u64.wrap (bt134.1 + 1)) * 4294967296)) ((IntKind.u64.wrap (bt134.2 + bt132.1)) / 4294967296)) < a1 then (some true) else (if (Go.bits .or .u64 (IntKind.u64.wrap ((IntKind.u64.wrap (bt134.1 + 1)) * 4294967296)) ((IntKind.u64.wrap (bt134.2 + bt132.1)) / 4294967296)) = a1 then (some ((Go.bits .or .u64 (Int.tmod (IntKind.u64.wrap (bt134.2 + bt132.1)) 4294967296) bt132.2) == 0)) else (some false))) else (if (Go.bits .or .u64 (IntKind.u64.wrap (bt134.1 * 4294967296)) ((IntKind.u64.wrap (bt134.2 + bt132.1)) / 4294967296)) < a1 then (some true) else (if (Go.bits .or .u64 (IntKind.u64.wrap (bt134.1 * 4294967296)) ((IntKind.u64.wrap (bt134.2 + bt132.1)) / 4294967296)) = a1 then (some ((Go.bits .or .u64 (Int.tmod (IntKind.u64.wrap (bt134.2 + bt132.1)) 4294967296) bt132.2) == 0)) else (some false))))))) = some r := h
  clear h
  replace H := Option.bind_eq_some_iff.mp H
  obtain ⟨⟨t130, t131⟩, A30, H⟩ := H
  replace H : ((godownref02_wide.f t131 a0).bind fun bt132 => ((godownref02_wide.f t130 a0).bind fun bt134 => (if (IntKind.u64.wrap (bt134.2 + bt132.1)) < bt134.2 then (if (Go.bits .or .u64 (IntKind.u64.wrap ((IntKind.u64.wrap (bt134.1 + 1)) * 4294967296)) ((IntKind.u64.wrap (bt134.2 + bt132.1)) / 4294967296)) < a1 then (some true) else (if (Go.bits .or .u64 (IntKind.u64.wrap ((IntKind.u64.wrap (bt134.1 + 1)) * 4294967296)) ((IntKind.u64.wrap (bt134.2 + bt132.1)) / 4294967296)) = a1 then (some ((Go.bits .or .u64 (Int.tmod (IntKind.u64.wrap (bt134.2 + bt132.1)) 4294967296) bt132.2) == 0)) else (some false))) else (if (Go.bits .or .u64 (IntKind.u64.wrap (bt134.1 * 4294967296)) ((IntKind.u64.wrap (bt134.2 + bt132.1)) / 4294967296)) < a1 then (some true) else (if (Go.bits .or .u64 (IntKind.u64.wrap (bt134.1 * 4294967296)) ((IntKind.u64.wrap (bt134.2 + bt132.1)) / 4294967296)) = a1 then (some ((Go.bits .or .u64 (Int.tmod (IntKind.u64.wrap (bt134.2 + bt132.1)) 4294967296) bt132.2) == 0)) else (some false)))))) = some r := H
  have A3 := Aside0.mk A30
  clear A30
  replace H := Option.bind_eq_some_iff.mp H
  obtain ⟨⟨t132, t133⟩, A40, H⟩ := H
  replace H : ((godownref02_wide.f t130 a0).bind fun bt134 => (if (IntKind.u64.wrap (bt134.2 + t132)) < bt134.2 then (if (Go.bits .or .u64 (IntKind.u64.wrap ((IntKind.u64.wrap (bt134.1 + 1)) * 4294967296)) ((IntKind.u64.wrap (bt134.2 + t132)) / 4294967296)) < a1 then (some true) else (if (Go.bits .or .u64 (IntKind.u64.wrap ((IntKind.u64.wrap (bt134.1 + 1)) * 4294967296)) ((IntKind.u64.wrap (bt134.2 + t132)) / 4294967296)) = a1 then (some ((Go.bits .or .u64 (Int.tmod (IntKind.u64.wrap (bt134.2 + t132)) 4294967296) t133) == 0)) else (some false))) else (if (Go.bits .or .u64 (IntKind.u64.wrap (bt134.1 * 4294967296)) ((IntKind.u64.wrap (bt134.2 + t132)) / 4294967296)) < a1 then (some true) else (if (Go.bits .or .u64 (IntKind.u64.wrap (bt134.1 * 4294967296)) ((IntKind.u64.wrap (bt134.2 + t132)) / 4294967296)) = a1 then (some ((Go.bits .or .u64 (Int.tmod (IntKind.u64.wrap (bt134.2 + t132)) 4294967296) t133) == 0)) else (some false))))) = some r := H
  have A4 := Aside0.mk A40
  clear A40
  replace H := Option.bind_eq_some_iff.mp H
  obtain ⟨⟨t134, t135⟩, A50, H⟩ := H
  replace H : (if (IntKind.u64.wrap (t135 + t132)) < t135 then (if (Go.bits .or .u64 (IntKind.u64.wrap ((IntKind.u64.wrap (t134 + 1)) * 4294967296)) ((IntKind.u64.wrap (t135 + t132)) / 4294967296)) < a1 then (some true) else (if (Go.bits .or .u64 (IntKind.u64.wrap ((IntKind.u64.wrap (t134 + 1)) * 4294967296)) ((IntKind.u64.wrap (t135 + t132)) / 4294967296)) = a1 then (some ((Go.bits .or .u64 (Int.tmod (IntKind.u64.wrap (t135 + t132)) 4294967296) t133) == 0)) else (some false))) else (if (Go.bits .or .u64 (IntKind.u64.wrap (t134 * 4294967296)) ((IntKind.u64.wrap (t135 + t132)) / 4294967296)) < a1 then (some true) else (if (Go.bits .or .u64 (IntKind.u64.wrap (t134 * 4294967296)) ((IntKind.u64.wrap (t135 + t132)) / 4294967296)) = a1 then (some ((Go.bits .or .u64 (Int.tmod (IntKind.u64.wrap (t135 + t132)) 4294967296) t133) == 0)) else (some false)))) = some r := H
  have A5 := Aside0.mk A50
  clear A50
  by_cases c6 : (IntKind.u64.wrap (t135 + t132)) < t135
  · rw [if_pos c6] at H
    have c6b0 : decide ((IntKind.u64.wrap (t135 + t132)) < t135) = true := decide_eq_true c6
    clear c6
    by_cases c7 : (Go.bits .or .u64 (IntKind.u64.wrap ((IntKind.u64.wrap (t134 + 1)) * 4294967296)) ((IntKind.u64.wrap (t135 + t132)) / 4294967296)) < a1
    · rw [if_pos c7] at H
      have c7b0 : decide ((Go.bits .or .u64 (IntKind.u64.wrap ((IntKind.u64.wrap (t134 + 1)) * 4294967296)) ((IntKind.u64.wrap (t135 + t132)) / 4294967296)) < a1) = true := decide_eq_true c7
      clear c7
      obtain rfl := Option.some.inj H
      go_enter Tryz.func156, Tryz.ntmps156
      go_wp2_with (first | ((with_reducible refine gate_callee (f := 187) rfl ?_); refine goesL_ (some 17) rfl rfl Tryz.func187 (by kernel_rfl) rfl #[.int .u64 a0, .int .u64 a0] rfl (by (try simp only [List.map_toArray, List.map_cons, List.map_nil]); first | done | rfl | (simp only [List.length_drop, List.length_take]; rfl)) ?_; (with_reducible refine (godownref02_wide.calls a0 a0 t130 t131 _ A3.out).mono ?_); rintro e w' ⟨rfl, ⟨nd, rfl⟩⟩; refine ⟨_, rfl, ?_⟩) | ((with_reducible refine gate_callee (f := 187) rfl ?_); refine goesL_ (some 23) rfl rfl Tryz.func187 (by kernel_rfl) rfl #[.int .u64 t131, .int .u64 a0] rfl (by (try simp only [List.map_toArray, List.map_cons, List.map_nil]); first | done | rfl | (simp only [List.length_drop, List.length_take]; rfl)) ?_; (with_reducible refine (godownref02_wide.calls t131 a0 t132 t133 _ A4.out).mono ?_); rintro e w' ⟨rfl, ⟨nd, rfl⟩⟩; refine ⟨_, rfl, ?_⟩) | ((with_reducible refine gate_callee (f := 187) rfl ?_); refine goesL_ (some 29) rfl rfl Tryz.func187 (by kernel_rfl) rfl #[.int .u64 t130, .int .u64 a0] rfl (by (try simp only [List.map_toArray, List.map_cons, List.map_nil]); first | done | rfl | (simp only [List.length_drop, List.length_take]; rfl)) ?_; (with_reducible refine (godownref02_wide.calls t130 a0 t134 t135 _ A5.out).mono ?_); rintro e w' ⟨rfl, ⟨nd, rfl⟩⟩; refine ⟨_, rfl, ?_⟩))
      go_ret
      exact ⟨by first | rfl | (simp; done) | (simp [*]; done), by repeat (first | exact Drawn0.refl _ | apply Drawn0.step)⟩
    · rw [if_neg c7] at H
      have c7b0 : decide ((Go.bits .or .u64 (IntKind.u64.wrap ((IntKind.u64.wrap (t134 + 1)) * 4294967296)) ((IntKind.u64.wrap (t135 + t132)) / 4294967296)) < a1) = false := decide_eq_false c7
      clear c7
      by_cases c8 : (Go.bits .or .u64 (IntKind.u64.wrap ((IntKind.u64.wrap (t134 + 1)) * 4294967296)) ((IntKind.u64.wrap (t135 + t132)) / 4294967296)) = a1
      · rw [if_pos c8] at H
        have c8b0 : ((Go.bits .or .u64 (IntKind.u64.wrap ((IntKind.u64.wrap (t134 + 1)) * 4294967296)) ((IntKind.u64.wrap (t135 + t132)) / 4294967296)) == a1) = true := beq_iff_eq.mpr c8
        have c8b1 : ((Go.bits .or .u64 (IntKind.u64.wrap ((IntKind.u64.wrap (t134 + 1)) * 4294967296)) ((IntKind.u64.wrap (t135 + t132)) / 4294967296)) != a1) = false := bne_eq_false_iff_eq.mpr c8
        clear c8
        obtain rfl := Option.some.inj H
        go_enter Tryz.func156, Tryz.ntmps156
        go_wp2_with (first | ((with_reducible refine gate_callee (f := 187) rfl ?_); refine goesL_ (some 17) rfl rfl Tryz.func187 (by kernel_rfl) rfl #[.int .u64 a0, .int .u64 a0] rfl (by (try simp only [List.map_toArray, List.map_cons, List.map_nil]); first | done | rfl | (simp only [List.length_drop, List.length_take]; rfl)) ?_; (with_reducible refine (godownref02_wide.calls a0 a0 t130 t131 _ A3.out).mono ?_); rintro e w' ⟨rfl, ⟨nd, rfl⟩⟩; refine ⟨_, rfl, ?_⟩) | ((with_reducible refine gate_callee (f := 187) rfl ?_); refine goesL_ (some 23) rfl rfl Tryz.func187 (by kernel_rfl) rfl #[.int .u64 t131, .int .u64 a0] rfl (by (try simp only [List.map_toArray, List.map_cons, List.map_nil]); first | done | rfl | (simp only [List.length_drop, List.length_take]; rfl)) ?_; (with_reducible refine (godownref02_wide.calls t131 a0 t132 t133 _ A4.out).mono ?_); rintro e w' ⟨rfl, ⟨nd, rfl⟩⟩; refine ⟨_, rfl, ?_⟩) | ((with_reducible refine gate_callee (f := 187) rfl ?_); refine goesL_ (some 29) rfl rfl Tryz.func187 (by kernel_rfl) rfl #[.int .u64 t130, .int .u64 a0] rfl (by (try simp only [List.map_toArray, List.map_cons, List.map_nil]); first | done | rfl | (simp only [List.length_drop, List.length_take]; rfl)) ?_; (with_reducible refine (godownref02_wide.calls t130 a0 t134 t135 _ A5.out).mono ?_); rintro e w' ⟨rfl, ⟨nd, rfl⟩⟩; refine ⟨_, rfl, ?_⟩))
        go_ret
        exact ⟨by first | rfl | (simp; done) | (simp [*]; done), by repeat (first | exact Drawn0.refl _ | apply Drawn0.step)⟩
      · rw [if_neg c8] at H
        have c8b0 : ((Go.bits .or .u64 (IntKind.u64.wrap ((IntKind.u64.wrap (t134 + 1)) * 4294967296)) ((IntKind.u64.wrap (t135 + t132)) / 4294967296)) == a1) = false := beq_eq_false_iff_ne.mpr c8
        have c8b1 : ((Go.bits .or .u64 (IntKind.u64.wrap ((IntKind.u64.wrap (t134 + 1)) * 4294967296)) ((IntKind.u64.wrap (t135 + t132)) / 4294967296)) != a1) = true := bne_iff_ne.mpr c8
        obtain rfl := Option.some.inj H
        go_enter Tryz.func156, Tryz.ntmps156
        go_wp2_with (first | ((with_reducible refine gate_callee (f := 187) rfl ?_); refine goesL_ (some 17) rfl rfl Tryz.func187 (by kernel_rfl) rfl #[.int .u64 a0, .int .u64 a0] rfl (by (try simp only [List.map_toArray, List.map_cons, List.map_nil]); first | done | rfl | (simp only [List.length_drop, List.length_take]; rfl)) ?_; (with_reducible refine (godownref02_wide.calls a0 a0 t130 t131 _ A3.out).mono ?_); rintro e w' ⟨rfl, ⟨nd, rfl⟩⟩; refine ⟨_, rfl, ?_⟩) | ((with_reducible refine gate_callee (f := 187) rfl ?_); refine goesL_ (some 23) rfl rfl Tryz.func187 (by kernel_rfl) rfl #[.int .u64 t131, .int .u64 a0] rfl (by (try simp only [List.map_toArray, List.map_cons, List.map_nil]); first | done | rfl | (simp only [List.length_drop, List.length_take]; rfl)) ?_; (with_reducible refine (godownref02_wide.calls t131 a0 t132 t133 _ A4.out).mono ?_); rintro e w' ⟨rfl, ⟨nd, rfl⟩⟩; refine ⟨_, rfl, ?_⟩) | ((with_reducible refine gate_callee (f := 187) rfl ?_); refine goesL_ (some 29) rfl rfl Tryz.func187 (by kernel_rfl) rfl #[.int .u64 t130, .int .u64 a0] rfl (by (try simp only [List.map_toArray, List.map_cons, List.map_nil]); first | done | rfl | (simp only [List.length_drop, List.length_take]; rfl)) ?_; (with_reducible refine (godownref02_wide.calls t130 a0 t134 t135 _ A5.out).mono ?_); rintro e w' ⟨rfl, ⟨nd, rfl⟩⟩; refine ⟨_, rfl, ?_⟩))
        go_ret
        exact ⟨by first | rfl | (simp; done) | (simp [*]; done), by repeat (first | exact Drawn0.refl _ | apply Drawn0.step)⟩
  · rw [if_neg c6] at H
    have c6b0 : decide ((IntKind.u64.wrap (t135 + t132)) < t135) = false := decide_eq_false c6
    clear c6
    by_cases c9 : (Go.bits .or .u64 (IntKind.u64.wrap (t134 * 4294967296)) ((IntKind.u64.wrap (t135 + t132)) / 4294967296)) < a1
    · rw [if_pos c9] at H
      have c9b0 : decide ((Go.bits .or .u64 (IntKind.u64.wrap (t134 * 4294967296)) ((IntKind.u64.wrap (t135 + t132)) / 4294967296)) < a1) = true := decide_eq_true c9
      clear c9
      obtain rfl := Option.some.inj H
      go_enter Tryz.func156, Tryz.ntmps156
      go_wp2_with (first | ((with_reducible refine gate_callee (f := 187) rfl ?_); refine goesL_ (some 17) rfl rfl Tryz.func187 (by kernel_rfl) rfl #[.int .u64 a0, .int .u64 a0] rfl (by (try simp only [List.map_toArray, List.map_cons, List.map_nil]); first | done | rfl | (simp only [List.length_drop, List.length_take]; rfl)) ?_; (with_reducible refine (godownref02_wide.calls a0 a0 t130 t131 _ A3.out).mono ?_); rintro e w' ⟨rfl, ⟨nd, rfl⟩⟩; refine ⟨_, rfl, ?_⟩) | ((with_reducible refine gate_callee (f := 187) rfl ?_); refine goesL_ (some 23) rfl rfl Tryz.func187 (by kernel_rfl) rfl #[.int .u64 t131, .int .u64 a0] rfl (by (try simp only [List.map_toArray, List.map_cons, List.map_nil]); first | done | rfl | (simp only [List.length_drop, List.length_take]; rfl)) ?_; (with_reducible refine (godownref02_wide.calls t131 a0 t132 t133 _ A4.out).mono ?_); rintro e w' ⟨rfl, ⟨nd, rfl⟩⟩; refine ⟨_, rfl, ?_⟩) | ((with_reducible refine gate_callee (f := 187) rfl ?_); refine goesL_ (some 29) rfl rfl Tryz.func187 (by kernel_rfl) rfl #[.int .u64 t130, .int .u64 a0] rfl (by (try simp only [List.map_toArray, List.map_cons, List.map_nil]); first | done | rfl | (simp only [List.length_drop, List.length_take]; rfl)) ?_; (with_reducible refine (godownref02_wide.calls t130 a0 t134 t135 _ A5.out).mono ?_); rintro e w' ⟨rfl, ⟨nd, rfl⟩⟩; refine ⟨_, rfl, ?_⟩))
      go_ret
      exact ⟨by first | rfl | (simp; done) | (simp [*]; done), by repeat (first | exact Drawn0.refl _ | apply Drawn0.step)⟩
    · rw [if_neg c9] at H
      have c9b0 : decide ((Go.bits .or .u64 (IntKind.u64.wrap (t134 * 4294967296)) ((IntKind.u64.wrap (t135 + t132)) / 4294967296)) < a1) = false := decide_eq_false c9
      clear c9
      by_cases c10 : (Go.bits .or .u64 (IntKind.u64.wrap (t134 * 4294967296)) ((IntKind.u64.wrap (t135 + t132)) / 4294967296)) = a1
      · rw [if_pos c10] at H
        have c10b0 : ((Go.bits .or .u64 (IntKind.u64.wrap (t134 * 4294967296)) ((IntKind.u64.wrap (t135 + t132)) / 4294967296)) == a1) = true := beq_iff_eq.mpr c10
        have c10b1 : ((Go.bits .or .u64 (IntKind.u64.wrap (t134 * 4294967296)) ((IntKind.u64.wrap (t135 + t132)) / 4294967296)) != a1) = false := bne_eq_false_iff_eq.mpr c10
        clear c10
        obtain rfl := Option.some.inj H
        go_enter Tryz.func156, Tryz.ntmps156
        go_wp2_with (first | ((with_reducible refine gate_callee (f := 187) rfl ?_); refine goesL_ (some 17) rfl rfl Tryz.func187 (by kernel_rfl) rfl #[.int .u64 a0, .int .u64 a0] rfl (by (try simp only [List.map_toArray, List.map_cons, List.map_nil]); first | done | rfl | (simp only [List.length_drop, List.length_take]; rfl)) ?_; (with_reducible refine (godownref02_wide.calls a0 a0 t130 t131 _ A3.out).mono ?_); rintro e w' ⟨rfl, ⟨nd, rfl⟩⟩; refine ⟨_, rfl, ?_⟩) | ((with_reducible refine gate_callee (f := 187) rfl ?_); refine goesL_ (some 23) rfl rfl Tryz.func187 (by kernel_rfl) rfl #[.int .u64 t131, .int .u64 a0] rfl (by (try simp only [List.map_toArray, List.map_cons, List.map_nil]); first | done | rfl | (simp only [List.length_drop, List.length_take]; rfl)) ?_; (with_reducible refine (godownref02_wide.calls t131 a0 t132 t133 _ A4.out).mono ?_); rintro e w' ⟨rfl, ⟨nd, rfl⟩⟩; refine ⟨_, rfl, ?_⟩) | ((with_reducible refine gate_callee (f := 187) rfl ?_); refine goesL_ (some 29) rfl rfl Tryz.func187 (by kernel_rfl) rfl #[.int .u64 t130, .int .u64 a0] rfl (by (try simp only [List.map_toArray, List.map_cons, List.map_nil]); first | done | rfl | (simp only [List.length_drop, List.length_take]; rfl)) ?_; (with_reducible refine (godownref02_wide.calls t130 a0 t134 t135 _ A5.out).mono ?_); rintro e w' ⟨rfl, ⟨nd, rfl⟩⟩; refine ⟨_, rfl, ?_⟩))
        go_ret
        exact ⟨by first | rfl | (simp; done) | (simp [*]; done), by repeat (first | exact Drawn0.refl _ | apply Drawn0.step)⟩
      · rw [if_neg c10] at H
        have c10b0 : ((Go.bits .or .u64 (IntKind.u64.wrap (t134 * 4294967296)) ((IntKind.u64.wrap (t135 + t132)) / 4294967296)) == a1) = false := beq_eq_false_iff_ne.mpr c10
        have c10b1 : ((Go.bits .or .u64 (IntKind.u64.wrap (t134 * 4294967296)) ((IntKind.u64.wrap (t135 + t132)) / 4294967296)) != a1) = true := bne_iff_ne.mpr c10
        obtain rfl := Option.some.inj H
        go_enter Tryz.func156, Tryz.ntmps156
        go_wp2_with (first | ((with_reducible refine gate_callee (f := 187) rfl ?_); refine goesL_ (some 17) rfl rfl Tryz.func187 (by kernel_rfl) rfl #[.int .u64 a0, .int .u64 a0] rfl (by (try simp only [List.map_toArray, List.map_cons, List.map_nil]); first | done | rfl | (simp only [List.length_drop, List.length_take]; rfl)) ?_; (with_reducible refine (godownref02_wide.calls a0 a0 t130 t131 _ A3.out).mono ?_); rintro e w' ⟨rfl, ⟨nd, rfl⟩⟩; refine ⟨_, rfl, ?_⟩) | ((with_reducible refine gate_callee (f := 187) rfl ?_); refine goesL_ (some 23) rfl rfl Tryz.func187 (by kernel_rfl) rfl #[.int .u64 t131, .int .u64 a0] rfl (by (try simp only [List.map_toArray, List.map_cons, List.map_nil]); first | done | rfl | (simp only [List.length_drop, List.length_take]; rfl)) ?_; (with_reducible refine (godownref02_wide.calls t131 a0 t132 t133 _ A4.out).mono ?_); rintro e w' ⟨rfl, ⟨nd, rfl⟩⟩; refine ⟨_, rfl, ?_⟩) | ((with_reducible refine gate_callee (f := 187) rfl ?_); refine goesL_ (some 29) rfl rfl Tryz.func187 (by kernel_rfl) rfl #[.int .u64 t130, .int .u64 a0] rfl (by (try simp only [List.map_toArray, List.map_cons, List.map_nil]); first | done | rfl | (simp only [List.length_drop, List.length_take]; rfl)) ?_; (with_reducible refine (godownref02_wide.calls t130 a0 t134 t135 _ A5.out).mono ?_); rintro e w' ⟨rfl, ⟨nd, rfl⟩⟩; refine ⟨_, rfl, ?_⟩))
        go_ret
        exact ⟨by first | rfl | (simp; done) | (simp [*]; done), by repeat (first | exact Drawn0.refl _ | apply Drawn0.step)⟩

/-! ### godownref02_square: function 157 -/
def godownref02_square.f (a0 : Int) (a1 : Int) : Option (Bool) := (godownref02_wide.f a0 a0).bind fun bt136 => (if bt136.1 < a1 then (some true) else (if bt136.1 = a1 then (some (bt136.2 == 0)) else (some false)))
set_option maxHeartbeats 8000000 in
set_option maxRecDepth 100000 in
theorem godownref02_square.calls (a0 : Int) (a1 : Int) (r : Bool) (w : World) (h : godownref02_square.f a0 a1 = some r) :
    Calls Tryz.prog 157 #[.int .u64 a0, .int .u64 a1] w fun e w' => e = .returned (.bool r) ∧ Drawn0 w w' := by
  have H : ((godownref02_wide.f a0 a0).bind fun bt136 => (if bt136.1 < a1 then (some true) else (if bt136.1 = a1 then (some (bt136.2 == 0)) else (some false)))) = some r := h
  clear h
  replace H := Option.bind_eq_some_iff.mp H
  obtain ⟨⟨t136, t137⟩, A30, H⟩ := H
  replace H : (if t136 < a1 then (some true) else (if t136 = a1 then (some (t137 == 0)) else (some false))) = some r := H
  have A3 := Aside0.mk A30
  clear A30
  by_cases c4 : t136 < a1
  · rw [if_pos c4] at H
    have c4b0 : decide (t136 < a1) = true := decide_eq_true c4
    clear c4
    obtain rfl := Option.some.inj H
    go_enter Tryz.func157, Tryz.ntmps157
    go_wp2_with (first | ((with_reducible refine gate_callee (f := 187) rfl ?_); refine goesL_ (some 10) rfl rfl Tryz.func187 (by kernel_rfl) rfl #[.int .u64 a0, .int .u64 a0] rfl (by (try simp only [List.map_toArray, List.map_cons, List.map_nil]); first | done | rfl | (simp only [List.length_drop, List.length_take]; rfl)) ?_; (with_reducible refine (godownref02_wide.calls a0 a0 t136 t137 _ A3.out).mono ?_); rintro e w' ⟨rfl, ⟨nd, rfl⟩⟩; refine ⟨_, rfl, ?_⟩))
    go_ret
    exact ⟨by first | rfl | (simp; done) | (simp [*]; done), by repeat (first | exact Drawn0.refl _ | apply Drawn0.step)⟩
  · rw [if_neg c4] at H
    have c4b0 : decide (t136 < a1) = false := decide_eq_false c4
    clear c4
    by_cases c5 : t136 = a1
    · rw [if_pos c5] at H
      have c5b0 : (t136 == a1) = true := beq_iff_eq.mpr c5
      have c5b1 : (t136 != a1) = false := bne_eq_false_iff_eq.mpr c5
      clear c5
      obtain rfl := Option.some.inj H
      go_enter Tryz.func157, Tryz.ntmps157
      go_wp2_with (first | ((with_reducible refine gate_callee (f := 187) rfl ?_); refine goesL_ (some 10) rfl rfl Tryz.func187 (by kernel_rfl) rfl #[.int .u64 a0, .int .u64 a0] rfl (by (try simp only [List.map_toArray, List.map_cons, List.map_nil]); first | done | rfl | (simp only [List.length_drop, List.length_take]; rfl)) ?_; (with_reducible refine (godownref02_wide.calls a0 a0 t136 t137 _ A3.out).mono ?_); rintro e w' ⟨rfl, ⟨nd, rfl⟩⟩; refine ⟨_, rfl, ?_⟩))
      go_ret
      exact ⟨by first | rfl | (simp; done) | (simp [*]; done), by repeat (first | exact Drawn0.refl _ | apply Drawn0.step)⟩
    · rw [if_neg c5] at H
      have c5b0 : (t136 == a1) = false := beq_eq_false_iff_ne.mpr c5
      have c5b1 : (t136 != a1) = true := bne_iff_ne.mpr c5
      obtain rfl := Option.some.inj H
      go_enter Tryz.func157, Tryz.ntmps157
      go_wp2_with (first | ((with_reducible refine gate_callee (f := 187) rfl ?_); refine goesL_ (some 10) rfl rfl Tryz.func187 (by kernel_rfl) rfl #[.int .u64 a0, .int .u64 a0] rfl (by (try simp only [List.map_toArray, List.map_cons, List.map_nil]); first | done | rfl | (simp only [List.length_drop, List.length_take]; rfl)) ?_; (with_reducible refine (godownref02_wide.calls a0 a0 t136 t137 _ A3.out).mono ?_); rintro e w' ⟨rfl, ⟨nd, rfl⟩⟩; refine ⟨_, rfl, ?_⟩))
      go_ret
      exact ⟨by first | rfl | (simp; done) | (simp [*]; done), by repeat (first | exact Drawn0.refl _ | apply Drawn0.step)⟩

/-! ### godownref02_root: function 133 -/
def godownref02_root.l0 : Nat → Int → Bool → Int → Int → Option (Int)
  | 0, _, _, _, _ => none
  | k + 1, x0, x1, x5, x6 => if x6 ≥ 0 then (if 0 ≤ x6 then (if x1 = true then ((godownref02_cube.f (IntKind.u64.wrap (x5 + (shl .u64 1 x6))) x0).bind fun t138 => (if t138 = true then (godownref02_root.l0 k x0 x1 (IntKind.u64.wrap (x5 + (shl .u64 1 x6))) (wrap64 (x6 - 1))) else (godownref02_root.l0 k x0 x1 x5 (wrap64 (x6 - 1))))) else ((godownref02_square.f (IntKind.u64.wrap (x5 + (shl .u64 1 x6))) x0).bind fun t139 => (if t139 = true then (godownref02_root.l0 k x0 x1 (IntKind.u64.wrap (x5 + (shl .u64 1 x6))) (wrap64 (x6 - 1))) else (godownref02_root.l0 k x0 x1 x5 (wrap64 (x6 - 1)))))) else (none)) else (some ((Int.tmod x5 4294967296) % 4294967296))
def godownref02_root.f (k : Nat) (a0 : Int) (a1 : Bool) : Option (Int) := godownref02_root.l0 k a0 a1 0 36
theorem godownref02_root.mono_l : ∀ k, (∀ y0 y1 y2 y3, LeO (godownref02_root.l0 k y0 y1 y2 y3) (godownref02_root.l0 (k + 1) y0 y1 y2 y3))
  | 0 => fun _ _ _ _ r h => by simp [godownref02_root.l0] at h
  | k + 1 => by
    have ih0 := godownref02_root.mono_l k
    · intro y0 y1 y2 y3
      unfold godownref02_root.l0
      repeat' first
      | (with_reducible exact ih0 _ _ _ _)
      | (with_reducible exact LeO.refl _)
      | (with_reducible exact LeO.none _)
      | (with_reducible refine LeO.ite ?_ ?_)
      | (with_reducible refine LeO.bind ?_ (fun _ => ?_))
      | exact ih0 _ _ _ _
      | exact LeO.none _
      | refine LeO.ite ?_ ?_
      | refine LeO.bind ?_ (fun _ => ?_)
theorem godownref02_root.mono : ∀ a0 a1 k, LeO (godownref02_root.f k a0 a1) (godownref02_root.f (k + 1) a0 a1) := by
  intro a0 a1 k
  have ih0 := godownref02_root.mono_l k
  unfold godownref02_root.f
  repeat' first
      | (with_reducible exact ih0 _ _ _ _)
      | (with_reducible exact LeO.refl _)
      | (with_reducible exact LeO.none _)
      | (with_reducible refine LeO.ite ?_ ?_)
      | (with_reducible refine LeO.bind ?_ (fun _ => ?_))
      | exact ih0 _ _ _ _
      | exact LeO.none _
      | refine LeO.ite ?_ ?_
      | refine LeO.bind ?_ (fun _ => ?_)
set_option maxHeartbeats 8000000 in
set_option maxRecDepth 100000 in
theorem godownref02_root.calls (k : Nat) (a0 : Int) (a1 : Bool) (r : Int) (w : World) (h : godownref02_root.f k a0 a1 = some r) :
    Calls Tryz.prog 133 #[.int .u64 a0, .bool a1] w fun e w' => e = .returned (.int .u32 r) ∧ Drawn0 w w' := by
  have H : (godownref02_root.l0 k a0 a1 0 36) = some r := h
  clear h
  have H' := Aside0.mk H
  clear H
  go_enter Tryz.func133, Tryz.ntmps133
  go_wp2
  go_loopg [5, 6] k (fun kq v5 v6 w' => ∃ (x5_1 : Int) (x6_1 : Int), v5 = .int .u64 x5_1 ∧ v6 = .int .i64 x6_1 ∧ Aside0 (godownref02_root.l0 kq a0 a1 x5_1 x6_1 = some r) ∧ Aside0 (kq ≤ k) ∧ Drawn0 w w')
  case atStart => exact ⟨(0), (36), (by first | rfl | (simp; done) | (simp [*]; done)), (by first | rfl | (simp; done) | (simp [*]; done)), H', ⟨Nat.le_refl _⟩, by repeat (first | exact Drawn0.refl _ | apply Drawn0.step)⟩
  case round =>
    clear H'
    try clear c1
    try clear p2
    obtain ⟨x5_1, x6_1, rfl, rfl, HA, HK1, ⟨m1, rfl⟩⟩ := hrel
    cases gk with
    | zero => exact absurd HA.out (by simp [godownref02_root.l0])
    | succ k1 =>
      have H := HA.out
      clear HA
      simp only [godownref02_root.l0] at H
      by_cases c3 : x6_1 ≥ 0
      · rw [if_pos c3] at H
        have c3b0 : decide (0 ≤ x6_1) = true := decide_eq_true c3
        clear c3
        by_cases c4 : 0 ≤ x6_1
        · rw [if_pos c4] at H
          have c4b0 := eq_true c4
          have c4b1 : decide (0 ≤ x6_1) = true := decide_eq_true c4
          clear c4
          obtain ⟨ji5, hji5⟩ : ∃ j_ : Int, (shl .u64 1 x6_1) = j_ := ⟨_, rfl⟩
          replace H : (if a1 = true then ((godownref02_cube.f (IntKind.u64.wrap (x5_1 + (ji5))) a0).bind fun t138 => (if t138 = true then (godownref02_root.l0 k1 a0 a1 (IntKind.u64.wrap (x5_1 + (ji5))) (wrap64 (x6_1 - 1))) else (godownref02_root.l0 k1 a0 a1 x5_1 (wrap64 (x6_1 - 1))))) else ((godownref02_square.f (IntKind.u64.wrap (x5_1 + (ji5))) a0).bind fun t139 => (if t139 = true then (godownref02_root.l0 k1 a0 a1 (IntKind.u64.wrap (x5_1 + (ji5))) (wrap64 (x6_1 - 1))) else (godownref02_root.l0 k1 a0 a1 x5_1 (wrap64 (x6_1 - 1)))))) = some r := by first | (rw [hji5] at H; exact H) | (simp only [hji5] at H ⊢; exact H)
          have hji5_ : (IntKind.u64.wrap (1 * 2 ^ min x6_1.toNat 64)) = ji5 := hji5
          have hji5z : x6_1 ≤ 64 → (IntKind.u64.wrap (1 * 2 ^ x6_1.toNat)) = ji5 := shl_small hji5
          have hji5u : (IntKind.u64.wrap (2 ^ min x6_1.toNat 64)) = ji5 := by have h_ := hji5_; rw [Int.one_mul] at h_; exact h_
          have hji5v : x6_1 ≤ 64 → (IntKind.u64.wrap (2 ^ x6_1.toNat)) = ji5 := fun hle_ => by have h_ := hji5z hle_; rw [Int.one_mul] at h_; exact h_
          by_cases c6 : a1 = true
          · subst c6
            have H1 : ((godownref02_cube.f (IntKind.u64.wrap (x5_1 + (ji5))) a0).bind fun t138 => (if t138 = true then (godownref02_root.l0 k1 a0 true (IntKind.u64.wrap (x5_1 + (ji5))) (wrap64 (x6_1 - 1))) else (godownref02_root.l0 k1 a0 true x5_1 (wrap64 (x6_1 - 1))))) = some r := by rw [if_pos rfl] at H; exact H
            clear H
            have H := H1
            clear H1
            replace H := Option.bind_eq_some_iff.mp H
            obtain ⟨t138, A70, H⟩ := H
            replace H : (if t138 = true then (godownref02_root.l0 k1 a0 true (IntKind.u64.wrap (x5_1 + (ji5))) (wrap64 (x6_1 - 1))) else (godownref02_root.l0 k1 a0 true x5_1 (wrap64 (x6_1 - 1)))) = some r := H
            have A7 := Aside0.mk A70
            clear A70
            by_cases c8 : t138 = true
            · subst c8
              have H1 : (godownref02_root.l0 k1 a0 true (IntKind.u64.wrap (x5_1 + (ji5))) (wrap64 (x6_1 - 1))) = some r := by rw [if_pos rfl] at H; exact H
              clear H
              have H := H1
              clear H1
              have H' := Aside0.mk H
              clear H
              go_wp2_with (first | (go_at_call 156; (with_reducible refine (godownref02_cube.calls (IntKind.u64.wrap (x5_1 + (ji5))) a0 true _ A7.out).mono ?_); rintro e w' ⟨rfl, ⟨nd, rfl⟩⟩))
              go_roundg k1
              case measure => have := HK1.out; omega
              case rel => exact ⟨(IntKind.u64.wrap (x5_1 + (ji5))), (wrap64 (x6_1 - 1)), (by first | rfl | (simp; done) | (simp only [← hji5] <;> (first | rfl | simp)) | (simp [*]; done)), (by first | rfl | (simp; done) | (simp [*]; done)), H', ⟨by have := HK1.out; omega⟩, by repeat (first | exact Drawn0.refl _ | apply Drawn0.step)⟩
            · replace c8 := Bool.eq_false_iff.mpr c8
              subst c8
              have H1 : (godownref02_root.l0 k1 a0 true x5_1 (wrap64 (x6_1 - 1))) = some r := by rw [if_neg (show ¬ (false = true) by decide)] at H; exact H
              clear H
              have H := H1
              clear H1
              have H' := Aside0.mk H
              clear H
              go_wp2_with (first | (go_at_call 156; (with_reducible refine (godownref02_cube.calls (IntKind.u64.wrap (x5_1 + (ji5))) a0 false _ A7.out).mono ?_); rintro e w' ⟨rfl, ⟨nd, rfl⟩⟩))
              go_roundg k1
              case measure => have := HK1.out; omega
              case rel => exact ⟨(x5_1), (wrap64 (x6_1 - 1)), (by first | rfl | (simp; done) | (simp [*]; done)), (by first | rfl | (simp; done) | (simp [*]; done)), H', ⟨by have := HK1.out; omega⟩, by repeat (first | exact Drawn0.refl _ | apply Drawn0.step)⟩
          · replace c6 := Bool.eq_false_iff.mpr c6
            subst c6
            have H1 : ((godownref02_square.f (IntKind.u64.wrap (x5_1 + (ji5))) a0).bind fun t139 => (if t139 = true then (godownref02_root.l0 k1 a0 false (IntKind.u64.wrap (x5_1 + (ji5))) (wrap64 (x6_1 - 1))) else (godownref02_root.l0 k1 a0 false x5_1 (wrap64 (x6_1 - 1))))) = some r := by rw [if_neg (show ¬ (false = true) by decide)] at H; exact H
            clear H
            have H := H1
            clear H1
            replace H := Option.bind_eq_some_iff.mp H
            obtain ⟨t139, A90, H⟩ := H
            replace H : (if t139 = true then (godownref02_root.l0 k1 a0 false (IntKind.u64.wrap (x5_1 + (ji5))) (wrap64 (x6_1 - 1))) else (godownref02_root.l0 k1 a0 false x5_1 (wrap64 (x6_1 - 1)))) = some r := H
            have A9 := Aside0.mk A90
            clear A90
            by_cases c10 : t139 = true
            · subst c10
              have H1 : (godownref02_root.l0 k1 a0 false (IntKind.u64.wrap (x5_1 + (ji5))) (wrap64 (x6_1 - 1))) = some r := by rw [if_pos rfl] at H; exact H
              clear H
              have H := H1
              clear H1
              have H' := Aside0.mk H
              clear H
              go_wp2_with (first | (go_at_call 157; (with_reducible refine (godownref02_square.calls (IntKind.u64.wrap (x5_1 + (ji5))) a0 true _ A9.out).mono ?_); rintro e w' ⟨rfl, ⟨nd, rfl⟩⟩))
              go_roundg k1
              case measure => have := HK1.out; omega
              case rel => exact ⟨(IntKind.u64.wrap (x5_1 + (ji5))), (wrap64 (x6_1 - 1)), (by first | rfl | (simp; done) | (simp only [← hji5] <;> (first | rfl | simp)) | (simp [*]; done)), (by first | rfl | (simp; done) | (simp [*]; done)), H', ⟨by have := HK1.out; omega⟩, by repeat (first | exact Drawn0.refl _ | apply Drawn0.step)⟩
            · replace c10 := Bool.eq_false_iff.mpr c10
              subst c10
              have H1 : (godownref02_root.l0 k1 a0 false x5_1 (wrap64 (x6_1 - 1))) = some r := by rw [if_neg (show ¬ (false = true) by decide)] at H; exact H
              clear H
              have H := H1
              clear H1
              have H' := Aside0.mk H
              clear H
              go_wp2_with (first | (go_at_call 157; (with_reducible refine (godownref02_square.calls (IntKind.u64.wrap (x5_1 + (ji5))) a0 false _ A9.out).mono ?_); rintro e w' ⟨rfl, ⟨nd, rfl⟩⟩))
              go_roundg k1
              case measure => have := HK1.out; omega
              case rel => exact ⟨(x5_1), (wrap64 (x6_1 - 1)), (by first | rfl | (simp; done) | (simp [*]; done)), (by first | rfl | (simp; done) | (simp [*]; done)), H', ⟨by have := HK1.out; omega⟩, by repeat (first | exact Drawn0.refl _ | apply Drawn0.step)⟩
        · rw [if_neg c4] at H
          exact absurd H (by simp)
      · rw [if_neg c3] at H
        have c3b0 : decide (0 ≤ x6_1) = false := decide_eq_false c3
        clear c3
        obtain rfl := Option.some.inj H
        go_wp2
        go_ret
        exact ⟨by first | rfl | (simp; done) | (simp [*]; done), by repeat (first | exact Drawn0.refl _ | apply Drawn0.step)⟩

/-! ### godownref02_Tables: function 108 -/
def godownref02_Tables.l0 : Nat → List Int → List Int → List Int → Int → Option (List Int × List Int)
  | 0, _, _, _, _ => none
  | k + 1, x2, x3, x4, x5 => if x5 < 64 then (if x5 < 8 then (if 0 ≤ x5 then (if x5 < (x2.length : Int) then ((godownref02_root.f k (rd x2 x5) false).bind fun t144 => (if x3.length < 35184372088832 then ((godownref02_root.f k (rd x2 x5) true).bind fun t149 => (if x4.length < 35184372088832 then (godownref02_Tables.l0 k x2 (x3 ++ [t144]) (x4 ++ [t149]) (wrap64 (x5 + 1))) else (none))) else (none))) else (none)) else (none)) else (if 0 ≤ x5 then (if x5 < (x2.length : Int) then ((godownref02_root.f k (rd x2 x5) true).bind fun t154 => (if x4.length < 35184372088832 then (godownref02_Tables.l0 k x2 x3 (x4 ++ [t154]) (wrap64 (x5 + 1))) else (none))) else (none)) else (none))) else (some (x3, x4))
def godownref02_Tables.f (k : Nat)  : Option (List Int × List Int) := (godownref02_primes.f k 64).bind fun t140 => (godownref02_Tables.l0 k t140 ([] : List Int) ([] : List Int) 0)
theorem godownref02_Tables.mono_l : ∀ k, (∀ y0 y1 y2 y3, LeO (godownref02_Tables.l0 k y0 y1 y2 y3) (godownref02_Tables.l0 (k + 1) y0 y1 y2 y3))
  | 0 => fun _ _ _ _ r h => by simp [godownref02_Tables.l0] at h
  | k + 1 => by
    have ih0 := godownref02_Tables.mono_l k
    · intro y0 y1 y2 y3
      unfold godownref02_Tables.l0
      repeat' first
      | (with_reducible exact ih0 _ _ _ _)
      | (with_reducible exact godownref02_primes.mono _ _)
      | (with_reducible exact godownref02_root.mono _ _ _)
      | (with_reducible exact LeO.refl _)
      | (with_reducible exact LeO.none _)
      | (with_reducible refine LeO.ite ?_ ?_)
      | (with_reducible refine LeO.bind ?_ (fun _ => ?_))
      | exact ih0 _ _ _ _
      | exact godownref02_primes.mono _ _
      | exact godownref02_root.mono _ _ _
      | exact LeO.none _
      | refine LeO.ite ?_ ?_
      | refine LeO.bind ?_ (fun _ => ?_)
theorem godownref02_Tables.mono : ∀ k, LeO (godownref02_Tables.f k ) (godownref02_Tables.f (k + 1) ) := by
  intro  k
  have ih0 := godownref02_Tables.mono_l k
  unfold godownref02_Tables.f
  repeat' first
      | (with_reducible exact ih0 _ _ _ _)
      | (with_reducible exact godownref02_primes.mono _ _)
      | (with_reducible exact godownref02_root.mono _ _ _)
      | (with_reducible exact LeO.refl _)
      | (with_reducible exact LeO.none _)
      | (with_reducible refine LeO.ite ?_ ?_)
      | (with_reducible refine LeO.bind ?_ (fun _ => ?_))
      | exact ih0 _ _ _ _
      | exact godownref02_primes.mono _ _
      | exact godownref02_root.mono _ _ _
      | exact LeO.none _
      | refine LeO.ite ?_ ?_
      | refine LeO.bind ?_ (fun _ => ?_)
set_option maxHeartbeats 8000000 in
set_option maxRecDepth 100000 in
theorem godownref02_Tables.calls (k : Nat)  (r1 : List Int) (r2 : List Int) (w : World) (h : godownref02_Tables.f k  = some (r1, r2)) :
    Calls Tryz.prog 108 #[] w fun e w' => ∃ v0_ v1_ : Value, e = .returned (.tuple #[v0_, v1_]) ∧ Kd.R (Kd.int .u32) 184 w' w.heap.size (fun k_ => some k_ ≠ (v1_ : Value).ownBlock) v0_ r1 ∧ Kd.R (Kd.int .u32) 184 w' w.heap.size (fun k_ => some k_ ≠ (v0_ : Value).ownBlock) v1_ r2 ∧ Below w.heap.size w w' := by
  have HB := Aside0.mk (Below.refl w.heap.size w)
  have H : ((godownref02_primes.f k 64).bind fun t140 => (godownref02_Tables.l0 k t140 ([] : List Int) ([] : List Int) 0)) = some (r1, r2) := h
  clear h
  replace H := Option.bind_eq_some_iff.mp H
  obtain ⟨t140, A10, H⟩ := H
  replace H : (godownref02_Tables.l0 k t140 ([] : List Int) ([] : List Int) 0) = some (r1, r2) := H
  have A1 := Aside0.mk A10
  clear A10
  have H' := Aside0.mk H
  clear H
  go_enter Tryz.func108, Tryz.ntmps108
  go_wp2_with (first | ((with_reducible refine gate_callee (f := 132) rfl ?_); refine goesL_ (some 6) rfl rfl Tryz.func132 (by kernel_rfl) rfl #[.int .i64 64] rfl (by (try simp only [List.map_toArray, List.map_cons, List.map_nil]); first | done | rfl | (simp only [List.length_drop, List.length_take]; rfl)) ?_; (with_reducible refine (godownref02_primes.calls k 64 t140 _ A1.out).mono ?_); rintro e w2 ⟨v141, rfl, ho0, hb⟩; refine ⟨_, rfl, ?_⟩; have n0_ := Aside0.mk (Kd.R_lower ho0 (below_size (by repeat (first | (with_reducible first | exact HB.out | apply below_alloc | apply pw_below_drewN | apply below_drew1) | exact HB.out)))); have n1_ := Aside0.mk (below_step (by repeat (first | (with_reducible first | exact HB.out | apply below_alloc | apply pw_below_drewN | apply below_drew1) | exact HB.out)) hb); clear HB; have HO142 := n0_; have HB := n1_; clear n0_ n1_; (try clear hb); (try clear hb2); (try clear hk); (try clear hi); (try clear ho0)))
  go_loopg [3, 4, 5] k (fun kq v3 v4 v5 w' => ∃ (x3_1 : List Int) (x4_1 : List Int) (x5_1 : Int), v5 = .int .i64 x5_1 ∧ Aside0 (godownref02_Tables.l0 kq t140 x3_1 x4_1 x5_1 = some (r1, r2)) ∧ Aside0 (kq ≤ k) ∧ Aside0 (Kd.R (Kd.int .u64) 26 w' w.heap.size (fun _ => True) v141 t140) ∧ Aside0 (Kd.R (Kd.int .u32) 184 w' w.heap.size (fun k_ => some k_ ≠ (v4 : Value).ownBlock) v3 x3_1) ∧ Aside0 (Kd.R (Kd.int .u32) 184 w' w.heap.size (fun k_ => some k_ ≠ (v3 : Value).ownBlock) v4 x4_1) ∧ Aside0 (Below w.heap.size w w'))
  case atStart => exact ⟨(([] : List Int)), (([] : List Int)), (0), (by first | rfl | (simp; done) | (simp [*]; done)), H', ⟨Nat.le_refl _⟩, ⟨by (with_reducible repeat (first | apply Kd.R_alloc | apply Kd.R_drewN | apply Kd.R_drew)); exact HO142.out⟩, ⟨by first | exact Kd.R_nil _ _ _ _ _ | exact Kd.N_nil _ _ _ _ _ | exact Kd.V_nil _ _ _ _ _ | exact Kd.Q_nil _ _ _ _ _ | exact Kd.S_nil _ _ _ _ _⟩, ⟨by first | exact Kd.R_nil _ _ _ _ _ | exact Kd.N_nil _ _ _ _ _ | exact Kd.V_nil _ _ _ _ _ | exact Kd.Q_nil _ _ _ _ _ | exact Kd.S_nil _ _ _ _ _⟩, ⟨by repeat (first | (with_reducible first | exact HB.out | apply below_alloc | apply pw_below_drewN | apply below_drew1) | exact HB.out)⟩⟩
  case round =>
    clear H'
    try clear c1
    try clear p2
    obtain ⟨x3_1, x4_1, x5_1, rfl, HA, HK1, HO_2, HO_3, HO_4, HB⟩ := hrel
    cases gk with
    | zero => exact absurd HA.out (by simp [godownref02_Tables.l0])
    | succ k1 =>
      have H := HA.out
      clear HA
      simp only [godownref02_Tables.l0] at H
      by_cases c3 : x5_1 < 64
      · rw [if_pos c3] at H
        have c3b0 : decide (x5_1 < 64) = true := decide_eq_true c3
        clear c3
        by_cases c4 : x5_1 < 8
        · rw [if_pos c4] at H
          have c4b0 : decide (x5_1 < 8) = true := decide_eq_true c4
          clear c4
          by_cases c5 : 0 ≤ x5_1
          · rw [if_pos c5] at H
            have c5b0 : decide (0 ≤ x5_1) = true := decide_eq_true c5
            clear c5
            by_cases c6 : x5_1 < (t140.length : Int)
            · rw [if_pos c6] at H
              have c6b0 : decide (x5_1 < (t140.length : Int)) = true := decide_eq_true c6
              clear c6
              replace H := Option.bind_eq_some_iff.mp H
              obtain ⟨t144, A70, H⟩ := H
              replace H : (if x3_1.length < 35184372088832 then ((godownref02_root.f k1 (rd t140 x5_1) true).bind fun t149 => (if x4_1.length < 35184372088832 then (godownref02_Tables.l0 k1 t140 (x3_1 ++ [t144]) (x4_1 ++ [t149]) (wrap64 (x5_1 + 1))) else (none))) else (none)) = some (r1, r2) := H
              have A7 := Aside0.mk A70
              clear A70
              by_cases c8 : x3_1.length < 35184372088832
              · rw [if_pos c8] at H
                have LMc8 := Aside0.mk c8
                clear c8
                obtain ⟨y145, hy145⟩ : ∃ y_ : List Int, y_ = (x3_1 ++ [t144]) := ⟨_, rfl⟩
                replace H : ((godownref02_root.f k1 (rd t140 x5_1) true).bind fun t149 => (if x4_1.length < 35184372088832 then (godownref02_Tables.l0 k1 t140 y145 (x4_1 ++ [t149]) (wrap64 (x5_1 + 1))) else (none))) = some (r1, r2) := by first | (rw [hy145]; with_reducible exact H) | (have H2_ := (Option.bind_some _ _).symm.trans H; rw [hy145]; with_reducible exact H2_) | (have H2_ := (Option.bind_some _ _).symm.trans H; with_reducible exact H2_) | with_reducible exact H | (rw [hy145]; exact H) | exact H
                have Ny145 := Aside0.mk hy145
                clear hy145
                replace H := Option.bind_eq_some_iff.mp H
                obtain ⟨t149, A90, H⟩ := H
                replace H : (if x4_1.length < 35184372088832 then (godownref02_Tables.l0 k1 t140 y145 (x4_1 ++ [t149]) (wrap64 (x5_1 + 1))) else (none)) = some (r1, r2) := H
                have A9 := Aside0.mk A90
                clear A90
                by_cases c10 : x4_1.length < 35184372088832
                · rw [if_pos c10] at H
                  have LMc10 := Aside0.mk c10
                  clear c10
                  obtain ⟨y150, hy150⟩ : ∃ y_ : List Int, y_ = (x4_1 ++ [t149]) := ⟨_, rfl⟩
                  replace H : (godownref02_Tables.l0 k1 t140 y145 y150 (wrap64 (x5_1 + 1))) = some (r1, r2) := by first | (rw [hy150]; with_reducible exact H) | (have H2_ := (Option.bind_some _ _).symm.trans H; rw [hy150]; with_reducible exact H2_) | (have H2_ := (Option.bind_some _ _).symm.trans H; with_reducible exact H2_) | with_reducible exact H | (rw [hy150]; exact H) | exact H
                  have Ny150 := Aside0.mk hy150
                  clear hy150
                  have H' := Aside0.mk H
                  clear H
                  obtain ⟨Ao11, co11, eo11⟩ := Kd.R_slice HO_2.out
                  subst eo11
                  have p143 : 0 ≤ (x5_1 : Int) := of_decide_eq_true (by first | (with_reducible assumption) | assumption)
                  have q143 : x5_1 < (t140.length : Int) := of_decide_eq_true (by first | (with_reducible assumption) | assumption)
                  obtain ⟨ad143, e143, hx143_0⟩ := Kd.at_int (Kd.R_reads' HO_2.out).2.2 x5_1 p143 q143
                  cases e143
                  replace p143 := eq_true p143
                  replace q143 := eq_true q143
                  go_wp2_with (first | ((with_reducible refine gate_callee (f := 133) rfl ?_); refine goesL_ (some 18) rfl rfl Tryz.func133 (by kernel_rfl) rfl #[.int .u64 (rd t140 x5_1), .bool false] rfl (by (try simp only [List.map_toArray, List.map_cons, List.map_nil]); first | done | rfl | (simp only [List.length_drop, List.length_take]; rfl)) ?_; (with_reducible refine (godownref02_root.calls k1 (rd t140 x5_1) false t144 _ A7.out).mono ?_); rintro e w' ⟨rfl, ⟨nd, rfl⟩⟩; refine ⟨_, rfl, ?_⟩) | ((with_reducible refine gate_builtin (b := .append) (xs := #[.tmp 13, .tmp 19]) rfl ?_); at_builtin; refine Kd.R_append (Kd.int .u32) (w0 := w) w.heap.size rfl (.tmp 13) (.tmp 19) 29 184 (.int .u32 0) 4 rfl Tryz.underlying29 info184 rfl (by decide) (by omega) u3 x3_1 t144 [.int .u32 t144] (fun k_ => some k_ ≠ (u4 : Value).ownBlock) (fun _ => False) rfl rfl ?aP (fun _ hk => hk.elim) ?aF ?aO ?aB ?aS ?aL ?_; (case aP => exact rfl); (case aB => exact (by repeat (first | (with_reducible first | exact HB.out | apply below_alloc | apply pw_below_drewN | apply below_drew1) | exact HB.out))); (case aF => exact (fun k_ hk => Kd.fresh' (Kd.R_lt (by (with_reducible repeat (first | apply Kd.R_alloc | apply Kd.R_drewN | apply Kd.R_drew)); exact HO_4.out)) k_ hk)); (case aO => exact (by (with_reducible repeat (first | apply Kd.R_alloc | apply Kd.R_drewN | apply Kd.R_drew)); exact HO_3.out)); (case aS => exact (below_size (by repeat (first | (with_reducible first | exact HB.out | apply below_alloc | apply pw_below_drewN | apply below_drew1) | exact HB.out)))); (case aL => have := LMc8.out; omega); intro v146 w12 ho hb hg hat; rw [← Ny145.out] at ho; have n0_ := Aside0.mk (Kd.R_over' (by (with_reducible repeat (first | apply Kd.R_alloc | apply Kd.R_drewN | apply Kd.R_drew)); exact HO_2.out) (Kd.R_typed (by (with_reducible repeat (first | apply Kd.R_alloc | apply Kd.R_drewN | apply Kd.R_drew)); exact HO_3.out)) (by decide) hg); have n1_ := Aside0.mk (Kd.R_after (ok := (fun _ => True)) (by (with_reducible repeat (first | apply Kd.R_alloc | apply Kd.R_drewN | apply Kd.R_drew)); exact Kd.R_mono HO_4.out (fun _ hk => ⟨trivial, hk⟩)) hg hat); have n2_ := Aside0.mk (hb); have n3_ := Aside0.mk (ho); clear HO_2; clear HO_4; clear HB; clear HO_3; have HO_2 := n0_; have HO_4 := n1_; have HB := n2_; have HO147 := n3_; clear n0_ n1_ n2_ n3_; clear ho hb hg hat; have p148 : 0 ≤ (x5_1 : Int) := of_decide_eq_true (by first | (with_reducible assumption) | assumption); have q148 : x5_1 < (t140.length : Int) := of_decide_eq_true (by first | (with_reducible assumption) | assumption); obtain ⟨ad148, e148, hx148_0⟩ := Kd.at_int (Kd.R_reads' HO_2.out).2.2 x5_1 p148 q148; obtain rfl : ad143 = ad148 := (by injection e148); replace p148 := eq_true p148; replace q148 := eq_true q148) | ((with_reducible refine gate_callee (f := 133) rfl ?_); refine goesL_ (some 26) rfl rfl Tryz.func133 (by kernel_rfl) rfl #[.int .u64 (rd t140 x5_1), .bool true] rfl (by (try simp only [List.map_toArray, List.map_cons, List.map_nil]); first | done | rfl | (simp only [List.length_drop, List.length_take]; rfl)) ?_; (with_reducible refine (godownref02_root.calls k1 (rd t140 x5_1) true t149 _ A9.out).mono ?_); rintro e w' ⟨rfl, ⟨nd, rfl⟩⟩; refine ⟨_, rfl, ?_⟩) | ((with_reducible refine gate_builtin (b := .append) (xs := #[.tmp 21, .tmp 27]) rfl ?_); at_builtin; refine Kd.R_append (Kd.int .u32) (w0 := w) w.heap.size rfl (.tmp 21) (.tmp 27) 29 184 (.int .u32 0) 4 rfl Tryz.underlying29 info184 rfl (by decide) (by omega) u4 x4_1 t149 [.int .u32 t149] (fun k_ => some k_ ≠ (v146 : Value).ownBlock) (fun _ => False) rfl rfl ?aP (fun _ hk => hk.elim) ?aF ?aO ?aB ?aS ?aL ?_; (case aP => exact rfl); (case aB => exact (by repeat (first | (with_reducible first | exact HB.out | apply below_alloc | apply pw_below_drewN | apply below_drew1) | exact HB.out))); (case aF => exact (fun k_ hk => Kd.fresh' (Kd.R_lt (by (with_reducible repeat (first | apply Kd.R_alloc | apply Kd.R_drewN | apply Kd.R_drew)); exact HO147.out)) k_ hk)); (case aO => exact (by (with_reducible repeat (first | apply Kd.R_alloc | apply Kd.R_drewN | apply Kd.R_drew)); exact Kd.R_mono HO_4.out (fun _ hk => hk.2))); (case aS => exact (below_size (by repeat (first | (with_reducible first | exact HB.out | apply below_alloc | apply pw_below_drewN | apply below_drew1) | exact HB.out)))); (case aL => have := LMc10.out; omega); intro v151 w13 ho hb hg hat; rw [← Ny150.out] at ho; have n0_ := Aside0.mk (Kd.R_over' (by (with_reducible repeat (first | apply Kd.R_alloc | apply Kd.R_drewN | apply Kd.R_drew)); exact HO_2.out) (Kd.R_typed (by (with_reducible repeat (first | apply Kd.R_alloc | apply Kd.R_drewN | apply Kd.R_drew)); exact HO_4.out)) (by decide) hg); have n1_ := Aside0.mk (Kd.R_after (ok := (fun _ => True)) (by (with_reducible repeat (first | apply Kd.R_alloc | apply Kd.R_drewN | apply Kd.R_drew)); exact Kd.R_mono HO147.out (fun _ hk => ⟨trivial, hk⟩)) hg hat); have n2_ := Aside0.mk (hb); have n3_ := Aside0.mk (ho); clear HO_2; clear HO147; clear HB; clear HO_4; have HO_2 := n0_; have HO147 := n1_; have HB := n2_; have HO152 := n3_; clear n0_ n1_ n2_ n3_; clear ho hb hg hat))
                  go_roundg k1
                  case measure => have := HK1.out; omega
                  case rel => exact ⟨(y145), (y150), (wrap64 (x5_1 + 1)), (by first | rfl | (simp; done) | (simp [*]; done)), H', ⟨by have := HK1.out; omega⟩, ⟨by (with_reducible repeat (first | apply Kd.R_alloc | apply Kd.R_drewN | apply Kd.R_drew)); exact HO_2.out⟩, ⟨by (with_reducible repeat (first | apply Kd.R_alloc | apply Kd.R_drewN | apply Kd.R_drew)); exact Kd.R_mono HO147.out (fun _ hk => hk.2)⟩, ⟨by (with_reducible repeat (first | apply Kd.R_alloc | apply Kd.R_drewN | apply Kd.R_drew)); exact HO152.out⟩, ⟨by repeat (first | (with_reducible first | exact HB.out | apply below_alloc | apply pw_below_drewN | apply below_drew1) | exact HB.out)⟩⟩
                · rw [if_neg c10] at H
                  exact absurd H (by simp)
              · rw [if_neg c8] at H
                exact absurd H (by simp)
            · rw [if_neg c6] at H
              exact absurd H (by simp)
          · rw [if_neg c5] at H
            exact absurd H (by simp)
        · rw [if_neg c4] at H
          have c4b0 : decide (x5_1 < 8) = false := decide_eq_false c4
          clear c4
          by_cases c14 : 0 ≤ x5_1
          · rw [if_pos c14] at H
            have c14b0 : decide (0 ≤ x5_1) = true := decide_eq_true c14
            clear c14
            by_cases c15 : x5_1 < (t140.length : Int)
            · rw [if_pos c15] at H
              have c15b0 : decide (x5_1 < (t140.length : Int)) = true := decide_eq_true c15
              clear c15
              replace H := Option.bind_eq_some_iff.mp H
              obtain ⟨t154, A160, H⟩ := H
              replace H : (if x4_1.length < 35184372088832 then (godownref02_Tables.l0 k1 t140 x3_1 (x4_1 ++ [t154]) (wrap64 (x5_1 + 1))) else (none)) = some (r1, r2) := H
              have A16 := Aside0.mk A160
              clear A160
              by_cases c17 : x4_1.length < 35184372088832
              · rw [if_pos c17] at H
                have LMc17 := Aside0.mk c17
                clear c17
                obtain ⟨y155, hy155⟩ : ∃ y_ : List Int, y_ = (x4_1 ++ [t154]) := ⟨_, rfl⟩
                replace H : (godownref02_Tables.l0 k1 t140 x3_1 y155 (wrap64 (x5_1 + 1))) = some (r1, r2) := by first | (rw [hy155]; with_reducible exact H) | (have H2_ := (Option.bind_some _ _).symm.trans H; rw [hy155]; with_reducible exact H2_) | (have H2_ := (Option.bind_some _ _).symm.trans H; with_reducible exact H2_) | with_reducible exact H | (rw [hy155]; exact H) | exact H
                have Ny155 := Aside0.mk hy155
                clear hy155
                have H' := Aside0.mk H
                clear H
                obtain ⟨Ao18, co18, eo18⟩ := Kd.R_slice HO_2.out
                subst eo18
                have p153 : 0 ≤ (x5_1 : Int) := of_decide_eq_true (by first | (with_reducible assumption) | assumption)
                have q153 : x5_1 < (t140.length : Int) := of_decide_eq_true (by first | (with_reducible assumption) | assumption)
                obtain ⟨ad153, e153, hx153_0⟩ := Kd.at_int (Kd.R_reads' HO_2.out).2.2 x5_1 p153 q153
                cases e153
                replace p153 := eq_true p153
                replace q153 := eq_true q153
                go_wp2_with (first | ((with_reducible refine gate_callee (f := 133) rfl ?_); refine goesL_ (some 26) rfl rfl Tryz.func133 (by kernel_rfl) rfl #[.int .u64 (rd t140 x5_1), .bool true] rfl (by (try simp only [List.map_toArray, List.map_cons, List.map_nil]); first | done | rfl | (simp only [List.length_drop, List.length_take]; rfl)) ?_; (with_reducible refine (godownref02_root.calls k1 (rd t140 x5_1) true t154 _ A16.out).mono ?_); rintro e w' ⟨rfl, ⟨nd, rfl⟩⟩; refine ⟨_, rfl, ?_⟩) | ((with_reducible refine gate_builtin (b := .append) (xs := #[.tmp 21, .tmp 27]) rfl ?_); at_builtin; refine Kd.R_append (Kd.int .u32) (w0 := w) w.heap.size rfl (.tmp 21) (.tmp 27) 29 184 (.int .u32 0) 4 rfl Tryz.underlying29 info184 rfl (by decide) (by omega) u4 x4_1 t154 [.int .u32 t154] (fun k_ => some k_ ≠ (u3 : Value).ownBlock) (fun _ => False) rfl rfl ?aP (fun _ hk => hk.elim) ?aF ?aO ?aB ?aS ?aL ?_; (case aP => exact rfl); (case aB => exact (by repeat (first | (with_reducible first | exact HB.out | apply below_alloc | apply pw_below_drewN | apply below_drew1) | exact HB.out))); (case aF => exact (fun k_ hk => Kd.fresh' (Kd.R_lt (by (with_reducible repeat (first | apply Kd.R_alloc | apply Kd.R_drewN | apply Kd.R_drew)); exact HO_3.out)) k_ hk)); (case aO => exact (by (with_reducible repeat (first | apply Kd.R_alloc | apply Kd.R_drewN | apply Kd.R_drew)); exact HO_4.out)); (case aS => exact (below_size (by repeat (first | (with_reducible first | exact HB.out | apply below_alloc | apply pw_below_drewN | apply below_drew1) | exact HB.out)))); (case aL => have := LMc17.out; omega); intro v156 w19 ho hb hg hat; rw [← Ny155.out] at ho; have n0_ := Aside0.mk (Kd.R_over' (by (with_reducible repeat (first | apply Kd.R_alloc | apply Kd.R_drewN | apply Kd.R_drew)); exact HO_2.out) (Kd.R_typed (by (with_reducible repeat (first | apply Kd.R_alloc | apply Kd.R_drewN | apply Kd.R_drew)); exact HO_4.out)) (by decide) hg); have n1_ := Aside0.mk (Kd.R_after (ok := (fun _ => True)) (by (with_reducible repeat (first | apply Kd.R_alloc | apply Kd.R_drewN | apply Kd.R_drew)); exact Kd.R_mono HO_3.out (fun _ hk => ⟨trivial, hk⟩)) hg hat); have n2_ := Aside0.mk (hb); have n3_ := Aside0.mk (ho); clear HO_2; clear HO_3; clear HB; clear HO_4; have HO_2 := n0_; have HO_3 := n1_; have HB := n2_; have HO157 := n3_; clear n0_ n1_ n2_ n3_; clear ho hb hg hat))
                go_roundg k1
                case measure => have := HK1.out; omega
                case rel => exact ⟨(x3_1), (y155), (wrap64 (x5_1 + 1)), (by first | rfl | (simp; done) | (simp [*]; done)), H', ⟨by have := HK1.out; omega⟩, ⟨by (with_reducible repeat (first | apply Kd.R_alloc | apply Kd.R_drewN | apply Kd.R_drew)); exact HO_2.out⟩, ⟨by (with_reducible repeat (first | apply Kd.R_alloc | apply Kd.R_drewN | apply Kd.R_drew)); exact Kd.R_mono HO_3.out (fun _ hk => hk.2)⟩, ⟨by (with_reducible repeat (first | apply Kd.R_alloc | apply Kd.R_drewN | apply Kd.R_drew)); exact HO157.out⟩, ⟨by repeat (first | (with_reducible first | exact HB.out | apply below_alloc | apply pw_below_drewN | apply below_drew1) | exact HB.out)⟩⟩
              · rw [if_neg c17] at H
                exact absurd H (by simp)
            · rw [if_neg c15] at H
              exact absurd H (by simp)
          · rw [if_neg c14] at H
            exact absurd H (by simp)
      · rw [if_neg c3] at H
        have c3b0 : decide (x5_1 < 64) = false := decide_eq_false c3
        clear c3
        simp only [Option.some.injEq, Prod.mk.injEq] at H
        obtain ⟨rfl, rfl⟩ := H
        go_wp2
        go_ret2
        exact ⟨_, _, by first | rfl | (simp [errW_none, errW_some] <;> rfl) | (simp [*, errW_none, errW_some] <;> rfl), by (with_reducible repeat (first | apply Kd.R_alloc | apply Kd.R_drewN | apply Kd.R_drew)); exact HO_3.out, by (with_reducible repeat (first | apply Kd.R_alloc | apply Kd.R_drewN | apply Kd.R_drew)); exact HO_4.out, by repeat (first | (with_reducible first | exact HB.out | apply below_alloc | apply pw_below_drewN | apply below_drew1) | exact HB.out)⟩

/-! ### godownref02_New: function 62 -/
def godownref02_New.f (k : Nat)  : Option (List Int × List Int) := (godownref02_Tables.f k).bind fun bt159 => (some (bt159.1, bt159.2))
theorem godownref02_New.mono : ∀ k, LeO (godownref02_New.f k ) (godownref02_New.f (k + 1) ) := by
  intro  k
  unfold godownref02_New.f
  repeat' first
      | (with_reducible exact godownref02_Tables.mono _)
      | (with_reducible exact LeO.refl _)
      | (with_reducible exact LeO.none _)
      | (with_reducible refine LeO.ite ?_ ?_)
      | (with_reducible refine LeO.bind ?_ (fun _ => ?_))
      | exact godownref02_Tables.mono _
      | exact LeO.none _
      | refine LeO.ite ?_ ?_
      | refine LeO.bind ?_ (fun _ => ?_)
set_option maxHeartbeats 8000000 in
set_option maxRecDepth 100000 in
theorem godownref02_New.calls (k : Nat)  (r1 : List Int) (r2 : List Int) (w : World) (h : godownref02_New.f k  = some (r1, r2)) :
    Calls Tryz.prog 62 #[] w fun e w' => ∃ v0_ v1_ : Value, e = .returned (.agg #[v0_, v1_]) ∧ Kd.R (Kd.int .u32) 184 w' w.heap.size (fun k_ => some k_ ≠ (v1_ : Value).ownBlock) v0_ r1 ∧ Kd.R (Kd.int .u32) 184 w' w.heap.size (fun k_ => some k_ ≠ (v0_ : Value).ownBlock) v1_ r2 ∧ Below w.heap.size w w' := by
  have hu31 := Tryz.underlying31
  have HB := Aside0.mk (Below.refl w.heap.size w)
  have H : ((godownref02_Tables.f k).bind fun bt159 => (some (bt159.1, bt159.2))) = some (r1, r2) := h
  clear h
  replace H := Option.bind_eq_some_iff.mp H
  obtain ⟨⟨t159, t160⟩, A10, H⟩ := H
  replace H : (some (t159, t160)) = some (r1, r2) := H
  have A1 := Aside0.mk A10
  clear A10
  simp only [Option.some.injEq, Prod.mk.injEq] at H
  obtain ⟨rfl, rfl⟩ := H
  go_enter Tryz.func62, Tryz.ntmps62
  go_wp2_with (first | ((with_reducible refine gate_dst (N := 0) rfl ?_); refine box_event ?hg (N := 0) ?hd (cs := #[.slice none 0 0, .slice none 0 0]) (t := 31) ?hr ?_; (case hd => rfl); (case hg => rfl); (case hr => first | (go_simp; done) | (go_simp; rfl)); intro gb158 hg w2 hbox hb; have n0_ := Aside0.mk (below_step (by repeat (first | (with_reducible first | exact HB.out | apply below_alloc | apply pw_below_drewN | apply below_drew1) | exact HB.out)) hb); have n1_ := Aside0.mk (hbox); have n2_ := Aside0.mk ((by rw [hg]; exact (below_size (by repeat (first | (with_reducible first | exact HB.out | apply below_alloc | apply pw_below_drewN | apply below_drew1) | exact HB.out))) : w.heap.size ≤ gb158)); have n3_ := Aside0.mk ((by rw [hg]; exact (below_size (by repeat (first | (with_reducible first | exact HB.out | apply below_alloc | apply pw_below_drewN | apply below_drew1) | exact HB.out))) : w.heap.size ≤ gb158)); clear HB; have HB := n0_; have BK158 := n1_; have GW158 := n2_; have GE158 := n3_; clear n0_ n1_ n2_ n3_; clear hb hbox hg) | ((with_reducible refine gate_callee (f := 108) rfl ?_); refine goesL_ (some 4) rfl rfl Tryz.func108 (by kernel_rfl) rfl #[] rfl (by (try simp only [List.map_toArray, List.map_cons, List.map_nil]); first | done | rfl | (simp only [List.length_drop, List.length_take]; rfl)) ?_; (with_reducible refine (godownref02_Tables.calls k  t159 t160 _ A1.out).mono ?_); rintro e w3 ⟨v161, v163, rfl, ho0, ho1, hb⟩; refine ⟨_, rfl, ?_⟩; have n0_ := Aside0.mk (Kd.R_lower ho0 (below_size (by repeat (first | (with_reducible first | exact HB.out | apply below_alloc | apply pw_below_drewN | apply below_drew1 | refine below_set ?_ GE158.out) | exact HB.out)))); have n1_ := Aside0.mk (Kd.R_lower ho1 (below_size (by repeat (first | (with_reducible first | exact HB.out | apply below_alloc | apply pw_below_drewN | apply below_drew1 | refine below_set ?_ GE158.out) | exact HB.out)))); have n2_ := Aside0.mk (blk_below (g := gb158) (o := .cells #[.slice none 0 0, .slice none 0 0] 31 (0, 0)) (by (with_reducible repeat (first | refine blk_drewN ?_ _ | refine blk_drew ?_ | refine blk_alloc ?_ _)); exact BK158.out) hb); have n3_ := Aside0.mk (below_step (by repeat (first | (with_reducible first | exact HB.out | apply below_alloc | apply pw_below_drewN | apply below_drew1 | refine below_set ?_ GE158.out) | exact HB.out)) hb); clear BK158; clear HB; have HO162 := n0_; have HO164 := n1_; have BK158 := n2_; have HB := n3_; clear n0_ n1_ n2_ n3_; (try clear hb); (try clear hb2); (try clear hk); (try clear hi); (try clear ho0); (try clear ho1); obtain ⟨Ao4, co4, eo4⟩ := Kd.R_slice HO164.out; subst eo4; obtain ⟨Ao5, co5, eo5⟩ := Kd.R_slice HO162.out; subst eo5; have hcz6_0 : w3.cell? ⟨gb158, 0, none⟩ = some (.slice none 0 0) := (blk_cell BK158.out 0).trans rfl; have hcz6_1 : w3.cell? ⟨gb158, 1, none⟩ = some (.slice none 0 0) := (blk_cell BK158.out 1).trans rfl; have hfz6_0 := blk_frozen BK158.out 0; have hfz6_1 := blk_frozen BK158.out 1))
  refine bodyPost_ret (results_cell_row rfl _ _ gb158 31 #[.slice Ao5 t159.length co5, .slice Ao4 t160.length co4] (0, 0) _ rfl (by (with_reducible repeat (first | refine blk_drewN ?_ _ | refine blk_drew ?_ | refine blk_alloc ?_ _)); refine blk_put (cs := #[.slice Ao5 t159.length co5, .slice none 0 0]) ?_ 1 _ rfl; (with_reducible repeat (first | refine blk_drewN ?_ _ | refine blk_drew ?_ | refine blk_alloc ?_ _)); refine blk_put (cs := #[.slice none 0 0, .slice none 0 0]) ?_ 0 _ rfl; (with_reducible repeat (first | refine blk_drewN ?_ _ | refine blk_drew ?_ | refine blk_alloc ?_ _)); exact BK158.out) Tryz.underlying31 rfl (by kernel_rfl)) rfl ?_
  exact ⟨_, _, by first | rfl | (simp [errW_none, errW_some] <;> rfl) | (simp [*, errW_none, errW_some] <;> rfl), by (with_reducible repeat (first | apply Kd.R_alloc | apply Kd.R_drewN | apply Kd.R_drew)); exact Kd.R_mono (Kd.R_far (p := ⟨gb158, 1, none⟩) (Kd.R_far (p := ⟨gb158, 0, none⟩) (Kd.R_types HO162.out BK158.out (by decide)) (fun _ hk => hk.2) (.slice Ao5 t159.length co5)) (fun _ hk => hk.2) (.slice Ao4 t160.length co4)) (fun _ hk => hk.1), by (with_reducible repeat (first | apply Kd.R_alloc | apply Kd.R_drewN | apply Kd.R_drew)); exact Kd.R_mono (Kd.R_far (p := ⟨gb158, 1, none⟩) (Kd.R_far (p := ⟨gb158, 0, none⟩) (Kd.R_types HO164.out BK158.out (by decide)) (fun _ hk => hk.2) (.slice Ao5 t159.length co5)) (fun _ hk => hk.2) (.slice Ao4 t160.length co4)) (fun _ hk => hk.1), by repeat (first | (with_reducible first | exact HB.out | apply below_alloc | apply pw_below_drewN | apply below_drew1 | refine below_set ?_ GE158.out) | exact HB.out)⟩

/-! ### godownref10_New: function 28 -/
def godownref10_New.f (k : Nat)  : Option (List Int × List Int × (List (S44)) × List ByteArray × Int × (List (S133))) := (godownref02_New.f k).bind fun bt166 => (some (bt166.1, bt166.2, ([] : List (S44)), ([] : List ByteArray), 0, ([] : List (S133))))
theorem godownref10_New.mono : ∀ k, LeO (godownref10_New.f k ) (godownref10_New.f (k + 1) ) := by
  intro  k
  unfold godownref10_New.f
  repeat' first
      | (with_reducible exact godownref02_New.mono _)
      | (with_reducible exact LeO.refl _)
      | (with_reducible exact LeO.none _)
      | (with_reducible refine LeO.ite ?_ ?_)
      | (with_reducible refine LeO.bind ?_ (fun _ => ?_))
      | exact godownref02_New.mono _
      | exact LeO.none _
      | refine LeO.ite ?_ ?_
      | refine LeO.bind ?_ (fun _ => ?_)
set_option maxHeartbeats 8000000 in
set_option maxRecDepth 100000 in
theorem godownref10_New.calls (k : Nat)  (r1 : List Int) (r2 : List Int) (r3 : List (S44)) (r4 : List ByteArray) (r5 : Int) (r6 : List (S133)) (w : World) (h : godownref10_New.f k  = some (r1, r2, r3, r4, r5, r6)) :
    Calls Tryz.prog 28 #[] w fun e w' => ∃ v0_ v1_ v2_ v3_ v5_ : Value, e = .returned (.agg #[v0_, v1_, v2_, v3_, .int .u64 r5, v5_]) ∧ Kd.R (Kd.int .u32) 184 w' w.heap.size (fun k_ => some k_ ≠ (v1_ : Value).ownBlock) v0_ r1 ∧ Kd.R (Kd.int .u32) 184 w' w.heap.size (fun k_ => some k_ ≠ (v0_ : Value).ownBlock) v1_ r2 ∧ Kd.S k44 44 w' w.heap.size (fun k_ => some k_ ≠ (v3_ : Value).ownBlock) v2_ r3 ∧ Kd.R Kd.string 9 w' w.heap.size (fun _ => True) v3_ r4 ∧ Kd.R k133 133 w' w.heap.size (fun _ => True) v5_ r6 ∧ Below w.heap.size w w' := by
  have hu66 := Tryz.underlying66
  have HB := Aside0.mk (Below.refl w.heap.size w)
  have H : ((godownref02_New.f k).bind fun bt166 => (some (bt166.1, bt166.2, ([] : List (S44)), ([] : List ByteArray), 0, ([] : List (S133))))) = some (r1, r2, r3, r4, r5, r6) := h
  clear h
  replace H := Option.bind_eq_some_iff.mp H
  obtain ⟨⟨t166, t169⟩, A10, H⟩ := H
  replace H : (some (t166, t169, ([] : List (S44)), ([] : List ByteArray), 0, ([] : List (S133)))) = some (r1, r2, r3, r4, r5, r6) := H
  have A1 := Aside0.mk A10
  clear A10
  simp only [Option.some.injEq, Prod.mk.injEq] at H
  obtain ⟨rfl, rfl, rfl, rfl, rfl, rfl⟩ := H
  go_enter Tryz.func28, Tryz.ntmps28
  go_wp2_with (first | ((with_reducible refine gate_dst (N := 0) rfl ?_); refine box_event ?hg (N := 0) ?hd (cs := #[.slice none 0 0, .slice none 0 0, .slice none 0 0, .slice none 0 0, .int .u64 0, .slice none 0 0]) (t := 66) ?hr ?_; (case hd => rfl); (case hg => rfl); (case hr => first | (go_simp; done) | (go_simp; rfl)); intro gb165 hg w2 hbox hb; have n0_ := Aside0.mk (below_step (by repeat (first | (with_reducible first | exact HB.out | apply below_alloc | apply pw_below_drewN | apply below_drew1) | exact HB.out)) hb); have n1_ := Aside0.mk (hbox); have n2_ := Aside0.mk ((by rw [hg]; exact (below_size (by repeat (first | (with_reducible first | exact HB.out | apply below_alloc | apply pw_below_drewN | apply below_drew1) | exact HB.out))) : w.heap.size ≤ gb165)); have n3_ := Aside0.mk ((by rw [hg]; exact (below_size (by repeat (first | (with_reducible first | exact HB.out | apply below_alloc | apply pw_below_drewN | apply below_drew1) | exact HB.out))) : w.heap.size ≤ gb165)); clear HB; have HB := n0_; have BK165 := n1_; have GW165 := n2_; have GE165 := n3_; clear n0_ n1_ n2_ n3_; clear hb hbox hg) | ((with_reducible refine gate_callee (f := 62) rfl ?_); refine goesL_ (some 1) rfl rfl Tryz.func62 (by kernel_rfl) rfl #[] rfl (by (try simp only [List.map_toArray, List.map_cons, List.map_nil]); first | done | rfl | (simp only [List.length_drop, List.length_take]; rfl)) ?_; (with_reducible refine (godownref02_New.calls k  t166 t169 _ A1.out).mono ?_); rintro e w3 ⟨v167, v170, rfl, ho0, ho1, hb⟩; refine ⟨_, rfl, ?_⟩; have n0_ := Aside0.mk (Kd.R_lower ho0 (below_size (by repeat (first | (with_reducible first | exact HB.out | apply below_alloc | apply pw_below_drewN | apply below_drew1 | refine below_set ?_ GE165.out) | exact HB.out)))); have n1_ := Aside0.mk (Kd.R_lower ho1 (below_size (by repeat (first | (with_reducible first | exact HB.out | apply below_alloc | apply pw_below_drewN | apply below_drew1 | refine below_set ?_ GE165.out) | exact HB.out)))); have n2_ := Aside0.mk (blk_below (g := gb165) (o := .cells #[.slice none 0 0, .slice none 0 0, .slice none 0 0, .slice none 0 0, .int .u64 0, .slice none 0 0] 66 (0, 0)) (by (with_reducible repeat (first | refine blk_drewN ?_ _ | refine blk_drew ?_ | refine blk_alloc ?_ _)); exact BK165.out) hb); have n3_ := Aside0.mk (below_step (by repeat (first | (with_reducible first | exact HB.out | apply below_alloc | apply pw_below_drewN | apply below_drew1 | refine below_set ?_ GE165.out) | exact HB.out)) hb); clear BK165; clear HB; have HO168 := n0_; have HO171 := n1_; have BK165 := n2_; have HB := n3_; clear n0_ n1_ n2_ n3_; (try clear hb); (try clear hb2); (try clear hk); (try clear hi); (try clear ho0); (try clear ho1); obtain ⟨Ao4, co4, eo4⟩ := Kd.R_slice HO171.out; subst eo4; obtain ⟨Ao5, co5, eo5⟩ := Kd.R_slice HO168.out; subst eo5; have hcz6_0 : w3.cell? ⟨gb165, 0, none⟩ = some (.slice none 0 0) := (blk_cell BK165.out 0).trans rfl; have hcz6_1 : w3.cell? ⟨gb165, 1, none⟩ = some (.slice none 0 0) := (blk_cell BK165.out 1).trans rfl; have hcz6_2 : w3.cell? ⟨gb165, 2, none⟩ = some (.slice none 0 0) := (blk_cell BK165.out 2).trans rfl; have hcz6_3 : w3.cell? ⟨gb165, 3, none⟩ = some (.slice none 0 0) := (blk_cell BK165.out 3).trans rfl; have hcz6_4 : w3.cell? ⟨gb165, 4, none⟩ = some (.int .u64 0) := (blk_cell BK165.out 4).trans rfl; have hcz6_5 : w3.cell? ⟨gb165, 5, none⟩ = some (.slice none 0 0) := (blk_cell BK165.out 5).trans rfl; have hfz6_0 := blk_frozen BK165.out 0; have hfz6_1 := blk_frozen BK165.out 1; have hfz6_2 := blk_frozen BK165.out 2; have hfz6_3 := blk_frozen BK165.out 3; have hfz6_4 := blk_frozen BK165.out 4; have hfz6_5 := blk_frozen BK165.out 5))
  refine bodyPost_ret (results_cell_row rfl _ _ gb165 66 #[.slice Ao5 t166.length co5, .slice Ao4 t169.length co4, .slice none 0 0, .slice none 0 0, .int .u64 0, .slice none 0 0] (0, 0) _ rfl (by (with_reducible repeat (first | refine blk_drewN ?_ _ | refine blk_drew ?_ | refine blk_alloc ?_ _)); refine blk_put (cs := #[.slice Ao5 t166.length co5, .slice Ao4 t169.length co4, .slice none 0 0, .slice none 0 0, .int .u64 0, .slice none 0 0]) ?_ 5 _ rfl; (with_reducible repeat (first | refine blk_drewN ?_ _ | refine blk_drew ?_ | refine blk_alloc ?_ _)); refine blk_put (cs := #[.slice Ao5 t166.length co5, .slice Ao4 t169.length co4, .slice none 0 0, .slice none 0 0, .int .u64 0, .slice none 0 0]) ?_ 4 _ rfl; (with_reducible repeat (first | refine blk_drewN ?_ _ | refine blk_drew ?_ | refine blk_alloc ?_ _)); refine blk_put (cs := #[.slice Ao5 t166.length co5, .slice Ao4 t169.length co4, .slice none 0 0, .slice none 0 0, .int .u64 0, .slice none 0 0]) ?_ 3 _ rfl; (with_reducible repeat (first | refine blk_drewN ?_ _ | refine blk_drew ?_ | refine blk_alloc ?_ _)); refine blk_put (cs := #[.slice Ao5 t166.length co5, .slice Ao4 t169.length co4, .slice none 0 0, .slice none 0 0, .int .u64 0, .slice none 0 0]) ?_ 2 _ rfl; (with_reducible repeat (first | refine blk_drewN ?_ _ | refine blk_drew ?_ | refine blk_alloc ?_ _)); refine blk_put (cs := #[.slice Ao5 t166.length co5, .slice none 0 0, .slice none 0 0, .slice none 0 0, .int .u64 0, .slice none 0 0]) ?_ 1 _ rfl; (with_reducible repeat (first | refine blk_drewN ?_ _ | refine blk_drew ?_ | refine blk_alloc ?_ _)); refine blk_put (cs := #[.slice none 0 0, .slice none 0 0, .slice none 0 0, .slice none 0 0, .int .u64 0, .slice none 0 0]) ?_ 0 _ rfl; (with_reducible repeat (first | refine blk_drewN ?_ _ | refine blk_drew ?_ | refine blk_alloc ?_ _)); exact BK165.out) Tryz.underlying66 rfl (by kernel_rfl)) rfl ?_
  exact ⟨_, _, _, _, _, by first | rfl | (simp [errW_none, errW_some] <;> rfl) | (simp [*, errW_none, errW_some] <;> rfl), by (with_reducible repeat (first | apply Kd.R_alloc | apply Kd.R_drewN | apply Kd.R_drew)); exact Kd.R_mono (Kd.R_far (p := ⟨gb165, 5, none⟩) (Kd.R_far (p := ⟨gb165, 4, none⟩) (Kd.R_far (p := ⟨gb165, 3, none⟩) (Kd.R_far (p := ⟨gb165, 2, none⟩) (Kd.R_far (p := ⟨gb165, 1, none⟩) (Kd.R_far (p := ⟨gb165, 0, none⟩) (Kd.R_types HO168.out BK165.out (by decide)) (fun _ hk => hk.2) (.slice Ao5 t166.length co5)) (fun _ hk => hk.2) (.slice Ao4 t169.length co4)) (fun _ hk => hk.2) (.slice none 0 0)) (fun _ hk => hk.2) (.slice none 0 0)) (fun _ hk => hk.2) (.int .u64 0)) (fun _ hk => hk.2) (.slice none 0 0)) (fun _ hk => hk.1), by (with_reducible repeat (first | apply Kd.R_alloc | apply Kd.R_drewN | apply Kd.R_drew)); exact Kd.R_mono (Kd.R_far (p := ⟨gb165, 5, none⟩) (Kd.R_far (p := ⟨gb165, 4, none⟩) (Kd.R_far (p := ⟨gb165, 3, none⟩) (Kd.R_far (p := ⟨gb165, 2, none⟩) (Kd.R_far (p := ⟨gb165, 1, none⟩) (Kd.R_far (p := ⟨gb165, 0, none⟩) (Kd.R_types HO171.out BK165.out (by decide)) (fun _ hk => hk.2) (.slice Ao5 t166.length co5)) (fun _ hk => hk.2) (.slice Ao4 t169.length co4)) (fun _ hk => hk.2) (.slice none 0 0)) (fun _ hk => hk.2) (.slice none 0 0)) (fun _ hk => hk.2) (.int .u64 0)) (fun _ hk => hk.2) (.slice none 0 0)) (fun _ hk => hk.1), by first | exact Kd.S_nil _ _ _ _ _ | exact Kd.N_nil _ _ _ _ _ | exact Kd.V_nil _ _ _ _ _ | exact Kd.Q_nil _ _ _ _ _ | exact Kd.R_nil _ _ _ _ _, by first | exact Kd.R_nil _ _ _ _ _ | exact Kd.N_nil _ _ _ _ _ | exact Kd.V_nil _ _ _ _ _ | exact Kd.Q_nil _ _ _ _ _ | exact Kd.S_nil _ _ _ _ _, by first | exact Kd.R_nil _ _ _ _ _ | exact Kd.N_nil _ _ _ _ _ | exact Kd.V_nil _ _ _ _ _ | exact Kd.Q_nil _ _ _ _ _ | exact Kd.S_nil _ _ _ _ _, by repeat (first | (with_reducible first | exact HB.out | apply below_alloc | apply pw_below_drewN | apply below_drew1 | refine below_set ?_ GE165.out) | exact HB.out)⟩

/-! ### godownref01_Texts: function 48 -/
def godownref01_Texts.l0 : Nat → List ByteArray → List ByteArray → Int → Option (Bool)
  | 0, _, _, _ => none
  | k + 1, x0, x1, x5 => if x5 < (x0.length : Int) then (if 0 ≤ x5 then (if x5 < (x1.length : Int) then (if (rdOf ByteArray.empty x0 x5).toList = (rdOf ByteArray.empty x1 x5).toList then (godownref01_Texts.l0 k x0 x1 (wrap64 (x5 + 1))) else (some false)) else (none)) else (none)) else (some true)
def godownref01_Texts.f (k : Nat) (l0 : List ByteArray) (l1 : List ByteArray) : Option (Bool) := if (l0.length : Int) = (l1.length : Int) then (godownref01_Texts.l0 k l0 l1 0) else (some false)
theorem godownref01_Texts.mono_l : ∀ k, (∀ y0 y1 y2, LeO (godownref01_Texts.l0 k y0 y1 y2) (godownref01_Texts.l0 (k + 1) y0 y1 y2))
  | 0 => fun _ _ _ r h => by simp [godownref01_Texts.l0] at h
  | k + 1 => by
    have ih0 := godownref01_Texts.mono_l k
    · intro y0 y1 y2
      unfold godownref01_Texts.l0
      repeat' first
      | (with_reducible exact ih0 _ _ _)
      | (with_reducible exact LeO.refl _)
      | (with_reducible exact LeO.none _)
      | (with_reducible refine LeO.ite ?_ ?_)
      | (with_reducible refine LeO.bind ?_ (fun _ => ?_))
      | exact ih0 _ _ _
      | exact LeO.none _
      | refine LeO.ite ?_ ?_
      | refine LeO.bind ?_ (fun _ => ?_)
theorem godownref01_Texts.mono : ∀ a0 a1 k, LeO (godownref01_Texts.f k a0 a1) (godownref01_Texts.f (k + 1) a0 a1) := by
  intro a0 a1 k
  have ih0 := godownref01_Texts.mono_l k
  unfold godownref01_Texts.f
  repeat' first
      | (with_reducible exact ih0 _ _ _)
      | (with_reducible exact LeO.refl _)
      | (with_reducible exact LeO.none _)
      | (with_reducible refine LeO.ite ?_ ?_)
      | (with_reducible refine LeO.bind ?_ (fun _ => ?_))
      | exact ih0 _ _ _
      | exact LeO.none _
      | refine LeO.ite ?_ ?_
      | refine LeO.bind ?_ (fun _ => ?_)
set_option maxHeartbeats 8000000 in
set_option maxRecDepth 100000 in
theorem godownref01_Texts.calls (k : Nat) (A0 : Option Addr) (c0 : Nat) (l0 : List ByteArray) (A1 : Option Addr) (c1 : Nat) (l1 : List ByteArray) (r : Bool) (w : World) (hr0 : Kd.C Kd.string w A0 l0.length l0) (hc0 : l0.length ≤ c0) (hr1 : Kd.C Kd.string w A1 l1.length l1) (hc1 : l1.length ≤ c1) (h : godownref01_Texts.f k l0 l1 = some r) :
    Calls Tryz.prog 48 #[.slice A0 l0.length c0, .slice A1 l1.length c1] w fun e w' => e = .returned (.bool r) ∧ Drawn0 w w' := by
  have HR0 := Aside0.mk hr0
  have HC0 := Aside0.mk hc0
  clear hr0 hc0
  have HR1 := Aside0.mk hr1
  have HC1 := Aside0.mk hc1
  clear hr1 hc1
  have H : (if (l0.length : Int) = (l1.length : Int) then (godownref01_Texts.l0 k l0 l1 0) else (some false)) = some r := h
  clear h
  by_cases c3 : (l0.length : Int) = (l1.length : Int)
  · rw [if_pos c3] at H
    have c3b0 : ((l0.length : Int) == (l1.length : Int)) = true := beq_iff_eq.mpr c3
    have c3b1 : ((l0.length : Int) != (l1.length : Int)) = false := bne_eq_false_iff_eq.mpr c3
    have c3b2 : (l0.length == l1.length) = true := by first | simpa using c3 | (simp at c3 ⊢; omega)
    clear c3
    have H' := Aside0.mk H
    clear H
    go_enter Tryz.func48, Tryz.ntmps48
    go_wp2
    repeat (go_quiet (fail); try go_wp2)
    go_loopg [5] k (fun kq v5 w' => ∃ (x5_1 : Int), v5 = .int .i64 x5_1 ∧ Aside0 (godownref01_Texts.l0 kq l0 l1 x5_1 = some r) ∧ Aside0 (kq ≤ k) ∧ Drawn0 w w')
    case atStart => exact ⟨(0), (by first | rfl | (simp; done) | (simp [*]; done)), H', ⟨Nat.le_refl _⟩, by repeat (first | exact Drawn0.refl _ | apply Drawn0.step)⟩
    case round =>
      clear H'
      try clear c1
      try clear p2
      try clear c3
      try clear c3b0
      try clear c3b1
      try clear c3b2
      obtain ⟨x5_1, rfl, HA, HK1, ⟨m1, rfl⟩⟩ := hrel
      cases gk with
      | zero => exact absurd HA.out (by simp [godownref01_Texts.l0])
      | succ k1 =>
        have H := HA.out
        clear HA
        simp only [godownref01_Texts.l0] at H
        by_cases c4 : x5_1 < (l0.length : Int)
        · rw [if_pos c4] at H
          have c4b0 : decide (x5_1 < (l0.length : Int)) = true := decide_eq_true c4
          clear c4
          by_cases c5 : 0 ≤ x5_1
          · rw [if_pos c5] at H
            have c5b0 : decide (0 ≤ x5_1) = true := decide_eq_true c5
            clear c5
            by_cases c6 : x5_1 < (l1.length : Int)
            · rw [if_pos c6] at H
              have c6b0 : decide (x5_1 < (l1.length : Int)) = true := decide_eq_true c6
              clear c6
              by_cases c7 : (rdOf ByteArray.empty l0 x5_1).toList = (rdOf ByteArray.empty l1 x5_1).toList
              · rw [if_pos c7] at H
                have c7b0 : ((rdOf ByteArray.empty l0 x5_1).toList == (rdOf ByteArray.empty l1 x5_1).toList) = true := beq_iff_eq.mpr c7
                have c7b1 : ((rdOf ByteArray.empty l0 x5_1).toList != (rdOf ByteArray.empty l1 x5_1).toList) = false := bne_eq_false_iff_eq.mpr c7
                clear c7
                have H' := Aside0.mk H
                clear H
                have p172 : 0 ≤ (x5_1 : Int) := of_decide_eq_true (by first | (with_reducible assumption) | assumption)
                have q172 : x5_1 < (l0.length : Int) := of_decide_eq_true (by first | (with_reducible assumption) | assumption)
                obtain ⟨ad172, e172, hx172_0⟩ := Kd.at_string HR0.out x5_1 p172 q172
                cases e172
                replace p172 := eq_true p172
                replace q172 := eq_true q172
                have p173 : 0 ≤ (x5_1 : Int) := of_decide_eq_true (by first | (with_reducible assumption) | assumption)
                have q173 : x5_1 < (l1.length : Int) := of_decide_eq_true (by first | (with_reducible assumption) | assumption)
                obtain ⟨ad173, e173, hx173_0⟩ := Kd.at_string HR1.out x5_1 p173 q173
                cases e173
                replace p173 := eq_true p173
                replace q173 := eq_true q173
                go_wp2
                repeat (go_quiet (fail); try go_wp2)
                go_roundg k1
                case measure => have := HK1.out; omega
                case rel => exact ⟨(wrap64 (x5_1 + 1)), (by first | rfl | (simp; done) | (simp [*]; done)), H', ⟨by have := HK1.out; omega⟩, by repeat (first | exact Drawn0.refl _ | apply Drawn0.step)⟩
              · rw [if_neg c7] at H
                have c7b0 : ((rdOf ByteArray.empty l0 x5_1).toList == (rdOf ByteArray.empty l1 x5_1).toList) = false := beq_eq_false_iff_ne.mpr c7
                have c7b1 : ((rdOf ByteArray.empty l0 x5_1).toList != (rdOf ByteArray.empty l1 x5_1).toList) = true := bne_iff_ne.mpr c7
                obtain rfl := Option.some.inj H
                have p172 : 0 ≤ (x5_1 : Int) := of_decide_eq_true (by first | (with_reducible assumption) | assumption)
                have q172 : x5_1 < (l0.length : Int) := of_decide_eq_true (by first | (with_reducible assumption) | assumption)
                obtain ⟨ad172, e172, hx172_0⟩ := Kd.at_string HR0.out x5_1 p172 q172
                cases e172
                replace p172 := eq_true p172
                replace q172 := eq_true q172
                have p173 : 0 ≤ (x5_1 : Int) := of_decide_eq_true (by first | (with_reducible assumption) | assumption)
                have q173 : x5_1 < (l1.length : Int) := of_decide_eq_true (by first | (with_reducible assumption) | assumption)
                obtain ⟨ad173, e173, hx173_0⟩ := Kd.at_string HR1.out x5_1 p173 q173
                cases e173
                replace p173 := eq_true p173
                replace q173 := eq_true q173
                go_wp2
                repeat (go_quiet (fail); try go_wp2)
                go_ret
                exact ⟨by first | rfl | (simp; done) | (simp [*]; done), by repeat (first | exact Drawn0.refl _ | apply Drawn0.step)⟩
            · rw [if_neg c6] at H
              exact absurd H (by simp)
          · rw [if_neg c5] at H
            exact absurd H (by simp)
        · rw [if_neg c4] at H
          have c4b0 : decide (x5_1 < (l0.length : Int)) = false := decide_eq_false c4
          clear c4
          obtain rfl := Option.some.inj H
          go_wp2
          repeat (go_quiet (fail); try go_wp2)
          go_ret
          exact ⟨by first | rfl | (simp; done) | (simp [*]; done), by repeat (first | exact Drawn0.refl _ | apply Drawn0.step)⟩
  · rw [if_neg c3] at H
    have c3b0 : ((l0.length : Int) == (l1.length : Int)) = false := beq_eq_false_iff_ne.mpr c3
    have c3b1 : ((l0.length : Int) != (l1.length : Int)) = true := bne_iff_ne.mpr c3
    have c3b2 : (l0.length == l1.length) = false := by first | simpa using c3 | (simp at c3 ⊢; omega)
    obtain rfl := Option.some.inj H
    go_enter Tryz.func48, Tryz.ntmps48
    go_wp2
    repeat (go_quiet (fail); try go_wp2)
    go_ret
    exact ⟨by first | rfl | (simp; done) | (simp [*]; done), by repeat (first | exact Drawn0.refl _ | apply Drawn0.step)⟩

end Go.Proofs.YtdhghaiifeienaaGreatDoor.PClaimPlays
