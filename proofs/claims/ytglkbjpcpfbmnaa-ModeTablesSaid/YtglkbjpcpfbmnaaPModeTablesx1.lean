-- PRINTED BY print.sh 35421559b90ae4d0a3588c463048766b98c2df88dd9212a6774a882060cdf62d: not written by this session
import Derived.Test.YtglkbjpcpfbmnaaPModeTablesx0
namespace Go.Proofs.Ytglkbjpcpfbmnaa.PModeTables
open Go.RowKit Go.Proofs.YtglkbjpcpfbmnaaW.PrintWords Go.Proofs.YtglkbjpcpfbmnaaW.PrintLast Go.Proofs.YtglkbjpcpfbmnaaW.PrintMore
attribute [local go_sem] max2_int min2_int max_two min_two max_three min_three max_four min_four   -- for this text's walks alone
set_option linter.unusedVariables false
set_option linter.unusedSimpArgs false

/-! ### mode_Mode_Right: function 10 -/
def mode_Mode_Right.f (a0 : Int) : Option (Bool) := if a0 ≥ 1 then (some (decide (a0 ≤ 5))) else (some false)
set_option maxHeartbeats 8000000 in
set_option maxRecDepth 100000 in
theorem mode_Mode_Right.calls (a0 : Int) (r : Bool) (w : World) (h : mode_Mode_Right.f a0 = some r) :
    Calls Try.prog 10 #[.int .i64 a0] w fun e w' => e = .returned (.bool r) ∧ Drawn0 w w' := by
  have H : (if a0 ≥ 1 then (some (decide (a0 ≤ 5))) else (some false)) = some r := h
  clear h
  by_cases c2 : a0 ≥ 1
  · rw [if_pos c2] at H
    have c2b0 : decide (1 ≤ a0) = true := decide_eq_true c2
    clear c2
    obtain rfl := Option.some.inj H
    go_enter Try.func10, Try.ntmps10
    go_wp2
    go_ret
    exact ⟨by first | rfl | (simp; done) | (simp [*]; done), by repeat (first | exact Drawn0.refl _ | apply Drawn0.step)⟩
  · rw [if_neg c2] at H
    have c2b0 : decide (1 ≤ a0) = false := decide_eq_false c2
    clear c2
    obtain rfl := Option.some.inj H
    go_enter Try.func10, Try.ntmps10
    go_wp2
    go_ret
    exact ⟨by first | rfl | (simp; done) | (simp [*]; done), by repeat (first | exact Drawn0.refl _ | apply Drawn0.step)⟩

/-! ### mode_Both: function 9 -/
def mode_Both.j0 : Nat → Int → Int → Bool → Option (Int)
  | 0, _, _, _ => none
  | k + 1, x0, x1, x12 => if x12 = true then (some 0) else (if x0 > x1 then (if x1 = 2 then (if x0 = 3 then (some 4) else (some x0)) else (some x0)) else (if x0 = 2 then (if x1 = 3 then (some 4) else (some x1)) else (some x1)))
def mode_Both.f (k : Nat) (a0 : Int) (a1 : Int) : Option (Int) := (mode_Mode_Right.f a0).bind fun t101 => (if t101 = true then ((mode_Mode_Right.f a1).bind fun t102 => (mode_Both.j0 k a0 a1 (!t102))) else (mode_Both.j0 k a0 a1 true))
theorem mode_Both.mono_l : ∀ k, (∀ y0 y1 y2, LeO (mode_Both.j0 k y0 y1 y2) (mode_Both.j0 (k + 1) y0 y1 y2))
  | 0 => fun _ _ _ r h => by simp [mode_Both.j0] at h
  | k + 1 => by
    have ih0 := mode_Both.mono_l k
    · intro y0 y1 y2
      unfold mode_Both.j0
      repeat' first
      | (with_reducible exact ih0 _ _ _)
      | (with_reducible exact LeO.refl _)
      | (with_reducible exact LeO.none _)
      | (with_reducible refine LeO.ite ?_ ?_)
      | (with_reducible refine LeO.bind ?_ (fun _ => ?_))
      | exact ih0 _ _ _
      | exact LeO.none _
      | refine LeO.ite ?_ ?_
      | refine LeO.bind ?_ (fun _ => ?_)
theorem mode_Both.mono : ∀ a0 a1 k, LeO (mode_Both.f k a0 a1) (mode_Both.f (k + 1) a0 a1) := by
  intro a0 a1 k
  have ih0 := mode_Both.mono_l k
  unfold mode_Both.f
  repeat' first
      | (with_reducible exact ih0 _ _ _)
      | (with_reducible exact LeO.refl _)
      | (with_reducible exact LeO.none _)
      | (with_reducible refine LeO.ite ?_ ?_)
      | (with_reducible refine LeO.bind ?_ (fun _ => ?_))
      | exact ih0 _ _ _
      | exact LeO.none _
      | refine LeO.ite ?_ ?_
      | refine LeO.bind ?_ (fun _ => ?_)
set_option maxHeartbeats 8000000 in
set_option maxRecDepth 100000 in
theorem mode_Both.calls (k : Nat) (a0 : Int) (a1 : Int) (r : Int) (w : World) (h : mode_Both.f k a0 a1 = some r) :
    Calls Try.prog 9 #[.int .i64 a0, .int .i64 a1] w fun e w' => e = .returned (.int .i64 r) ∧ Drawn0 w w' := by
  have H : ((mode_Mode_Right.f a0).bind fun t101 => (if t101 = true then ((mode_Mode_Right.f a1).bind fun t102 => (mode_Both.j0 k a0 a1 (!t102))) else (mode_Both.j0 k a0 a1 true))) = some r := h
  clear h
  have HC3 := Aside0.mk H
  clear H
  go_enter Try.func9, Try.ntmps9
  go_upto_region 1 with (fail)
  go_cut [12] (fun v12 wc => ∃ (kq : Nat) (x12_2 : Bool), v12 = .bool x12_2 ∧ Aside0 (mode_Both.j0 kq a0 a1 x12_2 = some r) ∧ Aside0 (kq ≤ k) ∧ Drawn0 w wc)
  case first =>
    have H := HC3.out
    clear HC3
    replace H := Option.bind_eq_some_iff.mp H
    obtain ⟨t101, A40, H⟩ := H
    replace H : (if t101 = true then ((mode_Mode_Right.f a1).bind fun t102 => (mode_Both.j0 k a0 a1 (!t102))) else (mode_Both.j0 k a0 a1 true)) = some r := H
    have A4 := Aside0.mk A40
    clear A40
    by_cases c5 : t101 = true
    · subst c5
      have H1 : ((mode_Mode_Right.f a1).bind fun t102 => (mode_Both.j0 k a0 a1 (!t102))) = some r := by rw [if_pos rfl] at H; exact H
      clear H
      have H := H1
      clear H1
      replace H := Option.bind_eq_some_iff.mp H
      obtain ⟨t102, A60, H⟩ := H
      replace H : (mode_Both.j0 k a0 a1 (!t102)) = some r := H
      have A6 := Aside0.mk A60
      clear A60
      have H' := Aside0.mk H
      clear H
      go_wp2_with (first | ((with_reducible refine gate_callee (f := 10) rfl ?_); refine goesL_ (some 6) rfl rfl Try.func10 (by kernel_rfl) rfl #[.int .i64 a0] rfl (by (try simp only [List.map_toArray, List.map_cons, List.map_nil]); first | done | rfl | (simp only [List.length_drop, List.length_take]; rfl)) ?_; (with_reducible refine (mode_Mode_Right.calls a0 true _ A4.out).mono ?_); rintro e w' ⟨rfl, ⟨nd, rfl⟩⟩; refine ⟨_, rfl, ?_⟩) | (go_at_call 10; (with_reducible refine (mode_Mode_Right.calls a1 t102 _ A6.out).mono ?_); rintro e w' ⟨rfl, ⟨nd, rfl⟩⟩))
      go_meet
      case rel => exact ⟨_, (!t102), (by first | rfl | (simp; done) | (simp [*]; done)), H', ⟨by first | omega | exact Nat.le_refl _⟩, by repeat (first | exact Drawn0.refl _ | apply Drawn0.step)⟩
    · replace c5 := Bool.eq_false_iff.mpr c5
      subst c5
      have H1 : (mode_Both.j0 k a0 a1 true) = some r := by rw [if_neg (show ¬ (false = true) by decide)] at H; exact H
      clear H
      have H := H1
      clear H1
      have H' := Aside0.mk H
      clear H
      go_wp2_with (first | ((with_reducible refine gate_callee (f := 10) rfl ?_); refine goesL_ (some 6) rfl rfl Try.func10 (by kernel_rfl) rfl #[.int .i64 a0] rfl (by (try simp only [List.map_toArray, List.map_cons, List.map_nil]); first | done | rfl | (simp only [List.length_drop, List.length_take]; rfl)) ?_; (with_reducible refine (mode_Mode_Right.calls a0 false _ A4.out).mono ?_); rintro e w' ⟨rfl, ⟨nd, rfl⟩⟩; refine ⟨_, rfl, ?_⟩))
      go_meet
      case rel => exact ⟨_, (true), (by first | rfl | (simp; done) | (simp [*]; done)), H', ⟨by first | omega | exact Nat.le_refl _⟩, by repeat (first | exact Drawn0.refl _ | apply Drawn0.step)⟩
  case rest =>
    clear HC3
    try clear c1
    try clear p2
    try clear c5
    obtain ⟨kq, x12_2, rfl, HA, HJ2, ⟨mc2, rfl⟩⟩ := hcut
    cases kq with
    | zero => exact absurd HA.out (by simp [mode_Both.j0])
    | succ kj2 =>
      have H := HA.out
      clear HA
      simp only [mode_Both.j0] at H
      by_cases c7 : x12_2 = true
      · subst c7
        have H1 : (some 0) = some r := by rw [if_pos rfl] at H; exact H
        clear H
        have H := H1
        clear H1
        obtain rfl := Option.some.inj H
        go_wp2
        go_ret
        exact ⟨by first | rfl | (simp; done) | (simp [*]; done), by repeat (first | exact Drawn0.refl _ | apply Drawn0.step)⟩
      · replace c7 := Bool.eq_false_iff.mpr c7
        subst c7
        have H1 : (if a0 > a1 then (if a1 = 2 then (if a0 = 3 then (some 4) else (some a0)) else (some a0)) else (if a0 = 2 then (if a1 = 3 then (some 4) else (some a1)) else (some a1))) = some r := by rw [if_neg (show ¬ (false = true) by decide)] at H; exact H
        clear H
        have H := H1
        clear H1
        by_cases c8 : a0 > a1
        · rw [if_pos c8] at H
          have c8b0 : decide (a1 < a0) = true := decide_eq_true c8
          clear c8
          by_cases c9 : a1 = 2
          · rw [if_pos c9] at H
            have c9b0 : (a1 == 2) = true := beq_iff_eq.mpr c9
            have c9b1 : (a1 != 2) = false := bne_eq_false_iff_eq.mpr c9
            clear c9
            by_cases c10 : a0 = 3
            · rw [if_pos c10] at H
              have c10b0 : (a0 == 3) = true := beq_iff_eq.mpr c10
              have c10b1 : (a0 != 3) = false := bne_eq_false_iff_eq.mpr c10
              clear c10
              obtain rfl := Option.some.inj H
              go_wp2
              go_ret
              exact ⟨by first | rfl | (simp; done) | (simp [*]; done), by repeat (first | exact Drawn0.refl _ | apply Drawn0.step)⟩
            · rw [if_neg c10] at H
              have c10b0 : (a0 == 3) = false := beq_eq_false_iff_ne.mpr c10
              have c10b1 : (a0 != 3) = true := bne_iff_ne.mpr c10
              obtain rfl := Option.some.inj H
              go_wp2
              go_ret
              exact ⟨by first | rfl | (simp; done) | (simp [*]; done), by repeat (first | exact Drawn0.refl _ | apply Drawn0.step)⟩
          · rw [if_neg c9] at H
            have c9b0 : (a1 == 2) = false := beq_eq_false_iff_ne.mpr c9
            have c9b1 : (a1 != 2) = true := bne_iff_ne.mpr c9
            obtain rfl := Option.some.inj H
            go_wp2
            go_ret
            exact ⟨by first | rfl | (simp; done) | (simp [*]; done), by repeat (first | exact Drawn0.refl _ | apply Drawn0.step)⟩
        · rw [if_neg c8] at H
          have c8b0 : decide (a1 < a0) = false := decide_eq_false c8
          clear c8
          by_cases c11 : a0 = 2
          · rw [if_pos c11] at H
            have c11b0 : (a0 == 2) = true := beq_iff_eq.mpr c11
            have c11b1 : (a0 != 2) = false := bne_eq_false_iff_eq.mpr c11
            clear c11
            by_cases c12 : a1 = 3
            · rw [if_pos c12] at H
              have c12b0 : (a1 == 3) = true := beq_iff_eq.mpr c12
              have c12b1 : (a1 != 3) = false := bne_eq_false_iff_eq.mpr c12
              clear c12
              obtain rfl := Option.some.inj H
              go_wp2
              go_ret
              exact ⟨by first | rfl | (simp; done) | (simp [*]; done), by repeat (first | exact Drawn0.refl _ | apply Drawn0.step)⟩
            · rw [if_neg c12] at H
              have c12b0 : (a1 == 3) = false := beq_eq_false_iff_ne.mpr c12
              have c12b1 : (a1 != 3) = true := bne_iff_ne.mpr c12
              obtain rfl := Option.some.inj H
              go_wp2
              go_ret
              exact ⟨by first | rfl | (simp; done) | (simp [*]; done), by repeat (first | exact Drawn0.refl _ | apply Drawn0.step)⟩
          · rw [if_neg c11] at H
            have c11b0 : (a0 == 2) = false := beq_eq_false_iff_ne.mpr c11
            have c11b1 : (a0 != 2) = true := bne_iff_ne.mpr c11
            obtain rfl := Option.some.inj H
            go_wp2
            go_ret
            exact ⟨by first | rfl | (simp; done) | (simp [*]; done), by repeat (first | exact Drawn0.refl _ | apply Drawn0.step)⟩

/-! ### mode_Fits: function 12 -/
mutual
def mode_Fits.j0 : Nat → Int → Int → Bool → Option (Bool)
  | 0, _, _, _ => none
  | k + 1, x0, x1, x12 => if x12 = true then (some false) else (if x0 > x1 then (mode_Fits.j1 k x1 x0) else (mode_Fits.j1 k x0 x1))
def mode_Fits.j1 : Nat → Int → Int → Option (Bool)
  | 0, _, _ => none
  | k + 1, x0, x1 => if x0 = 1 then (some (x1 != 5)) else (if x0 = 2 then (some (x1 == 2)) else (if x0 = 3 then (some (x1 == 3)) else (some false)))
end
def mode_Fits.f (k : Nat) (a0 : Int) (a1 : Int) : Option (Bool) := (mode_Mode_Right.f a0).bind fun t103 => (if t103 = true then ((mode_Mode_Right.f a1).bind fun t104 => (mode_Fits.j0 k a0 a1 (!t104))) else (mode_Fits.j0 k a0 a1 true))
theorem mode_Fits.mono_l : ∀ k, (∀ y0 y1 y2, LeO (mode_Fits.j0 k y0 y1 y2) (mode_Fits.j0 (k + 1) y0 y1 y2)) ∧ (∀ y0 y1, LeO (mode_Fits.j1 k y0 y1) (mode_Fits.j1 (k + 1) y0 y1))
  | 0 => ⟨fun _ _ _ r h => by simp [mode_Fits.j0] at h, fun _ _ r h => by simp [mode_Fits.j1] at h⟩
  | k + 1 => by
    obtain ⟨ih0, ih1⟩ := mode_Fits.mono_l k
    refine ⟨?_, ?_⟩
    · intro y0 y1 y2
      unfold mode_Fits.j0
      repeat' first
      | (with_reducible exact ih0 _ _ _)
      | (with_reducible exact ih1 _ _)
      | (with_reducible exact LeO.refl _)
      | (with_reducible exact LeO.none _)
      | (with_reducible refine LeO.ite ?_ ?_)
      | (with_reducible refine LeO.bind ?_ (fun _ => ?_))
      | exact ih0 _ _ _
      | exact ih1 _ _
      | exact LeO.none _
      | refine LeO.ite ?_ ?_
      | refine LeO.bind ?_ (fun _ => ?_)
    · intro y0 y1
      unfold mode_Fits.j1
      repeat' first
      | (with_reducible exact ih0 _ _ _)
      | (with_reducible exact ih1 _ _)
      | (with_reducible exact LeO.refl _)
      | (with_reducible exact LeO.none _)
      | (with_reducible refine LeO.ite ?_ ?_)
      | (with_reducible refine LeO.bind ?_ (fun _ => ?_))
      | exact ih0 _ _ _
      | exact ih1 _ _
      | exact LeO.none _
      | refine LeO.ite ?_ ?_
      | refine LeO.bind ?_ (fun _ => ?_)
theorem mode_Fits.mono : ∀ a0 a1 k, LeO (mode_Fits.f k a0 a1) (mode_Fits.f (k + 1) a0 a1) := by
  intro a0 a1 k
  obtain ⟨ih0, ih1⟩ := mode_Fits.mono_l k
  unfold mode_Fits.f
  repeat' first
      | (with_reducible exact ih0 _ _ _)
      | (with_reducible exact ih1 _ _)
      | (with_reducible exact LeO.refl _)
      | (with_reducible exact LeO.none _)
      | (with_reducible refine LeO.ite ?_ ?_)
      | (with_reducible refine LeO.bind ?_ (fun _ => ?_))
      | exact ih0 _ _ _
      | exact ih1 _ _
      | exact LeO.none _
      | refine LeO.ite ?_ ?_
      | refine LeO.bind ?_ (fun _ => ?_)
set_option maxHeartbeats 8000000 in
set_option maxRecDepth 100000 in
theorem mode_Fits.calls (k : Nat) (a0 : Int) (a1 : Int) (r : Bool) (w : World) (h : mode_Fits.f k a0 a1 = some r) :
    Calls Try.prog 12 #[.int .i64 a0, .int .i64 a1] w fun e w' => e = .returned (.bool r) ∧ Drawn0 w w' := by
  have H : ((mode_Mode_Right.f a0).bind fun t103 => (if t103 = true then ((mode_Mode_Right.f a1).bind fun t104 => (mode_Fits.j0 k a0 a1 (!t104))) else (mode_Fits.j0 k a0 a1 true))) = some r := h
  clear h
  have HC3 := Aside0.mk H
  clear H
  go_enter Try.func12, Try.ntmps12
  go_upto_region 1 with (fail)
  go_cut [12] (fun v12 wc => ∃ (kq : Nat) (x12_2 : Bool), v12 = .bool x12_2 ∧ Aside0 (mode_Fits.j0 kq a0 a1 x12_2 = some r) ∧ Aside0 (kq ≤ k) ∧ Drawn0 w wc)
  case first =>
    have H := HC3.out
    clear HC3
    replace H := Option.bind_eq_some_iff.mp H
    obtain ⟨t103, A40, H⟩ := H
    replace H : (if t103 = true then ((mode_Mode_Right.f a1).bind fun t104 => (mode_Fits.j0 k a0 a1 (!t104))) else (mode_Fits.j0 k a0 a1 true)) = some r := H
    have A4 := Aside0.mk A40
    clear A40
    by_cases c5 : t103 = true
    · subst c5
      have H1 : ((mode_Mode_Right.f a1).bind fun t104 => (mode_Fits.j0 k a0 a1 (!t104))) = some r := by rw [if_pos rfl] at H; exact H
      clear H
      have H := H1
      clear H1
      replace H := Option.bind_eq_some_iff.mp H
      obtain ⟨t104, A60, H⟩ := H
      replace H : (mode_Fits.j0 k a0 a1 (!t104)) = some r := H
      have A6 := Aside0.mk A60
      clear A60
      have H' := Aside0.mk H
      clear H
      go_wp2_with (first | ((with_reducible refine gate_callee (f := 10) rfl ?_); refine goesL_ (some 6) rfl rfl Try.func10 (by kernel_rfl) rfl #[.int .i64 a0] rfl (by (try simp only [List.map_toArray, List.map_cons, List.map_nil]); first | done | rfl | (simp only [List.length_drop, List.length_take]; rfl)) ?_; (with_reducible refine (mode_Mode_Right.calls a0 true _ A4.out).mono ?_); rintro e w' ⟨rfl, ⟨nd, rfl⟩⟩; refine ⟨_, rfl, ?_⟩) | (go_at_call 10; (with_reducible refine (mode_Mode_Right.calls a1 t104 _ A6.out).mono ?_); rintro e w' ⟨rfl, ⟨nd, rfl⟩⟩))
      go_meet
      case rel => exact ⟨_, (!t104), (by first | rfl | (simp; done) | (simp [*]; done)), H', ⟨by first | omega | exact Nat.le_refl _⟩, by repeat (first | exact Drawn0.refl _ | apply Drawn0.step)⟩
    · replace c5 := Bool.eq_false_iff.mpr c5
      subst c5
      have H1 : (mode_Fits.j0 k a0 a1 true) = some r := by rw [if_neg (show ¬ (false = true) by decide)] at H; exact H
      clear H
      have H := H1
      clear H1
      have H' := Aside0.mk H
      clear H
      go_wp2_with (first | ((with_reducible refine gate_callee (f := 10) rfl ?_); refine goesL_ (some 6) rfl rfl Try.func10 (by kernel_rfl) rfl #[.int .i64 a0] rfl (by (try simp only [List.map_toArray, List.map_cons, List.map_nil]); first | done | rfl | (simp only [List.length_drop, List.length_take]; rfl)) ?_; (with_reducible refine (mode_Mode_Right.calls a0 false _ A4.out).mono ?_); rintro e w' ⟨rfl, ⟨nd, rfl⟩⟩; refine ⟨_, rfl, ?_⟩))
      go_meet
      case rel => exact ⟨_, (true), (by first | rfl | (simp; done) | (simp [*]; done)), H', ⟨by first | omega | exact Nat.le_refl _⟩, by repeat (first | exact Drawn0.refl _ | apply Drawn0.step)⟩
  case rest =>
    clear HC3
    try clear c1
    try clear p2
    try clear c5
    obtain ⟨kq, x12_2, rfl, HA, HJ2, ⟨mc2, rfl⟩⟩ := hcut
    cases kq with
    | zero => exact absurd HA.out (by simp [mode_Fits.j0])
    | succ kj2 =>
      have H := HA.out
      clear HA
      simp only [mode_Fits.j0] at H
      by_cases c7 : x12_2 = true
      · subst c7
        have H1 : (some false) = some r := by rw [if_pos rfl] at H; exact H
        clear H
        have H := H1
        clear H1
        obtain rfl := Option.some.inj H
        go_wp2
        go_ret
        exact ⟨by first | rfl | (simp; done) | (simp [*]; done), by repeat (first | exact Drawn0.refl _ | apply Drawn0.step)⟩
      · replace c7 := Bool.eq_false_iff.mpr c7
        subst c7
        have H1 : (if a0 > a1 then (mode_Fits.j1 kj2 a1 a0) else (mode_Fits.j1 kj2 a0 a1)) = some r := by rw [if_neg (show ¬ (false = true) by decide)] at H; exact H
        clear H
        have H := H1
        clear H1
        have HC8 := Aside0.mk H
        clear H
        go_upto_if 15 with (fail)
        go_cut [0, 1] (fun v0 v1 wc => ∃ (kq : Nat) (x0_7 : Int) (x1_7 : Int), v0 = .int .i64 x0_7 ∧ v1 = .int .i64 x1_7 ∧ Aside0 (mode_Fits.j1 kq x0_7 x1_7 = some r) ∧ Aside0 (kq ≤ kj2) ∧ Drawn0 w wc)
        case first =>
          have H := HC8.out
          clear HC8
          by_cases c9 : a0 > a1
          · rw [if_pos c9] at H
            have c9b0 : decide (a1 < a0) = true := decide_eq_true c9
            clear c9
            (first | rw [c9b0] | (simp only [i64_w, i32_w]; rw [c9b0]) | skip)
            have H' := Aside0.mk H
            clear H
            go_wp2
            go_meet
            case rel => exact ⟨_, (a1), (a0), (by first | rfl | (simp; done) | (simp [*]; done)), (by first | rfl | (simp; done) | (simp [*]; done)), H', ⟨by have := HJ2.out; first | omega | exact Nat.le_refl _⟩, by repeat (first | exact Drawn0.refl _ | apply Drawn0.step)⟩
          · rw [if_neg c9] at H
            have c9b0 : decide (a1 < a0) = false := decide_eq_false c9
            clear c9
            (first | rw [c9b0] | (simp only [i64_w, i32_w]; rw [c9b0]) | skip)
            have H' := Aside0.mk H
            clear H
            go_wp2
            go_meet
            case rel => exact ⟨_, (a0), (a1), (by first | rfl | (simp; done) | (simp [*]; done)), (by first | rfl | (simp; done) | (simp [*]; done)), H', ⟨by have := HJ2.out; first | omega | exact Nat.le_refl _⟩, by repeat (first | exact Drawn0.refl _ | apply Drawn0.step)⟩
        case rest =>
          clear HC8
          try clear c1
          try clear c2
          try clear p2
          try clear c5
          try clear c7
          try clear c9
          try clear c9b0
          try clear p2
          obtain ⟨kq, x0_7, x1_7, rfl, rfl, HA, HJ7, ⟨mc7, rfl⟩⟩ := hcut
          cases kq with
          | zero => exact absurd HA.out (by simp [mode_Fits.j1])
          | succ kj7 =>
            have H := HA.out
            clear HA
            simp only [mode_Fits.j1] at H
            by_cases c10 : x0_7 = 1
            · rw [if_pos c10] at H
              have c10b0 : (x0_7 == 1) = true := beq_iff_eq.mpr c10
              have c10b1 : (x0_7 != 1) = false := bne_eq_false_iff_eq.mpr c10
              clear c10
              obtain rfl := Option.some.inj H
              go_wp2
              go_ret
              exact ⟨by first | rfl | (simp; done) | (simp [*]; done), by repeat (first | exact Drawn0.refl _ | apply Drawn0.step)⟩
            · rw [if_neg c10] at H
              have c10b0 : (x0_7 == 1) = false := beq_eq_false_iff_ne.mpr c10
              have c10b1 : (x0_7 != 1) = true := bne_iff_ne.mpr c10
              by_cases c11 : x0_7 = 2
              · rw [if_pos c11] at H
                have c11b0 : (x0_7 == 2) = true := beq_iff_eq.mpr c11
                have c11b1 : (x0_7 != 2) = false := bne_eq_false_iff_eq.mpr c11
                clear c11
                obtain rfl := Option.some.inj H
                go_wp2
                go_ret
                exact ⟨by first | rfl | (simp; done) | (simp [*]; done), by repeat (first | exact Drawn0.refl _ | apply Drawn0.step)⟩
              · rw [if_neg c11] at H
                have c11b0 : (x0_7 == 2) = false := beq_eq_false_iff_ne.mpr c11
                have c11b1 : (x0_7 != 2) = true := bne_iff_ne.mpr c11
                by_cases c12 : x0_7 = 3
                · rw [if_pos c12] at H
                  have c12b0 : (x0_7 == 3) = true := beq_iff_eq.mpr c12
                  have c12b1 : (x0_7 != 3) = false := bne_eq_false_iff_eq.mpr c12
                  clear c12
                  obtain rfl := Option.some.inj H
                  go_wp2
                  go_ret
                  exact ⟨by first | rfl | (simp; done) | (simp [*]; done), by repeat (first | exact Drawn0.refl _ | apply Drawn0.step)⟩
                · rw [if_neg c12] at H
                  have c12b0 : (x0_7 == 3) = false := beq_eq_false_iff_ne.mpr c12
                  have c12b1 : (x0_7 != 3) = true := bne_iff_ne.mpr c12
                  obtain rfl := Option.some.inj H
                  go_wp2
                  go_ret
                  exact ⟨by first | rfl | (simp; done) | (simp [*]; done), by repeat (first | exact Drawn0.refl _ | apply Drawn0.step)⟩

/-! ### quaysidelaw12_awake: function 8 -/
def quaysidelaw12_awake.f (k : Nat)  : Option (Bool) := (mode_Both.f k 2 3).bind fun t105 => (if t105 = 4 then ((mode_Fits.f k 1 4).bind fun t106 => (if t106 = true then ((mode_Mode_Right.f 4).bind fun t107 => (some t107)) else (some false))) else (some false))
theorem quaysidelaw12_awake.mono : ∀ k, LeO (quaysidelaw12_awake.f k ) (quaysidelaw12_awake.f (k + 1) ) := by
  intro  k
  unfold quaysidelaw12_awake.f
  repeat' first
      | (with_reducible exact mode_Both.mono _ _ _)
      | (with_reducible exact mode_Fits.mono _ _ _)
      | (with_reducible exact LeO.refl _)
      | (with_reducible exact LeO.none _)
      | (with_reducible refine LeO.ite ?_ ?_)
      | (with_reducible refine LeO.bind ?_ (fun _ => ?_))
      | exact mode_Both.mono _ _ _
      | exact mode_Fits.mono _ _ _
      | exact LeO.none _
      | refine LeO.ite ?_ ?_
      | refine LeO.bind ?_ (fun _ => ?_)
set_option maxHeartbeats 8000000 in
set_option maxRecDepth 100000 in
theorem quaysidelaw12_awake.calls (k : Nat)  (r : Bool) (w : World) (h : quaysidelaw12_awake.f k  = some r) :
    Calls Try.prog 8 #[] w fun e w' => e = .returned (.bool r) ∧ Drawn0 w w' := by
  have H : ((mode_Both.f k 2 3).bind fun t105 => (if t105 = 4 then ((mode_Fits.f k 1 4).bind fun t106 => (if t106 = true then ((mode_Mode_Right.f 4).bind fun t107 => (some t107)) else (some false))) else (some false))) = some r := h
  clear h
  replace H := Option.bind_eq_some_iff.mp H
  obtain ⟨t105, A10, H⟩ := H
  replace H : (if t105 = 4 then ((mode_Fits.f k 1 4).bind fun t106 => (if t106 = true then ((mode_Mode_Right.f 4).bind fun t107 => (some t107)) else (some false))) else (some false)) = some r := H
  have A1 := Aside0.mk A10
  clear A10
  by_cases c2 : t105 = 4
  · rw [if_pos c2] at H
    have c2b0 : (t105 == 4) = true := beq_iff_eq.mpr c2
    have c2b1 : (t105 != 4) = false := bne_eq_false_iff_eq.mpr c2
    clear c2
    replace H := Option.bind_eq_some_iff.mp H
    obtain ⟨t106, A30, H⟩ := H
    replace H : (if t106 = true then ((mode_Mode_Right.f 4).bind fun t107 => (some t107)) else (some false)) = some r := H
    have A3 := Aside0.mk A30
    clear A30
    by_cases c4 : t106 = true
    · subst c4
      have H1 : ((mode_Mode_Right.f 4).bind fun t107 => (some t107)) = some r := by rw [if_pos rfl] at H; exact H
      clear H
      have H := H1
      clear H1
      replace H := Option.bind_eq_some_iff.mp H
      obtain ⟨t107, A50, H⟩ := H
      replace H : (some t107) = some r := H
      have A5 := Aside0.mk A50
      clear A50
      obtain rfl := Option.some.inj H
      go_enter Try.func8, Try.ntmps8
      go_wp2_with (first | ((with_reducible refine gate_callee (f := 9) rfl ?_); refine goesL_ (some 1) rfl rfl Try.func9 (by kernel_rfl) rfl #[.int .i64 2, .int .i64 3] rfl (by (try simp only [List.map_toArray, List.map_cons, List.map_nil]); first | done | rfl | (simp only [List.length_drop, List.length_take]; rfl)) ?_; (with_reducible refine (mode_Both.calls k 2 3 t105 _ A1.out).mono ?_); rintro e w' ⟨rfl, ⟨nd, rfl⟩⟩; refine ⟨_, rfl, ?_⟩) | (go_at_call 12; (with_reducible refine (mode_Fits.calls k 1 4 true _ A3.out).mono ?_); rintro e w' ⟨rfl, ⟨nd, rfl⟩⟩) | (go_at_call 10; (with_reducible refine (mode_Mode_Right.calls 4 t107 _ A5.out).mono ?_); rintro e w' ⟨rfl, ⟨nd, rfl⟩⟩))
      go_ret
      exact ⟨by first | rfl | (simp; done) | (simp [*]; done), by repeat (first | exact Drawn0.refl _ | apply Drawn0.step)⟩
    · replace c4 := Bool.eq_false_iff.mpr c4
      subst c4
      have H1 : (some false) = some r := by rw [if_neg (show ¬ (false = true) by decide)] at H; exact H
      clear H
      have H := H1
      clear H1
      obtain rfl := Option.some.inj H
      go_enter Try.func8, Try.ntmps8
      go_wp2_with (first | ((with_reducible refine gate_callee (f := 9) rfl ?_); refine goesL_ (some 1) rfl rfl Try.func9 (by kernel_rfl) rfl #[.int .i64 2, .int .i64 3] rfl (by (try simp only [List.map_toArray, List.map_cons, List.map_nil]); first | done | rfl | (simp only [List.length_drop, List.length_take]; rfl)) ?_; (with_reducible refine (mode_Both.calls k 2 3 t105 _ A1.out).mono ?_); rintro e w' ⟨rfl, ⟨nd, rfl⟩⟩; refine ⟨_, rfl, ?_⟩) | (go_at_call 12; (with_reducible refine (mode_Fits.calls k 1 4 false _ A3.out).mono ?_); rintro e w' ⟨rfl, ⟨nd, rfl⟩⟩))
      go_ret
      exact ⟨by first | rfl | (simp; done) | (simp [*]; done), by repeat (first | exact Drawn0.refl _ | apply Drawn0.step)⟩
  · rw [if_neg c2] at H
    have c2b0 : (t105 == 4) = false := beq_eq_false_iff_ne.mpr c2
    have c2b1 : (t105 != 4) = true := bne_iff_ne.mpr c2
    obtain rfl := Option.some.inj H
    go_enter Try.func8, Try.ntmps8
    go_wp2_with (first | ((with_reducible refine gate_callee (f := 9) rfl ?_); refine goesL_ (some 1) rfl rfl Try.func9 (by kernel_rfl) rfl #[.int .i64 2, .int .i64 3] rfl (by (try simp only [List.map_toArray, List.map_cons, List.map_nil]); first | done | rfl | (simp only [List.length_drop, List.length_take]; rfl)) ?_; (with_reducible refine (mode_Both.calls k 2 3 t105 _ A1.out).mono ?_); rintro e w' ⟨rfl, ⟨nd, rfl⟩⟩; refine ⟨_, rfl, ?_⟩))
    go_ret
    exact ⟨by first | rfl | (simp; done) | (simp [*]; done), by repeat (first | exact Drawn0.refl _ | apply Drawn0.step)⟩

/-! ### mode_Covers: function 11 -/
def mode_Covers.f (k : Nat) (a0 : Int) (a1 : Int) : Option (Bool) := (mode_Mode_Right.f a0).bind fun t108 => (if t108 = true then ((mode_Mode_Right.f a1).bind fun t109 => (if t109 = true then ((mode_Both.f k a0 a1).bind fun t110 => (some (t110 == a0))) else (some false))) else (some false))
theorem mode_Covers.mono : ∀ a0 a1 k, LeO (mode_Covers.f k a0 a1) (mode_Covers.f (k + 1) a0 a1) := by
  intro a0 a1 k
  unfold mode_Covers.f
  repeat' first
      | (with_reducible exact mode_Both.mono _ _ _)
      | (with_reducible exact LeO.refl _)
      | (with_reducible exact LeO.none _)
      | (with_reducible refine LeO.ite ?_ ?_)
      | (with_reducible refine LeO.bind ?_ (fun _ => ?_))
      | exact mode_Both.mono _ _ _
      | exact LeO.none _
      | refine LeO.ite ?_ ?_
      | refine LeO.bind ?_ (fun _ => ?_)
set_option maxHeartbeats 8000000 in
set_option maxRecDepth 100000 in
theorem mode_Covers.calls (k : Nat) (a0 : Int) (a1 : Int) (r : Bool) (w : World) (h : mode_Covers.f k a0 a1 = some r) :
    Calls Try.prog 11 #[.int .i64 a0, .int .i64 a1] w fun e w' => e = .returned (.bool r) ∧ Drawn0 w w' := by
  have H : ((mode_Mode_Right.f a0).bind fun t108 => (if t108 = true then ((mode_Mode_Right.f a1).bind fun t109 => (if t109 = true then ((mode_Both.f k a0 a1).bind fun t110 => (some (t110 == a0))) else (some false))) else (some false))) = some r := h
  clear h
  replace H := Option.bind_eq_some_iff.mp H
  obtain ⟨t108, A30, H⟩ := H
  replace H : (if t108 = true then ((mode_Mode_Right.f a1).bind fun t109 => (if t109 = true then ((mode_Both.f k a0 a1).bind fun t110 => (some (t110 == a0))) else (some false))) else (some false)) = some r := H
  have A3 := Aside0.mk A30
  clear A30
  by_cases c4 : t108 = true
  · subst c4
    have H1 : ((mode_Mode_Right.f a1).bind fun t109 => (if t109 = true then ((mode_Both.f k a0 a1).bind fun t110 => (some (t110 == a0))) else (some false))) = some r := by rw [if_pos rfl] at H; exact H
    clear H
    have H := H1
    clear H1
    replace H := Option.bind_eq_some_iff.mp H
    obtain ⟨t109, A50, H⟩ := H
    replace H : (if t109 = true then ((mode_Both.f k a0 a1).bind fun t110 => (some (t110 == a0))) else (some false)) = some r := H
    have A5 := Aside0.mk A50
    clear A50
    by_cases c6 : t109 = true
    · subst c6
      have H1 : ((mode_Both.f k a0 a1).bind fun t110 => (some (t110 == a0))) = some r := by rw [if_pos rfl] at H; exact H
      clear H
      have H := H1
      clear H1
      replace H := Option.bind_eq_some_iff.mp H
      obtain ⟨t110, A70, H⟩ := H
      replace H : (some (t110 == a0)) = some r := H
      have A7 := Aside0.mk A70
      clear A70
      obtain rfl := Option.some.inj H
      go_enter Try.func11, Try.ntmps11
      go_wp2_with (first | ((with_reducible refine gate_callee (f := 10) rfl ?_); refine goesL_ (some 6) rfl rfl Try.func10 (by kernel_rfl) rfl #[.int .i64 a0] rfl (by (try simp only [List.map_toArray, List.map_cons, List.map_nil]); first | done | rfl | (simp only [List.length_drop, List.length_take]; rfl)) ?_; (with_reducible refine (mode_Mode_Right.calls a0 true _ A3.out).mono ?_); rintro e w' ⟨rfl, ⟨nd, rfl⟩⟩; refine ⟨_, rfl, ?_⟩) | (go_at_call 10; (with_reducible refine (mode_Mode_Right.calls a1 true _ A5.out).mono ?_); rintro e w' ⟨rfl, ⟨nd, rfl⟩⟩) | (go_at_call 9; (with_reducible refine (mode_Both.calls k a0 a1 t110 _ A7.out).mono ?_); rintro e w' ⟨rfl, ⟨nd, rfl⟩⟩))
      go_ret
      exact ⟨by first | rfl | (simp; done) | (simp [*]; done), by repeat (first | exact Drawn0.refl _ | apply Drawn0.step)⟩
    · replace c6 := Bool.eq_false_iff.mpr c6
      subst c6
      have H1 : (some false) = some r := by rw [if_neg (show ¬ (false = true) by decide)] at H; exact H
      clear H
      have H := H1
      clear H1
      obtain rfl := Option.some.inj H
      go_enter Try.func11, Try.ntmps11
      go_wp2_with (first | ((with_reducible refine gate_callee (f := 10) rfl ?_); refine goesL_ (some 6) rfl rfl Try.func10 (by kernel_rfl) rfl #[.int .i64 a0] rfl (by (try simp only [List.map_toArray, List.map_cons, List.map_nil]); first | done | rfl | (simp only [List.length_drop, List.length_take]; rfl)) ?_; (with_reducible refine (mode_Mode_Right.calls a0 true _ A3.out).mono ?_); rintro e w' ⟨rfl, ⟨nd, rfl⟩⟩; refine ⟨_, rfl, ?_⟩) | (go_at_call 10; (with_reducible refine (mode_Mode_Right.calls a1 false _ A5.out).mono ?_); rintro e w' ⟨rfl, ⟨nd, rfl⟩⟩))
      go_ret
      exact ⟨by first | rfl | (simp; done) | (simp [*]; done), by repeat (first | exact Drawn0.refl _ | apply Drawn0.step)⟩
  · replace c4 := Bool.eq_false_iff.mpr c4
    subst c4
    have H1 : (some false) = some r := by rw [if_neg (show ¬ (false = true) by decide)] at H; exact H
    clear H
    have H := H1
    clear H1
    obtain rfl := Option.some.inj H
    go_enter Try.func11, Try.ntmps11
    go_wp2_with (first | ((with_reducible refine gate_callee (f := 10) rfl ?_); refine goesL_ (some 6) rfl rfl Try.func10 (by kernel_rfl) rfl #[.int .i64 a0] rfl (by (try simp only [List.map_toArray, List.map_cons, List.map_nil]); first | done | rfl | (simp only [List.length_drop, List.length_take]; rfl)) ?_; (with_reducible refine (mode_Mode_Right.calls a0 false _ A3.out).mono ?_); rintro e w' ⟨rfl, ⟨nd, rfl⟩⟩; refine ⟨_, rfl, ?_⟩))
    go_ret
    exact ⟨by first | rfl | (simp; done) | (simp [*]; done), by repeat (first | exact Drawn0.refl _ | apply Drawn0.step)⟩

/-! ### quaysideref12_Right: function 13 -/
def quaysideref12_Right.f (a0 : Int) : Option (Bool) := if a0 ≥ 1 then (some (decide (a0 ≤ 5))) else (some false)
set_option maxHeartbeats 8000000 in
set_option maxRecDepth 100000 in
theorem quaysideref12_Right.calls (a0 : Int) (r : Bool) (w : World) (h : quaysideref12_Right.f a0 = some r) :
    Calls Try.prog 13 #[.int .i64 a0] w fun e w' => e = .returned (.bool r) ∧ Drawn0 w w' := by
  have H : (if a0 ≥ 1 then (some (decide (a0 ≤ 5))) else (some false)) = some r := h
  clear h
  by_cases c2 : a0 ≥ 1
  · rw [if_pos c2] at H
    have c2b0 : decide (1 ≤ a0) = true := decide_eq_true c2
    clear c2
    obtain rfl := Option.some.inj H
    go_enter Try.func13, Try.ntmps13
    go_wp2
    go_ret
    exact ⟨by first | rfl | (simp; done) | (simp [*]; done), by repeat (first | exact Drawn0.refl _ | apply Drawn0.step)⟩
  · rw [if_neg c2] at H
    have c2b0 : decide (1 ≤ a0) = false := decide_eq_false c2
    clear c2
    obtain rfl := Option.some.inj H
    go_enter Try.func13, Try.ntmps13
    go_wp2
    go_ret
    exact ⟨by first | rfl | (simp; done) | (simp [*]; done), by repeat (first | exact Drawn0.refl _ | apply Drawn0.step)⟩

/-! ### quaysideref12_Fits: function 14 -/
def quaysideref12_Fits.f (a0 : Int) (a1 : Int) : Option (Bool) := (quaysideref12_Right.f a0).bind fun t111 => (if t111 = true then ((quaysideref12_Right.f a1).bind fun t112 => (if t112 = true then ((some (([(⟨#[121, 121, 121, 121, 110]⟩ : ByteArray), (⟨#[121, 121, 110, 110, 110]⟩ : ByteArray), (⟨#[121, 110, 121, 110, 110]⟩ : ByteArray), (⟨#[121, 110, 110, 110, 110]⟩ : ByteArray), (⟨#[110, 110, 110, 110, 110]⟩ : ByteArray)] : List ByteArray) : List ByteArray)).bind fun y113 => (if 0 ≤ (wrap64 (a0 - 1)) then (if (wrap64 (a0 - 1)) < (y113.length : Int) then (if 0 ≤ (wrap64 (a1 - 1)) then (if (wrap64 (a1 - 1)) < ((rdOf ByteArray.empty y113 (wrap64 (a0 - 1))).size : Int) then (some ((bt (rdOf ByteArray.empty y113 (wrap64 (a0 - 1))) (wrap64 (a1 - 1))) == 121)) else (none)) else (none)) else (none)) else (none))) else (some false))) else (some false))
set_option maxHeartbeats 8000000 in
set_option maxRecDepth 100000 in
theorem quaysideref12_Fits.calls (a0 : Int) (a1 : Int) (r : Bool) (w : World) (h : quaysideref12_Fits.f a0 a1 = some r) :
    Calls Try.prog 14 #[.int .i64 a0, .int .i64 a1] w fun e w' => e = .returned (.bool r) ∧ Below w.heap.size w w' := by
  have HB := Aside0.mk (Below.refl w.heap.size w)
  have H : ((quaysideref12_Right.f a0).bind fun t111 => (if t111 = true then ((quaysideref12_Right.f a1).bind fun t112 => (if t112 = true then ((some (([(⟨#[121, 121, 121, 121, 110]⟩ : ByteArray), (⟨#[121, 121, 110, 110, 110]⟩ : ByteArray), (⟨#[121, 110, 121, 110, 110]⟩ : ByteArray), (⟨#[121, 110, 110, 110, 110]⟩ : ByteArray), (⟨#[110, 110, 110, 110, 110]⟩ : ByteArray)] : List ByteArray) : List ByteArray)).bind fun y113 => (if 0 ≤ (wrap64 (a0 - 1)) then (if (wrap64 (a0 - 1)) < (y113.length : Int) then (if 0 ≤ (wrap64 (a1 - 1)) then (if (wrap64 (a1 - 1)) < ((rdOf ByteArray.empty y113 (wrap64 (a0 - 1))).size : Int) then (some ((bt (rdOf ByteArray.empty y113 (wrap64 (a0 - 1))) (wrap64 (a1 - 1))) == 121)) else (none)) else (none)) else (none)) else (none))) else (some false))) else (some false))) = some r := h
  clear h
  replace H := Option.bind_eq_some_iff.mp H
  obtain ⟨t111, A30, H⟩ := H
  replace H : (if t111 = true then ((quaysideref12_Right.f a1).bind fun t112 => (if t112 = true then ((some (([(⟨#[121, 121, 121, 121, 110]⟩ : ByteArray), (⟨#[121, 121, 110, 110, 110]⟩ : ByteArray), (⟨#[121, 110, 121, 110, 110]⟩ : ByteArray), (⟨#[121, 110, 110, 110, 110]⟩ : ByteArray), (⟨#[110, 110, 110, 110, 110]⟩ : ByteArray)] : List ByteArray) : List ByteArray)).bind fun y113 => (if 0 ≤ (wrap64 (a0 - 1)) then (if (wrap64 (a0 - 1)) < (y113.length : Int) then (if 0 ≤ (wrap64 (a1 - 1)) then (if (wrap64 (a1 - 1)) < ((rdOf ByteArray.empty y113 (wrap64 (a0 - 1))).size : Int) then (some ((bt (rdOf ByteArray.empty y113 (wrap64 (a0 - 1))) (wrap64 (a1 - 1))) == 121)) else (none)) else (none)) else (none)) else (none))) else (some false))) else (some false)) = some r := H
  have A3 := Aside0.mk A30
  clear A30
  by_cases c4 : t111 = true
  · subst c4
    have H1 : ((quaysideref12_Right.f a1).bind fun t112 => (if t112 = true then ((some (([(⟨#[121, 121, 121, 121, 110]⟩ : ByteArray), (⟨#[121, 121, 110, 110, 110]⟩ : ByteArray), (⟨#[121, 110, 121, 110, 110]⟩ : ByteArray), (⟨#[121, 110, 110, 110, 110]⟩ : ByteArray), (⟨#[110, 110, 110, 110, 110]⟩ : ByteArray)] : List ByteArray) : List ByteArray)).bind fun y113 => (if 0 ≤ (wrap64 (a0 - 1)) then (if (wrap64 (a0 - 1)) < (y113.length : Int) then (if 0 ≤ (wrap64 (a1 - 1)) then (if (wrap64 (a1 - 1)) < ((rdOf ByteArray.empty y113 (wrap64 (a0 - 1))).size : Int) then (some ((bt (rdOf ByteArray.empty y113 (wrap64 (a0 - 1))) (wrap64 (a1 - 1))) == 121)) else (none)) else (none)) else (none)) else (none))) else (some false))) = some r := by rw [if_pos rfl] at H; exact H
    clear H
    have H := H1
    clear H1
    replace H := Option.bind_eq_some_iff.mp H
    obtain ⟨t112, A50, H⟩ := H
    replace H : (if t112 = true then ((some (([(⟨#[121, 121, 121, 121, 110]⟩ : ByteArray), (⟨#[121, 121, 110, 110, 110]⟩ : ByteArray), (⟨#[121, 110, 121, 110, 110]⟩ : ByteArray), (⟨#[121, 110, 110, 110, 110]⟩ : ByteArray), (⟨#[110, 110, 110, 110, 110]⟩ : ByteArray)] : List ByteArray) : List ByteArray)).bind fun y113 => (if 0 ≤ (wrap64 (a0 - 1)) then (if (wrap64 (a0 - 1)) < (y113.length : Int) then (if 0 ≤ (wrap64 (a1 - 1)) then (if (wrap64 (a1 - 1)) < ((rdOf ByteArray.empty y113 (wrap64 (a0 - 1))).size : Int) then (some ((bt (rdOf ByteArray.empty y113 (wrap64 (a0 - 1))) (wrap64 (a1 - 1))) == 121)) else (none)) else (none)) else (none)) else (none))) else (some false)) = some r := H
    have A5 := Aside0.mk A50
    clear A50
    by_cases c6 : t112 = true
    · subst c6
      have H1 : ((some (([(⟨#[121, 121, 121, 121, 110]⟩ : ByteArray), (⟨#[121, 121, 110, 110, 110]⟩ : ByteArray), (⟨#[121, 110, 121, 110, 110]⟩ : ByteArray), (⟨#[121, 110, 110, 110, 110]⟩ : ByteArray), (⟨#[110, 110, 110, 110, 110]⟩ : ByteArray)] : List ByteArray) : List ByteArray)).bind fun y113 => (if 0 ≤ (wrap64 (a0 - 1)) then (if (wrap64 (a0 - 1)) < (y113.length : Int) then (if 0 ≤ (wrap64 (a1 - 1)) then (if (wrap64 (a1 - 1)) < ((rdOf ByteArray.empty y113 (wrap64 (a0 - 1))).size : Int) then (some ((bt (rdOf ByteArray.empty y113 (wrap64 (a0 - 1))) (wrap64 (a1 - 1))) == 121)) else (none)) else (none)) else (none)) else (none))) = some r := by rw [if_pos rfl] at H; exact H
      clear H
      have H := H1
      clear H1
      obtain ⟨y113, hy113⟩ : ∃ y_ : List ByteArray, y_ = (([(⟨#[121, 121, 121, 121, 110]⟩ : ByteArray), (⟨#[121, 121, 110, 110, 110]⟩ : ByteArray), (⟨#[121, 110, 121, 110, 110]⟩ : ByteArray), (⟨#[121, 110, 110, 110, 110]⟩ : ByteArray), (⟨#[110, 110, 110, 110, 110]⟩ : ByteArray)] : List ByteArray)) := ⟨_, rfl⟩
      replace H : (if 0 ≤ (wrap64 (a0 - 1)) then (if (wrap64 (a0 - 1)) < (y113.length : Int) then (if 0 ≤ (wrap64 (a1 - 1)) then (if (wrap64 (a1 - 1)) < ((rdOf ByteArray.empty y113 (wrap64 (a0 - 1))).size : Int) then (some ((bt (rdOf ByteArray.empty y113 (wrap64 (a0 - 1))) (wrap64 (a1 - 1))) == 121)) else (none)) else (none)) else (none)) else (none)) = some r := by first | (rw [hy113]; with_reducible exact H) | (have H2_ := (Option.bind_some _ _).symm.trans H; rw [hy113]; with_reducible exact H2_) | (have H2_ := (Option.bind_some _ _).symm.trans H; with_reducible exact H2_) | with_reducible exact H | (rw [hy113]; exact H) | exact H
      have Ny113 := Aside0.mk hy113
      clear hy113
      obtain ⟨ji7, hji7⟩ : ∃ j_ : Int, (wrap64 (a0 - 1)) = j_ := ⟨_, rfl⟩
      replace H : (if 0 ≤ (ji7) then (if (ji7) < (y113.length : Int) then (if 0 ≤ (wrap64 (a1 - 1)) then (if (wrap64 (a1 - 1)) < ((rdOf ByteArray.empty y113 (ji7)).size : Int) then (some ((bt (rdOf ByteArray.empty y113 (ji7)) (wrap64 (a1 - 1))) == 121)) else (none)) else (none)) else (none)) else (none)) = some r := by first | (rw [hji7] at H; exact H) | (simp only [hji7] at H ⊢; exact H)
      (try rw [hji7] at A3)
      (try rw [hji7] at A5)
      have hji7w : (IntKind.i64.wrap (a0 - 1)) = ji7 := (i64_w _).trans hji7
      by_cases c8 : 0 ≤ (ji7)
      · rw [if_pos c8] at H
        have c8b0 : decide (0 ≤ (ji7)) = true := decide_eq_true c8
        clear c8
        by_cases c9 : (ji7) < (y113.length : Int)
        · rw [if_pos c9] at H
          have c9b0 : decide ((ji7) < (y113.length : Int)) = true := decide_eq_true c9
          clear c9
          obtain ⟨ji10, hji10⟩ : ∃ j_ : Int, (wrap64 (a1 - 1)) = j_ := ⟨_, rfl⟩
          replace H : (if 0 ≤ (ji10) then (if (ji10) < ((rdOf ByteArray.empty y113 (ji7)).size : Int) then (some ((bt (rdOf ByteArray.empty y113 (ji7)) (ji10)) == 121)) else (none)) else (none)) = some r := by first | (rw [hji10] at H; exact H) | (simp only [hji10] at H ⊢; exact H)
          (try rw [hji10] at A3)
          (try rw [hji10] at A5)
          have hji10w : (IntKind.i64.wrap (a1 - 1)) = ji10 := (i64_w _).trans hji10
          by_cases c11 : 0 ≤ (ji10)
          · rw [if_pos c11] at H
            have c11b0 : decide (0 ≤ (ji10)) = true := decide_eq_true c11
            clear c11
            by_cases c12 : (ji10) < ((rdOf ByteArray.empty y113 (ji7)).size : Int)
            · rw [if_pos c12] at H
              have c12b0 : decide ((ji10) < ((rdOf ByteArray.empty y113 (ji7)).size : Int)) = true := decide_eq_true c12
              clear c12
              obtain rfl := Option.some.inj H
              go_enter Try.func14, Try.ntmps14
              go_wp2_with (first | ((with_reducible refine gate_callee (f := 13) rfl ?_); refine goesL_ (some 7) rfl rfl Try.func13 (by kernel_rfl) rfl #[.int .i64 a0] rfl (by (try simp only [List.map_toArray, List.map_cons, List.map_nil]); first | done | rfl | (simp only [List.length_drop, List.length_take]; rfl)) ?_; (with_reducible refine (quaysideref12_Right.calls a0 true _ A3.out).mono ?_); rintro e w' ⟨rfl, ⟨nd, rfl⟩⟩; refine ⟨_, rfl, ?_⟩) | (go_at_call 13; (with_reducible refine (quaysideref12_Right.calls a1 true _ A5.out).mono ?_); rintro e w' ⟨rfl, ⟨nd, rfl⟩⟩) | ((with_reducible refine gate_dst (N := 14) rfl ?_); refine Kd.R_lit Kd.string _ 9 ?hg (N := 14) ?hd (xs := ([(⟨#[121, 121, 121, 121, 110]⟩ : ByteArray), (⟨#[121, 121, 110, 110, 110]⟩ : ByteArray), (⟨#[121, 110, 121, 110, 110]⟩ : ByteArray), (⟨#[121, 110, 110, 110, 110]⟩ : ByteArray), (⟨#[110, 110, 110, 110, 110]⟩ : ByteArray)] : List ByteArray)) (inner := [.string (⟨#[121, 121, 121, 121, 110]⟩ : ByteArray), .string (⟨#[121, 121, 110, 110, 110]⟩ : ByteArray), .string (⟨#[121, 110, 121, 110, 110]⟩ : ByteArray), .string (⟨#[121, 110, 110, 110, 110]⟩ : ByteArray), .string (⟨#[110, 110, 110, 110, 110]⟩ : ByteArray)]) (ok := fun _ => True) (okp := fun _ => True) ?hr ?hp (fun _ hk => hk) trivial (Below.refl _ _) (Nat.le_refl _) (by simp) ?_; (case hd => rfl); (case hg => rfl); (case hr => first | (go_simp; done) | (go_simp; rfl)); (case hp => exact (Reps.one (show Kd.M Kd.string _ _ _ (⟨#[121, 121, 121, 121, 110]⟩ : ByteArray) [.string (⟨#[121, 121, 121, 121, 110]⟩ : ByteArray)] from rfl) (Reps.one (show Kd.M Kd.string _ _ _ (⟨#[121, 121, 110, 110, 110]⟩ : ByteArray) [.string (⟨#[121, 121, 110, 110, 110]⟩ : ByteArray)] from rfl) (Reps.one (show Kd.M Kd.string _ _ _ (⟨#[121, 110, 121, 110, 110]⟩ : ByteArray) [.string (⟨#[121, 110, 121, 110, 110]⟩ : ByteArray)] from rfl) (Reps.one (show Kd.M Kd.string _ _ _ (⟨#[121, 110, 110, 110, 110]⟩ : ByteArray) [.string (⟨#[121, 110, 110, 110, 110]⟩ : ByteArray)] from rfl) (Reps.one (show Kd.M Kd.string _ _ _ (⟨#[110, 110, 110, 110, 110]⟩ : ByteArray) [.string (⟨#[110, 110, 110, 110, 110]⟩ : ByteArray)] from rfl) (Reps.none _ _))))))); intro v114 w14 ho15 hb hg_ hnew_; clear hg_ hnew_; (first | rw [← Ny113.out] at ho15 | (simp only [Int.reduceToNat] at ho15; rw [← Ny113.out] at ho15)); have n0_ := Aside0.mk (Kd.R_lower ho15 (below_size (by repeat (first | (with_reducible first | exact HB.out | apply below_alloc | apply pw_below_drewN | apply below_drew1) | exact HB.out)))); have n1_ := Aside0.mk (below_step (by repeat (first | (with_reducible first | exact HB.out | apply below_alloc | apply pw_below_drewN | apply below_drew1) | exact HB.out)) hb); clear HB; have HO115 := n0_; have HB := n1_; clear n0_ n1_; clear hb ho15; obtain ⟨Ao16, co16, eo16⟩ := Kd.R_slice HO115.out; subst eo16; have p116 : 0 ≤ ((ji7) : Int) := of_decide_eq_true (by first | (with_reducible assumption) | assumption); have q116 : (ji7) < (y113.length : Int) := of_decide_eq_true (by first | (with_reducible assumption) | assumption); obtain ⟨ad116, e116, hx116_0⟩ := Kd.at_string (Kd.R_reads' HO115.out).2.2 (ji7) p116 q116; cases e116; replace p116 := eq_true p116; replace q116 := eq_true q116; have p13 : 0 ≤ ((ji10) : Int) := of_decide_eq_true (by first | (with_reducible assumption) | assumption); have q13 : (ji10) < ((rdOf ByteArray.empty y113 (ji7)).size : Int) := of_decide_eq_true (by first | (with_reducible assumption) | assumption); have hx13 := bt_at (rdOf ByteArray.empty y113 (ji7)) (ji10); replace p13 := eq_true p13; replace q13 := eq_true q13))
              go_ret
              exact ⟨by first | rfl | (simp [errW_none, errW_some] <;> rfl) | (simp only [← hji7, ← hji10]; first | rfl | (simp [errW_none, errW_some] <;> rfl)) | (simp [*, errW_none, errW_some] <;> rfl), by repeat (first | (with_reducible first | exact HB.out | apply below_alloc | apply pw_below_drewN | apply below_drew1) | exact HB.out)⟩
            · rw [if_neg c12] at H
              exact absurd H (by simp)
          · rw [if_neg c11] at H
            exact absurd H (by simp)
        · rw [if_neg c9] at H
          exact absurd H (by simp)
      · rw [if_neg c8] at H
        exact absurd H (by simp)
    · replace c6 := Bool.eq_false_iff.mpr c6
      subst c6
      have H1 : (some false) = some r := by rw [if_neg (show ¬ (false = true) by decide)] at H; exact H
      clear H
      have H := H1
      clear H1
      obtain rfl := Option.some.inj H
      go_enter Try.func14, Try.ntmps14
      go_wp2_with (first | ((with_reducible refine gate_callee (f := 13) rfl ?_); refine goesL_ (some 7) rfl rfl Try.func13 (by kernel_rfl) rfl #[.int .i64 a0] rfl (by (try simp only [List.map_toArray, List.map_cons, List.map_nil]); first | done | rfl | (simp only [List.length_drop, List.length_take]; rfl)) ?_; (with_reducible refine (quaysideref12_Right.calls a0 true _ A3.out).mono ?_); rintro e w' ⟨rfl, ⟨nd, rfl⟩⟩; refine ⟨_, rfl, ?_⟩) | (go_at_call 13; (with_reducible refine (quaysideref12_Right.calls a1 false _ A5.out).mono ?_); rintro e w' ⟨rfl, ⟨nd, rfl⟩⟩))
      go_ret
      exact ⟨by first | rfl | (simp [errW_none, errW_some] <;> rfl) | (simp [*, errW_none, errW_some] <;> rfl), by repeat (first | (with_reducible first | exact HB.out | apply below_alloc | apply pw_below_drewN | apply below_drew1) | exact HB.out)⟩
  · replace c4 := Bool.eq_false_iff.mpr c4
    subst c4
    have H1 : (some false) = some r := by rw [if_neg (show ¬ (false = true) by decide)] at H; exact H
    clear H
    have H := H1
    clear H1
    obtain rfl := Option.some.inj H
    go_enter Try.func14, Try.ntmps14
    go_wp2_with (first | ((with_reducible refine gate_callee (f := 13) rfl ?_); refine goesL_ (some 7) rfl rfl Try.func13 (by kernel_rfl) rfl #[.int .i64 a0] rfl (by (try simp only [List.map_toArray, List.map_cons, List.map_nil]); first | done | rfl | (simp only [List.length_drop, List.length_take]; rfl)) ?_; (with_reducible refine (quaysideref12_Right.calls a0 false _ A3.out).mono ?_); rintro e w' ⟨rfl, ⟨nd, rfl⟩⟩; refine ⟨_, rfl, ?_⟩))
    go_ret
    exact ⟨by first | rfl | (simp [errW_none, errW_some] <;> rfl) | (simp [*, errW_none, errW_some] <;> rfl), by repeat (first | (with_reducible first | exact HB.out | apply below_alloc | apply pw_below_drewN | apply below_drew1) | exact HB.out)⟩

/-! ### quaysideref12_Covers: function 15 -/
def quaysideref12_Covers.f (a0 : Int) (a1 : Int) : Option (Bool) := (quaysideref12_Right.f a0).bind fun t117 => (if t117 = true then ((quaysideref12_Right.f a1).bind fun t118 => (if t118 = true then (if a0 = a1 then (some true) else (if a1 = 1 then (some true) else (if a0 = 5 then (some true) else (if a0 = 4 then (if a1 = 2 then (some true) else (some (a1 == 3))) else (some false))))) else (some false))) else (some false))
set_option maxHeartbeats 8000000 in
set_option maxRecDepth 100000 in
theorem quaysideref12_Covers.calls (a0 : Int) (a1 : Int) (r : Bool) (w : World) (h : quaysideref12_Covers.f a0 a1 = some r) :
    Calls Try.prog 15 #[.int .i64 a0, .int .i64 a1] w fun e w' => e = .returned (.bool r) ∧ Drawn0 w w' := by
  have H : ((quaysideref12_Right.f a0).bind fun t117 => (if t117 = true then ((quaysideref12_Right.f a1).bind fun t118 => (if t118 = true then (if a0 = a1 then (some true) else (if a1 = 1 then (some true) else (if a0 = 5 then (some true) else (if a0 = 4 then (if a1 = 2 then (some true) else (some (a1 == 3))) else (some false))))) else (some false))) else (some false))) = some r := h
  clear h
  replace H := Option.bind_eq_some_iff.mp H
  obtain ⟨t117, A30, H⟩ := H
  replace H : (if t117 = true then ((quaysideref12_Right.f a1).bind fun t118 => (if t118 = true then (if a0 = a1 then (some true) else (if a1 = 1 then (some true) else (if a0 = 5 then (some true) else (if a0 = 4 then (if a1 = 2 then (some true) else (some (a1 == 3))) else (some false))))) else (some false))) else (some false)) = some r := H
  have A3 := Aside0.mk A30
  clear A30
  by_cases c4 : t117 = true
  · subst c4
    have H1 : ((quaysideref12_Right.f a1).bind fun t118 => (if t118 = true then (if a0 = a1 then (some true) else (if a1 = 1 then (some true) else (if a0 = 5 then (some true) else (if a0 = 4 then (if a1 = 2 then (some true) else (some (a1 == 3))) else (some false))))) else (some false))) = some r := by rw [if_pos rfl] at H; exact H
    clear H
    have H := H1
    clear H1
    replace H := Option.bind_eq_some_iff.mp H
    obtain ⟨t118, A50, H⟩ := H
    replace H : (if t118 = true then (if a0 = a1 then (some true) else (if a1 = 1 then (some true) else (if a0 = 5 then (some true) else (if a0 = 4 then (if a1 = 2 then (some true) else (some (a1 == 3))) else (some false))))) else (some false)) = some r := H
    have A5 := Aside0.mk A50
    clear A50
    by_cases c6 : t118 = true
    · subst c6
      have H1 : (if a0 = a1 then (some true) else (if a1 = 1 then (some true) else (if a0 = 5 then (some true) else (if a0 = 4 then (if a1 = 2 then (some true) else (some (a1 == 3))) else (some false))))) = some r := by rw [if_pos rfl] at H; exact H
      clear H
      have H := H1
      clear H1
      by_cases c7 : a0 = a1
      · rw [if_pos c7] at H
        have c7b0 : (a0 == a1) = true := beq_iff_eq.mpr c7
        have c7b1 : (a0 != a1) = false := bne_eq_false_iff_eq.mpr c7
        clear c7
        obtain rfl := Option.some.inj H
        go_enter Try.func15, Try.ntmps15
        go_wp2_with (first | ((with_reducible refine gate_callee (f := 13) rfl ?_); refine goesL_ (some 6) rfl rfl Try.func13 (by kernel_rfl) rfl #[.int .i64 a0] rfl (by (try simp only [List.map_toArray, List.map_cons, List.map_nil]); first | done | rfl | (simp only [List.length_drop, List.length_take]; rfl)) ?_; (with_reducible refine (quaysideref12_Right.calls a0 true _ A3.out).mono ?_); rintro e w' ⟨rfl, ⟨nd, rfl⟩⟩; refine ⟨_, rfl, ?_⟩) | (go_at_call 13; (with_reducible refine (quaysideref12_Right.calls a1 true _ A5.out).mono ?_); rintro e w' ⟨rfl, ⟨nd, rfl⟩⟩))
        go_ret
        exact ⟨by first | rfl | (simp; done) | (simp [*]; done), by repeat (first | exact Drawn0.refl _ | apply Drawn0.step)⟩
      · rw [if_neg c7] at H
        have c7b0 : (a0 == a1) = false := beq_eq_false_iff_ne.mpr c7
        have c7b1 : (a0 != a1) = true := bne_iff_ne.mpr c7
        by_cases c8 : a1 = 1
        · rw [if_pos c8] at H
          have c8b0 : (a1 == 1) = true := beq_iff_eq.mpr c8
          have c8b1 : (a1 != 1) = false := bne_eq_false_iff_eq.mpr c8
          clear c8
          obtain rfl := Option.some.inj H
          go_enter Try.func15, Try.ntmps15
          go_wp2_with (first | ((with_reducible refine gate_callee (f := 13) rfl ?_); refine goesL_ (some 6) rfl rfl Try.func13 (by kernel_rfl) rfl #[.int .i64 a0] rfl (by (try simp only [List.map_toArray, List.map_cons, List.map_nil]); first | done | rfl | (simp only [List.length_drop, List.length_take]; rfl)) ?_; (with_reducible refine (quaysideref12_Right.calls a0 true _ A3.out).mono ?_); rintro e w' ⟨rfl, ⟨nd, rfl⟩⟩; refine ⟨_, rfl, ?_⟩) | (go_at_call 13; (with_reducible refine (quaysideref12_Right.calls a1 true _ A5.out).mono ?_); rintro e w' ⟨rfl, ⟨nd, rfl⟩⟩))
          go_ret
          exact ⟨by first | rfl | (simp; done) | (simp [*]; done), by repeat (first | exact Drawn0.refl _ | apply Drawn0.step)⟩
        · rw [if_neg c8] at H
          have c8b0 : (a1 == 1) = false := beq_eq_false_iff_ne.mpr c8
          have c8b1 : (a1 != 1) = true := bne_iff_ne.mpr c8
          by_cases c9 : a0 = 5
          · rw [if_pos c9] at H
            have c9b0 : (a0 == 5) = true := beq_iff_eq.mpr c9
            have c9b1 : (a0 != 5) = false := bne_eq_false_iff_eq.mpr c9
            clear c9
            obtain rfl := Option.some.inj H
            go_enter Try.func15, Try.ntmps15
            go_wp2_with (first | ((with_reducible refine gate_callee (f := 13) rfl ?_); refine goesL_ (some 6) rfl rfl Try.func13 (by kernel_rfl) rfl #[.int .i64 a0] rfl (by (try simp only [List.map_toArray, List.map_cons, List.map_nil]); first | done | rfl | (simp only [List.length_drop, List.length_take]; rfl)) ?_; (with_reducible refine (quaysideref12_Right.calls a0 true _ A3.out).mono ?_); rintro e w' ⟨rfl, ⟨nd, rfl⟩⟩; refine ⟨_, rfl, ?_⟩) | (go_at_call 13; (with_reducible refine (quaysideref12_Right.calls a1 true _ A5.out).mono ?_); rintro e w' ⟨rfl, ⟨nd, rfl⟩⟩))
            go_ret
            exact ⟨by first | rfl | (simp; done) | (simp [*]; done), by repeat (first | exact Drawn0.refl _ | apply Drawn0.step)⟩
          · rw [if_neg c9] at H
            have c9b0 : (a0 == 5) = false := beq_eq_false_iff_ne.mpr c9
            have c9b1 : (a0 != 5) = true := bne_iff_ne.mpr c9
            by_cases c10 : a0 = 4
            · rw [if_pos c10] at H
              have c10b0 : (a0 == 4) = true := beq_iff_eq.mpr c10
              have c10b1 : (a0 != 4) = false := bne_eq_false_iff_eq.mpr c10
              clear c10
              by_cases c11 : a1 = 2
              · rw [if_pos c11] at H
                have c11b0 : (a1 == 2) = true := beq_iff_eq.mpr c11
                have c11b1 : (a1 != 2) = false := bne_eq_false_iff_eq.mpr c11
                clear c11
                obtain rfl := Option.some.inj H
                go_enter Try.func15, Try.ntmps15
                go_wp2_with (first | ((with_reducible refine gate_callee (f := 13) rfl ?_); refine goesL_ (some 6) rfl rfl Try.func13 (by kernel_rfl) rfl #[.int .i64 a0] rfl (by (try simp only [List.map_toArray, List.map_cons, List.map_nil]); first | done | rfl | (simp only [List.length_drop, List.length_take]; rfl)) ?_; (with_reducible refine (quaysideref12_Right.calls a0 true _ A3.out).mono ?_); rintro e w' ⟨rfl, ⟨nd, rfl⟩⟩; refine ⟨_, rfl, ?_⟩) | (go_at_call 13; (with_reducible refine (quaysideref12_Right.calls a1 true _ A5.out).mono ?_); rintro e w' ⟨rfl, ⟨nd, rfl⟩⟩))
                go_ret
                exact ⟨by first | rfl | (simp; done) | (simp [*]; done), by repeat (first | exact Drawn0.refl _ | apply Drawn0.step)⟩
              · rw [if_neg c11] at H
                have c11b0 : (a1 == 2) = false := beq_eq_false_iff_ne.mpr c11
                have c11b1 : (a1 != 2) = true := bne_iff_ne.mpr c11
                obtain rfl := Option.some.inj H
                go_enter Try.func15, Try.ntmps15
                go_wp2_with (first | ((with_reducible refine gate_callee (f := 13) rfl ?_); refine goesL_ (some 6) rfl rfl Try.func13 (by kernel_rfl) rfl #[.int .i64 a0] rfl (by (try simp only [List.map_toArray, List.map_cons, List.map_nil]); first | done | rfl | (simp only [List.length_drop, List.length_take]; rfl)) ?_; (with_reducible refine (quaysideref12_Right.calls a0 true _ A3.out).mono ?_); rintro e w' ⟨rfl, ⟨nd, rfl⟩⟩; refine ⟨_, rfl, ?_⟩) | (go_at_call 13; (with_reducible refine (quaysideref12_Right.calls a1 true _ A5.out).mono ?_); rintro e w' ⟨rfl, ⟨nd, rfl⟩⟩))
                go_ret
                exact ⟨by first | rfl | (simp; done) | (simp [*]; done), by repeat (first | exact Drawn0.refl _ | apply Drawn0.step)⟩
            · rw [if_neg c10] at H
              have c10b0 : (a0 == 4) = false := beq_eq_false_iff_ne.mpr c10
              have c10b1 : (a0 != 4) = true := bne_iff_ne.mpr c10
              obtain rfl := Option.some.inj H
              go_enter Try.func15, Try.ntmps15
              go_wp2_with (first | ((with_reducible refine gate_callee (f := 13) rfl ?_); refine goesL_ (some 6) rfl rfl Try.func13 (by kernel_rfl) rfl #[.int .i64 a0] rfl (by (try simp only [List.map_toArray, List.map_cons, List.map_nil]); first | done | rfl | (simp only [List.length_drop, List.length_take]; rfl)) ?_; (with_reducible refine (quaysideref12_Right.calls a0 true _ A3.out).mono ?_); rintro e w' ⟨rfl, ⟨nd, rfl⟩⟩; refine ⟨_, rfl, ?_⟩) | (go_at_call 13; (with_reducible refine (quaysideref12_Right.calls a1 true _ A5.out).mono ?_); rintro e w' ⟨rfl, ⟨nd, rfl⟩⟩))
              go_ret
              exact ⟨by first | rfl | (simp; done) | (simp [*]; done), by repeat (first | exact Drawn0.refl _ | apply Drawn0.step)⟩
    · replace c6 := Bool.eq_false_iff.mpr c6
      subst c6
      have H1 : (some false) = some r := by rw [if_neg (show ¬ (false = true) by decide)] at H; exact H
      clear H
      have H := H1
      clear H1
      obtain rfl := Option.some.inj H
      go_enter Try.func15, Try.ntmps15
      go_wp2_with (first | ((with_reducible refine gate_callee (f := 13) rfl ?_); refine goesL_ (some 6) rfl rfl Try.func13 (by kernel_rfl) rfl #[.int .i64 a0] rfl (by (try simp only [List.map_toArray, List.map_cons, List.map_nil]); first | done | rfl | (simp only [List.length_drop, List.length_take]; rfl)) ?_; (with_reducible refine (quaysideref12_Right.calls a0 true _ A3.out).mono ?_); rintro e w' ⟨rfl, ⟨nd, rfl⟩⟩; refine ⟨_, rfl, ?_⟩) | (go_at_call 13; (with_reducible refine (quaysideref12_Right.calls a1 false _ A5.out).mono ?_); rintro e w' ⟨rfl, ⟨nd, rfl⟩⟩))
      go_ret
      exact ⟨by first | rfl | (simp; done) | (simp [*]; done), by repeat (first | exact Drawn0.refl _ | apply Drawn0.step)⟩
  · replace c4 := Bool.eq_false_iff.mpr c4
    subst c4
    have H1 : (some false) = some r := by rw [if_neg (show ¬ (false = true) by decide)] at H; exact H
    clear H
    have H := H1
    clear H1
    obtain rfl := Option.some.inj H
    go_enter Try.func15, Try.ntmps15
    go_wp2_with (first | ((with_reducible refine gate_callee (f := 13) rfl ?_); refine goesL_ (some 6) rfl rfl Try.func13 (by kernel_rfl) rfl #[.int .i64 a0] rfl (by (try simp only [List.map_toArray, List.map_cons, List.map_nil]); first | done | rfl | (simp only [List.length_drop, List.length_take]; rfl)) ?_; (with_reducible refine (quaysideref12_Right.calls a0 false _ A3.out).mono ?_); rintro e w' ⟨rfl, ⟨nd, rfl⟩⟩; refine ⟨_, rfl, ?_⟩))
    go_ret
    exact ⟨by first | rfl | (simp; done) | (simp [*]; done), by repeat (first | exact Drawn0.refl _ | apply Drawn0.step)⟩

end Go.Proofs.Ytglkbjpcpfbmnaa.PModeTables
