-- PRINTED BY print.sh 35421559b90ae4d0a3588c463048766b98c2df88dd9212a6774a882060cdf62d: not written by this session
import Derived.Test.YtglkbjpcpfbmnaaPModeAroundx0
import Derived.Test.YtglkbjpcpfbmnaaPModeAroundx1
namespace Go.Proofs.Ytglkbjpcpfbmnaa.PModeAround
open Go.RowKit Go.Proofs.YtglkbjpcpfbmnaaW.PrintWords Go.Proofs.YtglkbjpcpfbmnaaW.PrintLast Go.Proofs.YtglkbjpcpfbmnaaW.PrintMore
attribute [local go_sem] max2_int min2_int max_two min_two max_three min_three max_four min_four   -- for this text's walks alone
set_option linter.unusedVariables false
set_option linter.unusedSimpArgs false

/-! ### quaysidelaw12_ModeAround: function 7 -/
def quaysidelaw12_ModeAround.j0 : Nat → Int → Bool → Option (Bool)
  | 0, _, _ => none
  | k + 1, x5, x21 => if x21 = true then (some false) else ((mode_Fits.f k 5 x5).bind fun t116 => (if t116 = true then (some false) else ((mode_Mode_Right.f x5).bind fun t117 => (if t117 = true then ((mode_Around.f k 1).bind fun t118 => ((mode_Covers.f k x5 t118).bind fun t119 => (if t119 = true then ((mode_Covers.f k 5 x5).bind fun t120 => (some t120)) else (some false)))) else (some true)))))
def quaysidelaw12_ModeAround.f (k : Nat) (a0 : Int) (a1 : Int) : Option (Bool) := (quaysidelaw12_awake.f k).bind fun t111 => (if t111 = true then ((mode_Fits.f k a0 a1).bind fun t112 => (if t112 = true then ((mode_Around.f k a0).bind fun t113 => ((mode_Around.f k a1).bind fun t114 => ((mode_Fits.f k t113 t114).bind fun t115 => (quaysidelaw12_ModeAround.j0 k a0 (!t115))))) else (quaysidelaw12_ModeAround.j0 k a0 false))) else (some false))
theorem quaysidelaw12_ModeAround.mono_l : ∀ k, (∀ y0 y1, LeO (quaysidelaw12_ModeAround.j0 k y0 y1) (quaysidelaw12_ModeAround.j0 (k + 1) y0 y1))
  | 0 => fun _ _ r h => by simp [quaysidelaw12_ModeAround.j0] at h
  | k + 1 => by
    have ih0 := quaysidelaw12_ModeAround.mono_l k
    · intro y0 y1
      unfold quaysidelaw12_ModeAround.j0
      repeat' first
      | (with_reducible exact ih0 _ _)
      | (with_reducible exact mode_Around.mono _ _)
      | (with_reducible exact mode_Covers.mono _ _ _)
      | (with_reducible exact mode_Fits.mono _ _ _)
      | (with_reducible exact quaysidelaw12_awake.mono _)
      | (with_reducible exact LeO.refl _)
      | (with_reducible exact LeO.none _)
      | (with_reducible refine LeO.ite ?_ ?_)
      | (with_reducible refine LeO.bind ?_ (fun _ => ?_))
      | exact ih0 _ _
      | exact mode_Around.mono _ _
      | exact mode_Covers.mono _ _ _
      | exact mode_Fits.mono _ _ _
      | exact quaysidelaw12_awake.mono _
      | exact LeO.none _
      | refine LeO.ite ?_ ?_
      | refine LeO.bind ?_ (fun _ => ?_)
theorem quaysidelaw12_ModeAround.mono : ∀ a0 a1 k, LeO (quaysidelaw12_ModeAround.f k a0 a1) (quaysidelaw12_ModeAround.f (k + 1) a0 a1) := by
  intro a0 a1 k
  have ih0 := quaysidelaw12_ModeAround.mono_l k
  unfold quaysidelaw12_ModeAround.f
  repeat' first
      | (with_reducible exact ih0 _ _)
      | (with_reducible exact mode_Around.mono _ _)
      | (with_reducible exact mode_Covers.mono _ _ _)
      | (with_reducible exact mode_Fits.mono _ _ _)
      | (with_reducible exact quaysidelaw12_awake.mono _)
      | (with_reducible exact LeO.refl _)
      | (with_reducible exact LeO.none _)
      | (with_reducible refine LeO.ite ?_ ?_)
      | (with_reducible refine LeO.bind ?_ (fun _ => ?_))
      | exact ih0 _ _
      | exact mode_Around.mono _ _
      | exact mode_Covers.mono _ _ _
      | exact mode_Fits.mono _ _ _
      | exact quaysidelaw12_awake.mono _
      | exact LeO.none _
      | refine LeO.ite ?_ ?_
      | refine LeO.bind ?_ (fun _ => ?_)
set_option maxHeartbeats 8000000 in
set_option maxRecDepth 100000 in
theorem quaysidelaw12_ModeAround.calls (k : Nat) (a0 : Int) (a1 : Int) (r : Bool) (w : World) (h : quaysidelaw12_ModeAround.f k a0 a1 = some r) :
    Calls Try.prog 7 #[.int .i64 a0, .int .i64 a1] w fun e w' => e = .returned (.bool r) ∧ Drawn0 w w' := by
  have H : ((quaysidelaw12_awake.f k).bind fun t111 => (if t111 = true then ((mode_Fits.f k a0 a1).bind fun t112 => (if t112 = true then ((mode_Around.f k a0).bind fun t113 => ((mode_Around.f k a1).bind fun t114 => ((mode_Fits.f k t113 t114).bind fun t115 => (quaysidelaw12_ModeAround.j0 k a0 (!t115))))) else (quaysidelaw12_ModeAround.j0 k a0 false))) else (some false))) = some r := h
  clear h
  replace H := Option.bind_eq_some_iff.mp H
  obtain ⟨t111, A30, H⟩ := H
  replace H : (if t111 = true then ((mode_Fits.f k a0 a1).bind fun t112 => (if t112 = true then ((mode_Around.f k a0).bind fun t113 => ((mode_Around.f k a1).bind fun t114 => ((mode_Fits.f k t113 t114).bind fun t115 => (quaysidelaw12_ModeAround.j0 k a0 (!t115))))) else (quaysidelaw12_ModeAround.j0 k a0 false))) else (some false)) = some r := H
  have A3 := Aside0.mk A30
  clear A30
  by_cases c4 : t111 = true
  · subst c4
    have H1 : ((mode_Fits.f k a0 a1).bind fun t112 => (if t112 = true then ((mode_Around.f k a0).bind fun t113 => ((mode_Around.f k a1).bind fun t114 => ((mode_Fits.f k t113 t114).bind fun t115 => (quaysidelaw12_ModeAround.j0 k a0 (!t115))))) else (quaysidelaw12_ModeAround.j0 k a0 false))) = some r := by rw [if_pos rfl] at H; exact H
    clear H
    have H := H1
    clear H1
    have HC5 := Aside0.mk H
    clear H
    go_enter Try.func7, Try.ntmps7
    go_upto_region 4 with (first | ((with_reducible refine gate_callee (f := 8) rfl ?_); refine goesL_ (some 7) rfl rfl Try.func8 (by kernel_rfl) rfl #[] rfl (by (try simp only [List.map_toArray, List.map_cons, List.map_nil]); first | done | rfl | (simp only [List.length_drop, List.length_take]; rfl)) ?_; (with_reducible refine (quaysidelaw12_awake.calls k  true _ A3.out).mono ?_); rintro e w' ⟨rfl, ⟨nd, rfl⟩⟩; refine ⟨_, rfl, ?_⟩))
    (try simp only [Act.put, List.setIfInBounds_toArray, List.set_cons_zero, List.set_cons_succ])
    go_cut [21] (fun v21 wc => ∃ (kq : Nat) (x21_4 : Bool), v21 = .bool x21_4 ∧ Aside0 (quaysidelaw12_ModeAround.j0 kq a0 x21_4 = some r) ∧ Aside0 (kq ≤ k) ∧ Drawn0 w wc)
    case first =>
      have H := HC5.out
      clear HC5
      replace H := Option.bind_eq_some_iff.mp H
      obtain ⟨t112, A60, H⟩ := H
      replace H : (if t112 = true then ((mode_Around.f k a0).bind fun t113 => ((mode_Around.f k a1).bind fun t114 => ((mode_Fits.f k t113 t114).bind fun t115 => (quaysidelaw12_ModeAround.j0 k a0 (!t115))))) else (quaysidelaw12_ModeAround.j0 k a0 false)) = some r := H
      have A6 := Aside0.mk A60
      clear A60
      by_cases c7 : t112 = true
      · subst c7
        have H1 : ((mode_Around.f k a0).bind fun t113 => ((mode_Around.f k a1).bind fun t114 => ((mode_Fits.f k t113 t114).bind fun t115 => (quaysidelaw12_ModeAround.j0 k a0 (!t115))))) = some r := by rw [if_pos rfl] at H; exact H
        clear H
        have H := H1
        clear H1
        replace H := Option.bind_eq_some_iff.mp H
        obtain ⟨t113, A80, H⟩ := H
        replace H : ((mode_Around.f k a1).bind fun t114 => ((mode_Fits.f k t113 t114).bind fun t115 => (quaysidelaw12_ModeAround.j0 k a0 (!t115)))) = some r := H
        have A8 := Aside0.mk A80
        clear A80
        replace H := Option.bind_eq_some_iff.mp H
        obtain ⟨t114, A90, H⟩ := H
        replace H : ((mode_Fits.f k t113 t114).bind fun t115 => (quaysidelaw12_ModeAround.j0 k a0 (!t115))) = some r := H
        have A9 := Aside0.mk A90
        clear A90
        replace H := Option.bind_eq_some_iff.mp H
        obtain ⟨t115, A100, H⟩ := H
        replace H : (quaysidelaw12_ModeAround.j0 k a0 (!t115)) = some r := H
        have A10 := Aside0.mk A100
        clear A100
        have H' := Aside0.mk H
        clear H
        go_wp2_with (first | ((with_reducible refine gate_callee (f := 12) rfl ?_); refine goesL_ (some 13) rfl rfl Try.func12 (by kernel_rfl) rfl #[.int .i64 a0, .int .i64 a1] rfl (by (try simp only [List.map_toArray, List.map_cons, List.map_nil]); first | done | rfl | (simp only [List.length_drop, List.length_take]; rfl)) ?_; (with_reducible refine (mode_Fits.calls k a0 a1 true _ A6.out).mono ?_); rintro e w' ⟨rfl, ⟨nd, rfl⟩⟩; refine ⟨_, rfl, ?_⟩) | (go_at_call 17; (with_reducible refine (mode_Around.calls k a0 t113 _ A8.out).mono ?_); rintro e w' ⟨rfl, ⟨nd, rfl⟩⟩) | (go_at_call 17; (with_reducible refine (mode_Around.calls k a1 t114 _ A9.out).mono ?_); rintro e w' ⟨rfl, ⟨nd, rfl⟩⟩) | (go_at_call 12; (with_reducible refine (mode_Fits.calls k t113 t114 t115 _ A10.out).mono ?_); rintro e w' ⟨rfl, ⟨nd, rfl⟩⟩))
        go_meet
        case rel => exact ⟨_, (!t115), (by first | rfl | (simp; done) | (simp [*]; done)), H', ⟨by first | omega | exact Nat.le_refl _⟩, by repeat (first | exact Drawn0.refl _ | apply Drawn0.step)⟩
      · replace c7 := Bool.eq_false_iff.mpr c7
        subst c7
        have H1 : (quaysidelaw12_ModeAround.j0 k a0 false) = some r := by rw [if_neg (show ¬ (false = true) by decide)] at H; exact H
        clear H
        have H := H1
        clear H1
        have H' := Aside0.mk H
        clear H
        go_wp2_with (first | ((with_reducible refine gate_callee (f := 12) rfl ?_); refine goesL_ (some 13) rfl rfl Try.func12 (by kernel_rfl) rfl #[.int .i64 a0, .int .i64 a1] rfl (by (try simp only [List.map_toArray, List.map_cons, List.map_nil]); first | done | rfl | (simp only [List.length_drop, List.length_take]; rfl)) ?_; (with_reducible refine (mode_Fits.calls k a0 a1 false _ A6.out).mono ?_); rintro e w' ⟨rfl, ⟨nd, rfl⟩⟩; refine ⟨_, rfl, ?_⟩))
        go_meet
        case rel => exact ⟨_, (false), (by first | rfl | (simp; done) | (simp [*]; done)), H', ⟨by first | omega | exact Nat.le_refl _⟩, by repeat (first | exact Drawn0.refl _ | apply Drawn0.step)⟩
    case rest =>
      clear HC5
      try clear c1
      try clear p2
      try clear c4
      try clear c7
      try clear c8
      obtain ⟨kq, x21_4, rfl, HA, HJ4, ⟨mc4, rfl⟩⟩ := hcut
      cases kq with
      | zero => exact absurd HA.out (by simp [quaysidelaw12_ModeAround.j0])
      | succ kj4 =>
        have H := HA.out
        clear HA
        simp only [quaysidelaw12_ModeAround.j0] at H
        by_cases c11 : x21_4 = true
        · subst c11
          have H1 : (some false) = some r := by rw [if_pos rfl] at H; exact H
          clear H
          have H := H1
          clear H1
          obtain rfl := Option.some.inj H
          go_wp2
          go_ret
          exact ⟨by first | rfl | (simp; done) | (simp [*]; done), by repeat (first | exact Drawn0.refl _ | apply Drawn0.step)⟩
        · replace c11 := Bool.eq_false_iff.mpr c11
          subst c11
          have H1 : ((mode_Fits.f kj4 5 a0).bind fun t116 => (if t116 = true then (some false) else ((mode_Mode_Right.f a0).bind fun t117 => (if t117 = true then ((mode_Around.f kj4 1).bind fun t118 => ((mode_Covers.f kj4 a0 t118).bind fun t119 => (if t119 = true then ((mode_Covers.f kj4 5 a0).bind fun t120 => (some t120)) else (some false)))) else (some true))))) = some r := by rw [if_neg (show ¬ (false = true) by decide)] at H; exact H
          clear H
          have H := H1
          clear H1
          replace H := Option.bind_eq_some_iff.mp H
          obtain ⟨t116, A120, H⟩ := H
          replace H : (if t116 = true then (some false) else ((mode_Mode_Right.f a0).bind fun t117 => (if t117 = true then ((mode_Around.f kj4 1).bind fun t118 => ((mode_Covers.f kj4 a0 t118).bind fun t119 => (if t119 = true then ((mode_Covers.f kj4 5 a0).bind fun t120 => (some t120)) else (some false)))) else (some true)))) = some r := H
          have A12 := Aside0.mk A120
          clear A120
          by_cases c13 : t116 = true
          · subst c13
            have H1 : (some false) = some r := by rw [if_pos rfl] at H; exact H
            clear H
            have H := H1
            clear H1
            obtain rfl := Option.some.inj H
            go_wp2_with (first | ((with_reducible refine gate_callee (f := 12) rfl ?_); refine goesL_ (some 23) rfl rfl Try.func12 (by kernel_rfl) rfl #[.int .i64 5, .int .i64 a0] rfl (by (try simp only [List.map_toArray, List.map_cons, List.map_nil]); first | done | rfl | (simp only [List.length_drop, List.length_take]; rfl)) ?_; (with_reducible refine (mode_Fits.calls kj4 5 a0 true _ A12.out).mono ?_); rintro e w' ⟨rfl, ⟨nd, rfl⟩⟩; refine ⟨_, rfl, ?_⟩))
            go_ret
            exact ⟨by first | rfl | (simp; done) | (simp [*]; done), by repeat (first | exact Drawn0.refl _ | apply Drawn0.step)⟩
          · replace c13 := Bool.eq_false_iff.mpr c13
            subst c13
            have H1 : ((mode_Mode_Right.f a0).bind fun t117 => (if t117 = true then ((mode_Around.f kj4 1).bind fun t118 => ((mode_Covers.f kj4 a0 t118).bind fun t119 => (if t119 = true then ((mode_Covers.f kj4 5 a0).bind fun t120 => (some t120)) else (some false)))) else (some true))) = some r := by rw [if_neg (show ¬ (false = true) by decide)] at H; exact H
            clear H
            have H := H1
            clear H1
            replace H := Option.bind_eq_some_iff.mp H
            obtain ⟨t117, A140, H⟩ := H
            replace H : (if t117 = true then ((mode_Around.f kj4 1).bind fun t118 => ((mode_Covers.f kj4 a0 t118).bind fun t119 => (if t119 = true then ((mode_Covers.f kj4 5 a0).bind fun t120 => (some t120)) else (some false)))) else (some true)) = some r := H
            have A14 := Aside0.mk A140
            clear A140
            by_cases c15 : t117 = true
            · subst c15
              have H1 : ((mode_Around.f kj4 1).bind fun t118 => ((mode_Covers.f kj4 a0 t118).bind fun t119 => (if t119 = true then ((mode_Covers.f kj4 5 a0).bind fun t120 => (some t120)) else (some false)))) = some r := by rw [if_pos rfl] at H; exact H
              clear H
              have H := H1
              clear H1
              replace H := Option.bind_eq_some_iff.mp H
              obtain ⟨t118, A160, H⟩ := H
              replace H : ((mode_Covers.f kj4 a0 t118).bind fun t119 => (if t119 = true then ((mode_Covers.f kj4 5 a0).bind fun t120 => (some t120)) else (some false))) = some r := H
              have A16 := Aside0.mk A160
              clear A160
              replace H := Option.bind_eq_some_iff.mp H
              obtain ⟨t119, A170, H⟩ := H
              replace H : (if t119 = true then ((mode_Covers.f kj4 5 a0).bind fun t120 => (some t120)) else (some false)) = some r := H
              have A17 := Aside0.mk A170
              clear A170
              by_cases c18 : t119 = true
              · subst c18
                have H1 : ((mode_Covers.f kj4 5 a0).bind fun t120 => (some t120)) = some r := by rw [if_pos rfl] at H; exact H
                clear H
                have H := H1
                clear H1
                replace H := Option.bind_eq_some_iff.mp H
                obtain ⟨t120, A190, H⟩ := H
                replace H : (some t120) = some r := H
                have A19 := Aside0.mk A190
                clear A190
                obtain rfl := Option.some.inj H
                go_wp2_with (first | ((with_reducible refine gate_callee (f := 12) rfl ?_); refine goesL_ (some 23) rfl rfl Try.func12 (by kernel_rfl) rfl #[.int .i64 5, .int .i64 a0] rfl (by (try simp only [List.map_toArray, List.map_cons, List.map_nil]); first | done | rfl | (simp only [List.length_drop, List.length_take]; rfl)) ?_; (with_reducible refine (mode_Fits.calls kj4 5 a0 false _ A12.out).mono ?_); rintro e w' ⟨rfl, ⟨nd, rfl⟩⟩; refine ⟨_, rfl, ?_⟩) | (go_at_call 10; (with_reducible refine (mode_Mode_Right.calls a0 true _ A14.out).mono ?_); rintro e w' ⟨rfl, ⟨nd, rfl⟩⟩) | (go_at_call 17; (with_reducible refine (mode_Around.calls kj4 1 t118 _ A16.out).mono ?_); rintro e w' ⟨rfl, ⟨nd, rfl⟩⟩) | (go_at_call 11; (with_reducible refine (mode_Covers.calls kj4 a0 t118 true _ A17.out).mono ?_); rintro e w' ⟨rfl, ⟨nd, rfl⟩⟩) | (go_at_call 11; (with_reducible refine (mode_Covers.calls kj4 5 a0 t120 _ A19.out).mono ?_); rintro e w' ⟨rfl, ⟨nd, rfl⟩⟩))
                go_ret
                exact ⟨by first | rfl | (simp; done) | (simp [*]; done), by repeat (first | exact Drawn0.refl _ | apply Drawn0.step)⟩
              · replace c18 := Bool.eq_false_iff.mpr c18
                subst c18
                have H1 : (some false) = some r := by rw [if_neg (show ¬ (false = true) by decide)] at H; exact H
                clear H
                have H := H1
                clear H1
                obtain rfl := Option.some.inj H
                go_wp2_with (first | ((with_reducible refine gate_callee (f := 12) rfl ?_); refine goesL_ (some 23) rfl rfl Try.func12 (by kernel_rfl) rfl #[.int .i64 5, .int .i64 a0] rfl (by (try simp only [List.map_toArray, List.map_cons, List.map_nil]); first | done | rfl | (simp only [List.length_drop, List.length_take]; rfl)) ?_; (with_reducible refine (mode_Fits.calls kj4 5 a0 false _ A12.out).mono ?_); rintro e w' ⟨rfl, ⟨nd, rfl⟩⟩; refine ⟨_, rfl, ?_⟩) | (go_at_call 10; (with_reducible refine (mode_Mode_Right.calls a0 true _ A14.out).mono ?_); rintro e w' ⟨rfl, ⟨nd, rfl⟩⟩) | (go_at_call 17; (with_reducible refine (mode_Around.calls kj4 1 t118 _ A16.out).mono ?_); rintro e w' ⟨rfl, ⟨nd, rfl⟩⟩) | (go_at_call 11; (with_reducible refine (mode_Covers.calls kj4 a0 t118 false _ A17.out).mono ?_); rintro e w' ⟨rfl, ⟨nd, rfl⟩⟩))
                go_ret
                exact ⟨by first | rfl | (simp; done) | (simp [*]; done), by repeat (first | exact Drawn0.refl _ | apply Drawn0.step)⟩
            · replace c15 := Bool.eq_false_iff.mpr c15
              subst c15
              have H1 : (some true) = some r := by rw [if_neg (show ¬ (false = true) by decide)] at H; exact H
              clear H
              have H := H1
              clear H1
              obtain rfl := Option.some.inj H
              go_wp2_with (first | ((with_reducible refine gate_callee (f := 12) rfl ?_); refine goesL_ (some 23) rfl rfl Try.func12 (by kernel_rfl) rfl #[.int .i64 5, .int .i64 a0] rfl (by (try simp only [List.map_toArray, List.map_cons, List.map_nil]); first | done | rfl | (simp only [List.length_drop, List.length_take]; rfl)) ?_; (with_reducible refine (mode_Fits.calls kj4 5 a0 false _ A12.out).mono ?_); rintro e w' ⟨rfl, ⟨nd, rfl⟩⟩; refine ⟨_, rfl, ?_⟩) | (go_at_call 10; (with_reducible refine (mode_Mode_Right.calls a0 false _ A14.out).mono ?_); rintro e w' ⟨rfl, ⟨nd, rfl⟩⟩))
              go_ret
              exact ⟨by first | rfl | (simp; done) | (simp [*]; done), by repeat (first | exact Drawn0.refl _ | apply Drawn0.step)⟩
  · replace c4 := Bool.eq_false_iff.mpr c4
    subst c4
    have H1 : (some false) = some r := by rw [if_neg (show ¬ (false = true) by decide)] at H; exact H
    clear H
    have H := H1
    clear H1
    obtain rfl := Option.some.inj H
    go_enter Try.func7, Try.ntmps7
    go_wp2_with (first | ((with_reducible refine gate_callee (f := 8) rfl ?_); refine goesL_ (some 7) rfl rfl Try.func8 (by kernel_rfl) rfl #[] rfl (by (try simp only [List.map_toArray, List.map_cons, List.map_nil]); first | done | rfl | (simp only [List.length_drop, List.length_take]; rfl)) ?_; (with_reducible refine (quaysidelaw12_awake.calls k  false _ A3.out).mono ?_); rintro e w' ⟨rfl, ⟨nd, rfl⟩⟩; refine ⟨_, rfl, ?_⟩))
    go_ret
    exact ⟨by first | rfl | (simp; done) | (simp [*]; done), by repeat (first | exact Drawn0.refl _ | apply Drawn0.step)⟩

/-- THE ONE PURE STATEMENT of quaysidelaw12_ModeAround: yours. -/
def quaysidelaw12_ModeAround.Pure : Prop := ∀ (a0 : Int) (a1 : Int), (Lit.int .i64 a0).wf = true → (Lit.int .i64 a1).wf = true → ∃ k, quaysidelaw12_ModeAround.f k a0 a1 = some true
theorem quaysidelaw12_ModeAround.walk (P : quaysidelaw12_ModeAround.Pure) (a0 : Int) (a1 : Int) (w : World) (w0 : (Lit.int .i64 a0).wf = true) (w1 : (Lit.int .i64 a1).wf = true) :
    Calls Try.prog 7 #[.int .i64 a0, .int .i64 a1] w fun e w' => e = .returned (.bool true) ∧ Below w.heap.size w w' := by
  obtain ⟨k, h⟩ := P a0 a1 w0 w1
  refine (quaysidelaw12_ModeAround.calls k a0 a1 true w h).mono ?_
  rintro e w' ⟨rfl, hd⟩
  exact ⟨rfl, hd.below⟩

end Go.Proofs.Ytglkbjpcpfbmnaa.PModeAround
