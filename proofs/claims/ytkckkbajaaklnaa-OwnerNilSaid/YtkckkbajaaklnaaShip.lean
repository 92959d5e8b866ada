/- Ship, Land, Leave, Heal. -/
import Derived.Test.YtkckkbajaaklnaaTurn
namespace Go.Proofs.Ytkckkbajaaklnaa
open Go.RowKit
set_option linter.unusedVariables false
set_option linter.unusedSimpArgs false

def shipE (L : List (Int × Int)) (x a b : Int) : Int := if a = b then 1 else turnE L x 1 a 2 b
def shipL (L : List (Int × Int)) (x a b : Int) : List (Int × Int) := if a = b then L else turnL L x 1 a 2 b
def landE (L : List (Int × Int)) (x a : Int) : Int := turnE L x 2 a 1 a
def landL (L : List (Int × Int)) (x a : Int) : List (Int × Int) := turnL L x 2 a 1 a
def leaveE (L : List (Int × Int)) (x a : Int) : Int := turnE L x 1 a 0 0
def leaveL (L : List (Int × Int)) (x a : Int) : List (Int × Int) := turnL L x 1 a 0 0
def healE (L : List (Int × Int)) (x : Int) : Int := if inP L x then (if (pl L x).1 = 3 then 0 else 13) else 1
def healL (L : List (Int × Int)) (x : Int) : List (Int × Int) := if inP L x ∧ (pl L x).1 = 3 then L.set x.toNat (0, 0) else L

set_option maxHeartbeats 400000 in
theorem ship_any (b g : Nat) (L : List (Int × Int)) (w : World) (h : Dir w 51 57 b g L) (x f t : Int) :
    Calls Try.prog 12 #[.pointer (some ⟨b, 0, none⟩), .int .i64 x, .int .i64 f, .int .i64 t] w fun e w' => e = .returned (.int .i64 (shipE L x f t)) ∧ Upd w w' 51 57 b g (shipL L x f t) := by
  have H := Lib.hid h
  clear h
  unfold shipE shipL
  by_cases hft : f = t
  · subst hft
    rw [if_pos rfl, if_pos rfl]
    go_enter Try.func12, Try.ntmps12
    go_wp2
    go_ret
    exact ⟨rfl, Upd.refl H.out 0⟩
  · rw [if_neg hft, if_neg hft]
    have hb : (f == t) = false := beq_eq_false_iff_ne.2 hft
    clear hft
    go_enter Try.func12, Try.ntmps12
    go_wp2_with (go_at_call 23; refine (turn_any b g L _ H.out x 1 f 2 t).mono ?_; rintro e w' ⟨rfl, hu⟩)
    go_ret
    exact ⟨rfl, hu⟩

set_option maxHeartbeats 400000 in
theorem land_any (b g : Nat) (L : List (Int × Int)) (w : World) (h : Dir w 51 57 b g L) (x f : Int) :
    Calls Try.prog 11 #[.pointer (some ⟨b, 0, none⟩), .int .i64 x, .int .i64 f] w fun e w' => e = .returned (.int .i64 (landE L x f)) ∧ Upd w w' 51 57 b g (landL L x f) := by
  have H := Lib.hid h
  clear h
  go_enter Try.func11, Try.ntmps11
  go_wp2_with (go_at_call 23; refine (turn_any b g L _ H.out x 2 f 1 f).mono ?_; rintro e w' ⟨rfl, hu⟩)
  go_ret
  exact ⟨rfl, hu⟩

set_option maxHeartbeats 400000 in
theorem leave_any (b g : Nat) (L : List (Int × Int)) (w : World) (h : Dir w 51 57 b g L) (x f : Int) :
    Calls Try.prog 13 #[.pointer (some ⟨b, 0, none⟩), .int .i64 x, .int .i64 f] w fun e w' => e = .returned (.int .i64 (leaveE L x f)) ∧ Upd w w' 51 57 b g (leaveL L x f) := by
  have H := Lib.hid h
  clear h
  go_enter Try.func13, Try.ntmps13
  go_wp2_with (go_at_call 23; refine (turn_any b g L _ H.out x 1 f 0 0).mono ?_; rintro e w' ⟨rfl, hu⟩)
  go_ret
  exact ⟨rfl, hu⟩

set_option maxHeartbeats 400000 in
theorem heal_none (d : Value) (w : World) (x : Int) (h : NoPage w d x) :
    Calls Try.prog 14 #[d, .int .i64 x] w fun e w' => e = .returned (.int .i64 1) ∧ w = w' := by
  go_enter Try.func14, Try.ntmps14
  go_wp2_with (go_at_call 21; refine (show Calls _ _ _ _ _ from h).mono ?_; rintro e w' ⟨rfl, rfl⟩)
  go_ret
  exact ⟨rfl, rfl⟩

set_option maxHeartbeats 400000 in
theorem heal_any (b g : Nat) (L : List (Int × Int)) (w : World) (h : Dir w 51 57 b g L) (x : Int) :
    Calls Try.prog 14 #[.pointer (some ⟨b, 0, none⟩), .int .i64 x] w fun e w' => e = .returned (.int .i64 (healE L x)) ∧ Upd w w' 51 57 b g (healL L x) := by
  unfold healE healL
  by_cases hx : inP L x
  · obtain ⟨p, rfl⟩ := Int.eq_ofNat_of_zero_le hx.1
    have hp : p < L.length := by have := hx.2; omega
    have hv := pl_get hp
    rw [show pl L (p : Int) = ((pl L (p : Int)).1, (pl L (p : Int)).2) from rfl]
    generalize (pl L (p : Int)).1 = k at *
    generalize (pl L (p : Int)).2 = v at *
    obtain ⟨c0, c1⟩ := h.cells hv
    have f0 := h.free (p * 2)
    have f1 := h.free (p * 2 + 1)
    have H := Lib.hid h
    have HV := Lib.hid hv
    clear h hv
    simp only [hx, true_and, if_true, Int.toNat_natCast]
    by_cases hk : k = 3
    · subst hk
      simp only [if_true]
      clear hx
      go_enter Try.func14, Try.ntmps14
      go_wp2_with (go_at_call 21; refine (at_in b g L _ H.out p hp).mono ?_; rintro e w' ⟨rfl, rfl⟩)
      go_ret
      exact ⟨rfl, Upd.set H.out (Ext.refl _ _) hp 0 0 0⟩
    · simp only [hk, if_false]
      have hb : (k == 3) = false := beq_eq_false_iff_ne.2 hk
      have hb2 : (k != 3) = true := by rw [bne_iff_ne]; exact hk
      clear hx hk
      go_enter Try.func14, Try.ntmps14
      go_wp2_with (go_at_call 21; refine (at_in b g L _ H.out p hp).mono ?_; rintro e w' ⟨rfl, rfl⟩)
      go_ret
      exact ⟨rfl, Upd.refl H.out 0⟩
  · simp only [hx, false_and, if_false]
    exact (heal_none _ w x (at_out b g L w h x hx)).mono fun e w' ⟨he, hw⟩ => by subst hw; exact ⟨he, Upd.refl h 0⟩

end Go.Proofs.Ytkckkbajaaklnaa
