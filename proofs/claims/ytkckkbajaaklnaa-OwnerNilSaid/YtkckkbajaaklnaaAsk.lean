/- Ask: what it answers, and what it makes of the places. -/
import Derived.Test.YtkckkbajaaklnaaAt
namespace Go.Proofs.Ytkckkbajaaklnaa
open Go.RowKit
set_option linter.unusedVariables false
set_option linter.unusedSimpArgs false

def askA (L : List (Int × Int)) (x n : Int) : Int := if inP L x ∧ nodeB n = true then (if (pl L x).1 = 0 then -1 else (pl L x).2) else 0
def askE (L : List (Int × Int)) (x n : Int) : Int := if inP L x ∧ nodeB n = true then (if (pl L x).1 = 0 then 0 else if (pl L x).1 = 1 ∧ (pl L x).2 = n then 0 else 12) else 1
def askL (L : List (Int × Int)) (x n : Int) : List (Int × Int) := if inP L x ∧ nodeB n = true ∧ (pl L x).1 = 0 then L.set x.toNat (1, n) else L

set_option maxHeartbeats 400000 in
theorem ask_none (d : Value) (w : World) (x n : Int) (h : NoPage w d x) :
    Calls Try.prog 10 #[d, .int .i64 x, .int .i64 n] w fun e w' => e = .returned (.tuple #[.int .i64 0, .int .i64 1]) ∧ ∃ n, w' = w.drewN n := by
  go_enter Try.func10, Try.ntmps10
  go_wp2_with (go_at_call 21; refine (show Calls _ _ _ _ _ from h).mono ?_; rintro e w' ⟨rfl, rfl⟩)

  go_ret2
  exact ⟨rfl, 0, rfl⟩

set_option maxHeartbeats 400000 in
theorem ask_bad (b g : Nat) (L : List (Int × Int)) (w : World) (h : Dir w 51 57 b g L) (p : Nat) (hp : p < L.length) (n : Int) (hn : nodeB n = false) :
    Calls Try.prog 10 #[.pointer (some ⟨b, 0, none⟩), .int .i64 (p : Int), .int .i64 n] w fun e w' => e = .returned (.tuple #[.int .i64 0, .int .i64 1]) ∧ ∃ n, w' = w.drewN n := by
  have H := Lib.hid h
  clear h
  have HN := Lib.hid hn
  clear hn
  go_enter Try.func10, Try.ntmps10
  go_wp2_with (first | (go_at_call 21; refine (at_in b g L _ H.out p hp).mono ?_; rintro e w' ⟨rfl, rfl⟩) | (go_at_call 22; refine (node_is n _ HN.out).mono ?_; rintro e w' ⟨rfl, rfl⟩))

  go_ret2
  exact ⟨rfl, 0, rfl⟩

set_option maxHeartbeats 400000 in
theorem ask_home (b g : Nat) (L : List (Int × Int)) (w : World) (h : Dir w 51 57 b g L) (p : Nat) (hp : p < L.length) (n v : Int) (hn : nodeB n = true) (hv : L[p]? = some (0, v)) :
    Calls Try.prog 10 #[.pointer (some ⟨b, 0, none⟩), .int .i64 (p : Int), .int .i64 n] w fun e w' => e = .returned (.tuple #[.int .i64 (-1), .int .i64 0]) ∧
      ∃ k, w' = ((w.setCell ⟨g, p * 2, none⟩ (.int .i64 1)).setCell ⟨g, p * 2 + 1, none⟩ (.int .i64 n)).drewN k := by
  obtain ⟨c0, c1⟩ := h.cells hv
  have f0 := h.free (p * 2)
  have f1 := h.free (p * 2 + 1)
  have H := Lib.hid h
  clear h
  have HN := Lib.hid hn
  clear hn
  have HV := Lib.hid hv
  clear hv
  go_enter Try.func10, Try.ntmps10
  go_wp2_with (first | (go_at_call 21; refine (at_in b g L _ H.out p hp).mono ?_; rintro e w' ⟨rfl, rfl⟩) | (go_at_call 22; refine (node_is n _ HN.out).mono ?_; rintro e w' ⟨rfl, rfl⟩))

  go_ret2
  exact ⟨rfl, 0, rfl⟩

set_option maxHeartbeats 400000 in
theorem ask_mine (b g : Nat) (L : List (Int × Int)) (w : World) (h : Dir w 51 57 b g L) (p : Nat) (hp : p < L.length) (n : Int) (hn : nodeB n = true) (hv : L[p]? = some (1, n)) :
    Calls Try.prog 10 #[.pointer (some ⟨b, 0, none⟩), .int .i64 (p : Int), .int .i64 n] w fun e w' => e = .returned (.tuple #[.int .i64 n, .int .i64 0]) ∧ ∃ n, w' = w.drewN n := by
  obtain ⟨c0, c1⟩ := h.cells hv
  have H := Lib.hid h
  clear h
  have HN := Lib.hid hn
  clear hn
  have HV := Lib.hid hv
  clear hv
  go_enter Try.func10, Try.ntmps10
  go_wp2_with (first | (go_at_call 21; refine (at_in b g L _ H.out p hp).mono ?_; rintro e w' ⟨rfl, rfl⟩) | (go_at_call 22; refine (node_is n _ HN.out).mono ?_; rintro e w' ⟨rfl, rfl⟩))

  go_ret2
  exact ⟨rfl, 0, rfl⟩

set_option maxHeartbeats 400000 in
theorem ask_other (b g : Nat) (L : List (Int × Int)) (w : World) (h : Dir w 51 57 b g L) (p : Nat) (hp : p < L.length) (n k v : Int) (hn : nodeB n = true) (hv : L[p]? = some (k, v))
    (hk : (k == 0) = false) (hkv : (k == 1) = false ∨ (v == n) = false) :
    Calls Try.prog 10 #[.pointer (some ⟨b, 0, none⟩), .int .i64 (p : Int), .int .i64 n] w fun e w' => e = .returned (.tuple #[.int .i64 v, .int .i64 12]) ∧ ∃ n, w' = w.drewN n := by
  obtain ⟨c0, c1⟩ := h.cells hv
  have H := Lib.hid h
  clear h
  have HN := Lib.hid hn
  clear hn
  have HV := Lib.hid hv
  clear hv
  rcases hkv with hkv | hkv
  all_goals
    go_enter Try.func10, Try.ntmps10
    go_wp2_with (first | (go_at_call 21; refine (at_in b g L _ H.out p hp).mono ?_; rintro e w' ⟨rfl, rfl⟩) | (go_at_call 22; refine (node_is n _ HN.out).mono ?_; rintro e w' ⟨rfl, rfl⟩))

    go_ret2
    exact ⟨rfl, 0, rfl⟩

theorem ask_any (b g : Nat) (L : List (Int × Int)) (w : World) (h : Dir w 51 57 b g L) (x n : Int) :
    Calls Try.prog 10 #[.pointer (some ⟨b, 0, none⟩), .int .i64 x, .int .i64 n] w fun e w' =>
      e = .returned (.tuple #[.int .i64 (askA L x n), .int .i64 (askE L x n)]) ∧ Upd w w' 51 57 b g (askL L x n) := by
  unfold askA askE askL
  by_cases hx : inP L x
  · obtain ⟨p, rfl⟩ := Int.eq_ofNat_of_zero_le hx.1
    have hp : p < L.length := by have := hx.2; omega
    have hv := pl_get hp
    generalize (pl L (p : Int)).1 = k at *
    generalize (pl L (p : Int)).2 = v at *
    cases hn : nodeB n with
    | false =>
      simp only [hx, true_and, Bool.false_eq_true, false_and, if_false]
      exact (ask_bad b g L w h p hp n hn).mono fun e w' ⟨he, m, hw⟩ => by subst hw; exact ⟨he, Upd.refl h m⟩
    | true =>
      simp only [hx, true_and, if_true]
      by_cases hk : k = 0
      · subst hk
        simp only [if_true, Int.toNat_natCast]
        exact (ask_home b g L w h p hp n v hn hv).mono fun e w' ⟨he, m, hw⟩ => by subst hw; exact ⟨he, Upd.set h (Ext.refl _ _) hp _ _ m⟩
      · simp only [hk, if_false]
        by_cases hm : k = 1 ∧ v = n
        · obtain ⟨rfl, rfl⟩ := hm
          simp only [and_self, if_true]
          exact (ask_mine b g L w h p hp v hn hv).mono fun e w' ⟨he, m, hw⟩ => by subst hw; exact ⟨he, Upd.refl h m⟩
        · rw [if_neg hm]
          refine (ask_other b g L w h p hp n k v hn hv (beq_eq_false_iff_ne.2 hk) ?_).mono fun e w' ⟨he, m, hw⟩ => by subst hw; exact ⟨he, Upd.refl h m⟩
          by_cases h1 : k = 1
          · right; exact beq_eq_false_iff_ne.2 fun h2 => hm ⟨h1, h2⟩
          · left; exact beq_eq_false_iff_ne.2 h1
  · simp only [hx, false_and, if_false]
    exact (ask_none _ w x n (at_out b g L w h x hx)).mono fun e w' ⟨he, m, hw⟩ => by subst hw; exact ⟨he, Upd.refl h m⟩

end Go.Proofs.Ytkckkbajaaklnaa
