/- The directory's small reads: at, node, Where; and Ask. -/
import Derived.Test.YtkckkbajaaklnaaBase
namespace Go.Proofs.Ytkckkbajaaklnaa
open Go.RowKit
set_option linter.unusedVariables false
set_option linter.unusedSimpArgs false

set_option maxHeartbeats 400000 in
theorem at_in (b g : Nat) (L : List (Int × Int)) (w : World) (h : Dir w 51 57 b g L) (p : Nat) (hp : p < L.length) :
    Calls Try.prog 21 #[.pointer (some ⟨b, 0, none⟩), .int .i64 (p : Int)] w fun e w' => e = .returned (.pointer (some ⟨g, p * 2, none⟩)) ∧ w = w' := by
  have hc := h.cell
  have hf := h.few
  have H := Lib.hid h
  clear h
  have h0 : (0 : Int) ≤ (p : Int) := by omega
  have h1 : ((p : Int) < (L.length : Int)) := by omega
  go_enter Try.func21, Try.ntmps21
  go_wp2
  go_ret
  exact ⟨rfl, rfl⟩

/-- No page of this number is there. -/
def NoPage (w : World) (d : Value) (x : Int) : Prop := Calls Try.prog 21 #[d, .int .i64 x] w fun e w' => e = .returned (.pointer none) ∧ w = w'

set_option maxHeartbeats 400000 in
theorem at_out' (b g : Nat) (L : List (Int × Int)) (w : World) (hc : w.cell? ⟨b, 0, none⟩ = some (.slice (some ⟨g, 0, none⟩) L.length L.length)) (hf : L.length ≤ 32) (x : Int) (hx : ¬ (0 ≤ x ∧ x < L.length)) : NoPage w (.pointer (some ⟨b, 0, none⟩)) x := by
  unfold NoPage
  by_cases h0 : x < 0
  · clear hx
    go_enter Try.func21, Try.ntmps21
    go_wp2
    go_ret
    exact ⟨rfl, rfl⟩
  · have h1 : ¬ x < L.length := by omega
    clear hx
    go_enter Try.func21, Try.ntmps21
    go_wp2
    go_ret
    exact ⟨rfl, rfl⟩

theorem at_out (b g : Nat) (L : List (Int × Int)) (w : World) (h : Dir w 51 57 b g L) (x : Int) (hx : ¬ (0 ≤ x ∧ x < L.length)) : NoPage w (.pointer (some ⟨b, 0, none⟩)) x :=
  at_out' b g L w h.cell h.few x hx

set_option maxHeartbeats 400000 in
theorem at_nil (w : World) (x : Int) : NoPage w (.pointer none) x := by
  unfold NoPage
  go_enter Try.func21, Try.ntmps21
  go_wp2
  go_ret
  exact ⟨rfl, rfl⟩

set_option maxHeartbeats 400000 in
theorem at_zero (w : World) (b : Nat) (hb : w.cell? ⟨b, 0, none⟩ = some (.slice none 0 0)) (x : Int) : NoPage w (.pointer (some ⟨b, 0, none⟩)) x := by
  unfold NoPage
  by_cases h0 : x < 0
  · go_enter Try.func21, Try.ntmps21
    go_wp2
    go_ret
    exact ⟨rfl, rfl⟩
  · go_enter Try.func21, Try.ntmps21
    go_wp2
    go_ret
    exact ⟨rfl, rfl⟩

def nodeB (n : Int) : Bool := decide (0 ≤ n ∧ n < 8)

set_option maxHeartbeats 400000 in
theorem node_any (n : Int) (w : World) : Calls Try.prog 22 #[.int .i64 n] w fun e w' => e = .returned (.bool (nodeB n)) ∧ w = w' := by
  by_cases h0 : 0 ≤ n
  · by_cases h1 : n < 8
    · have e : nodeB n = true := by unfold nodeB; simp [h0, h1]
      rw [e]; clear e
      go_enter Try.func22, Try.ntmps22
      go_wp2
      go_ret
      exact ⟨rfl, rfl⟩
    · have e : nodeB n = false := by unfold nodeB; simp [h1]
      rw [e]; clear e
      go_enter Try.func22, Try.ntmps22
      go_wp2
      go_ret
      exact ⟨rfl, rfl⟩
  · have e : nodeB n = false := by unfold nodeB; simp [h0]
    rw [e]; clear e
    go_enter Try.func22, Try.ntmps22
    go_wp2
    go_ret
    exact ⟨rfl, rfl⟩

theorem node_is {b : Bool} (n : Int) (w : World) (h : nodeB n = b) : Calls Try.prog 22 #[.int .i64 n] w fun e w' => e = .returned (.bool b) ∧ w = w' := by
  subst h; exact node_any n w

def inP (L : List (Int × Int)) (x : Int) : Prop := 0 ≤ x ∧ x < L.length
instance (L : List (Int × Int)) (x : Int) : Decidable (inP L x) := by unfold inP; infer_instance
def pl (L : List (Int × Int)) (x : Int) : Int × Int := L.getD x.toNat (0, 0)
def whereK (L : List (Int × Int)) (x : Int) : Int := if inP L x then (pl L x).1 else 0
def whereN (L : List (Int × Int)) (x : Int) : Int := if inP L x then (pl L x).2 else 0

theorem pl_get {L : List (Int × Int)} {p : Nat} (hp : p < L.length) : L[p]? = some ((pl L p).1, (pl L p).2) := by
  unfold pl; simp [hp]

set_option maxHeartbeats 400000 in
theorem where_none (d : Value) (w : World) (x : Int) (h : NoPage w d x) :
    Calls Try.prog 19 #[d, .int .i64 x] w fun e w' => e = .returned (.tuple #[.int .i64 0, .int .i64 0]) ∧ ∃ n, w' = w.drewN n := by
  go_enter Try.func19, Try.ntmps19
  go_wp2_with (go_at_call 21; refine (show Calls _ _ _ _ _ from h).mono ?_; rintro e w' ⟨rfl, rfl⟩)
  go_ret2
  exact ⟨rfl, 0, rfl⟩

set_option maxHeartbeats 400000 in
theorem where_any (b g : Nat) (L : List (Int × Int)) (w : World) (h : Dir w 51 57 b g L) (x : Int) :
    Calls Try.prog 19 #[.pointer (some ⟨b, 0, none⟩), .int .i64 x] w fun e w' => e = .returned (.tuple #[.int .i64 (whereK L x), .int .i64 (whereN L x)]) ∧ ∃ n, w' = w.drewN n := by
  by_cases hx : inP L x
  · obtain ⟨p, rfl⟩ := Int.eq_ofNat_of_zero_le hx.1
    have hp : p < L.length := by have := hx.2; omega
    obtain ⟨c0, c1⟩ := h.cells (pl_get hp)
    unfold whereK whereN
    rw [if_pos hx, if_pos hx]
    generalize (pl L (p : Int)).1 = k at *
    generalize (pl L (p : Int)).2 = v at *
    have H := Lib.hid h
    clear h
    go_enter Try.func19, Try.ntmps19
    go_wp2_with (go_at_call 21; refine (at_in b g L _ H.out p hp).mono ?_; rintro e w' ⟨rfl, rfl⟩)
    go_quiet (fail)
    go_wp2
    go_ret2
    exact ⟨rfl, _, rfl⟩
  · unfold whereK whereN
    rw [if_neg hx, if_neg hx]
    exact where_none _ w x (at_out b g L w h x hx)

end Go.Proofs.Ytkckkbajaaklnaa
