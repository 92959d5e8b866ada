/- ModeJoins, walked by hand over the contracts of another statement's print. -/
import Derived.Test.YtglkbjpcpfbmnaaPureModeLeast
import Derived.Lib.Hide
import Derived.WalkKit
namespace Go.Proofs.Ytglkbjpcpfbmnaa.Joins
open Go.RowKit Go.Proofs.Ytglkbjpcpfbmnaa.PModeLeast Go.Proofs.YtglkbjpcpfbmnaaW.PrintWords Go.Proofs.YtglkbjpcpfbmnaaW.PrintLast Go.Proofs.Ytglkbjpcpfbmnaa.Pure
set_option linter.unusedVariables false
set_option linter.unusedSimpArgs false

def ri (a : Int) : Bool := decide (1 ≤ a) && decide (a ≤ 5)
/-- The least mode that gives what two give. -/
def bo (a b : Int) : Int := if ri a = true ∧ ri b = true then (if min a b = 2 ∧ max a b = 3 then 4 else max a b) else 0
theorem ri_out {a : Int} (h : Out a) : ri a = false := by unfold Out at h; unfold ri; rcases h with h | h <;> simp <;> omega
theorem bo_outL {a : Int} (b : Int) (h : Out a) : bo a b = 0 := by unfold bo; rw [ri_out h]; simp
theorem bo_outR {b : Int} (a : Int) (h : Out b) : bo a b = 0 := by unfold bo; rw [ri_out h]; simp
theorem both_some (a b : Int) : mode_Both.f 40 a b = some (bo a b) := by
  rcases cls a with rfl | rfl | rfl | rfl | rfl | ha
  all_goals first
    | (rw [bothL 39 a b ha, bo_outL b ha]; done)
    | (rcases cls b with rfl | rfl | rfl | rfl | rfl | hb
       all_goals first
         | (decide +kernel)
         | (rw [bothR 39 _ b hb, bo_outR _ hb]))
theorem right_some (a : Int) : mode_Mode_Right.f a = some (ri a) := by
  rcases cls a with rfl | rfl | rfl | rfl | rfl | ha
  all_goals first
    | (decide +kernel)
    | (rw [rightOut a ha, ri_out ha])
theorem bo_sym (a b : Int) : bo b a = bo a b := by unfold bo; rw [Int.min_comm b a, Int.max_comm b a]; cases ri a <;> cases ri b <;> simp
theorem bo_assoc (a b c : Int) : bo (bo a b) c = bo a (bo b c) := by
  rcases cls a with rfl | rfl | rfl | rfl | rfl | ha
  all_goals first
    | (rw [bo_outL b ha, bo_outL _ ha, bo_outL _ zeroOut]; done)
    | (rcases cls b with rfl | rfl | rfl | rfl | rfl | hb
       all_goals first
         | (rw [bo_outR _ hb, bo_outL _ hb, bo_outL _ zeroOut, bo_outR _ zeroOut]; done)
         | (rcases cls c with rfl | rfl | rfl | rfl | rfl | hc
            all_goals first
              | (decide +kernel)
              | (rw [bo_outR _ hc, bo_outR _ hc, bo_outR _ zeroOut])))
theorem bo_self (a : Int) : bo a a = if ri a = true then a else 0 := by
  rcases cls a with rfl | rfl | rfl | rfl | rfl | ha
  all_goals first
    | (decide +kernel)
    | (rw [bo_outL _ ha, ri_out ha]; rfl)

theorem dr_trans {a b c : World} (h : Drawn0 a b) (k : Drawn0 b c) : Drawn0 a c := by
  obtain ⟨n, rfl⟩ := k.out
  exact h.step n
theorem CB (a b : Int) {r : Int} (hr : bo a b = r) (w : World) : Calls Try.prog 9 #[.int .i64 a, .int .i64 b] w fun e w' => e = .returned (.int .i64 r) ∧ Drawn0 w w' := by
  subst hr; exact mode_Both.calls 40 a b _ w (both_some a b)
theorem CR (a : Int) {r : Bool} (hr : ri a = r) (w : World) : Calls Try.prog 10 #[.int .i64 a] w fun e w' => e = .returned (.bool r) ∧ Drawn0 w w' := by
  subst hr; exact mode_Mode_Right.calls a _ w (right_some a)

set_option maxRecDepth 100000 in
set_option maxHeartbeats 4000000 in
theorem joins_of (a b c m1 m2 m3 m4 : Int) (r : Bool) (h1 : bo a b = m1) (h2 : bo b a = m1) (h3 : bo m1 c = m2) (h4 : bo b c = m3) (h5 : bo a m3 = m2) (h6 : bo a a = m4) (h7 : ri a = r) (h8 : (r = false ∧ m4 = 0) ∨ (r = true ∧ m4 = a)) (w : World) :
    Calls Try.prog 3 #[.int .i64 a, .int .i64 b, .int .i64 c] w fun e w' => e = .returned (.bool true) ∧ Drawn0 w w' := by
  have C1 := Lib.hid (CB a b h1)
  have C2 := Lib.hid (CB b a h2)
  have C3 := Lib.hid (CB m1 c h3)
  have C4 := Lib.hid (CB b c h4)
  have C5 := Lib.hid (CB a m3 h5)
  have C6 := Lib.hid (CB a a h6)
  have C7 := Lib.hid (CR a h7)
  have HD := Lib.hid (Drawn0.refl w)
  clear h1 h2 h3 h4 h5 h6 h7
  rcases h8 with ⟨rfl, rfl⟩ | ⟨rfl, rfl⟩
  · go_enter Try.func3, Try.ntmps3
    go_wp2_with (go_at_call 8; fail)
    refine (quaysidelaw12_awake.calls 40 true _ awake40).mono ?_
    rintro e w' ⟨rfl, hd⟩
    replace HD := Lib.hid (dr_trans HD.out hd)
    clear hd
    go_wp2_with (go_at_call 9; fail)
    refine (C1.out _).mono ?_
    rintro e w' ⟨rfl, hd⟩
    replace HD := Lib.hid (dr_trans HD.out hd)
    clear hd
    go_wp2_with (go_at_call 9; fail)
    refine (C2.out _).mono ?_
    rintro e w' ⟨rfl, hd⟩
    replace HD := Lib.hid (dr_trans HD.out hd)
    clear hd
    go_wp2_with (go_at_call 9; fail)
    refine (C1.out _).mono ?_
    rintro e w' ⟨rfl, hd⟩
    replace HD := Lib.hid (dr_trans HD.out hd)
    clear hd
    go_wp2_with (go_at_call 9; fail)
    refine (C3.out _).mono ?_
    rintro e w' ⟨rfl, hd⟩
    replace HD := Lib.hid (dr_trans HD.out hd)
    clear hd
    go_wp2_with (go_at_call 9; fail)
    refine (C4.out _).mono ?_
    rintro e w' ⟨rfl, hd⟩
    replace HD := Lib.hid (dr_trans HD.out hd)
    clear hd
    go_wp2_with (go_at_call 9; fail)
    refine (C5.out _).mono ?_
    rintro e w' ⟨rfl, hd⟩
    replace HD := Lib.hid (dr_trans HD.out hd)
    clear hd
    go_wp2_with (go_at_call 10; fail)
    refine (C7.out _).mono ?_
    rintro e w' ⟨rfl, hd⟩
    replace HD := Lib.hid (dr_trans HD.out hd)
    clear hd
    go_wp2_with (go_at_call 9; fail)
    refine (C6.out _).mono ?_
    rintro e w' ⟨rfl, hd⟩
    replace HD := Lib.hid (dr_trans HD.out hd)
    clear hd
    go_wp2
    go_ret
    exact ⟨by simp, HD.out⟩
  · go_enter Try.func3, Try.ntmps3
    go_wp2_with (go_at_call 8; fail)
    refine (quaysidelaw12_awake.calls 40 true _ awake40).mono ?_
    rintro e w' ⟨rfl, hd⟩
    replace HD := Lib.hid (dr_trans HD.out hd)
    clear hd
    go_wp2_with (go_at_call 9; fail)
    refine (C1.out _).mono ?_
    rintro e w' ⟨rfl, hd⟩
    replace HD := Lib.hid (dr_trans HD.out hd)
    clear hd
    go_wp2_with (go_at_call 9; fail)
    refine (C2.out _).mono ?_
    rintro e w' ⟨rfl, hd⟩
    replace HD := Lib.hid (dr_trans HD.out hd)
    clear hd
    go_wp2_with (go_at_call 9; fail)
    refine (C1.out _).mono ?_
    rintro e w' ⟨rfl, hd⟩
    replace HD := Lib.hid (dr_trans HD.out hd)
    clear hd
    go_wp2_with (go_at_call 9; fail)
    refine (C3.out _).mono ?_
    rintro e w' ⟨rfl, hd⟩
    replace HD := Lib.hid (dr_trans HD.out hd)
    clear hd
    go_wp2_with (go_at_call 9; fail)
    refine (C4.out _).mono ?_
    rintro e w' ⟨rfl, hd⟩
    replace HD := Lib.hid (dr_trans HD.out hd)
    clear hd
    go_wp2_with (go_at_call 9; fail)
    refine (C5.out _).mono ?_
    rintro e w' ⟨rfl, hd⟩
    replace HD := Lib.hid (dr_trans HD.out hd)
    clear hd
    go_wp2_with (go_at_call 10; fail)
    refine (C7.out _).mono ?_
    rintro e w' ⟨rfl, hd⟩
    replace HD := Lib.hid (dr_trans HD.out hd)
    clear hd
    go_wp2_with (go_at_call 10; fail)
    refine (C7.out _).mono ?_
    rintro e w' ⟨rfl, hd⟩
    replace HD := Lib.hid (dr_trans HD.out hd)
    clear hd
    go_wp2_with (go_at_call 9; fail)
    refine (C6.out _).mono ?_
    rintro e w' ⟨rfl, hd⟩
    replace HD := Lib.hid (dr_trans HD.out hd)
    clear hd
    go_wp2
    go_ret
    exact ⟨by simp, HD.out⟩

theorem joins_any (a b c : Int) (w : World) : Calls Try.prog 3 #[.int .i64 a, .int .i64 b, .int .i64 c] w fun e w' => e = .returned (.bool true) ∧ Drawn0 w w' := by
  refine joins_of a b c (bo a b) (bo (bo a b) c) (bo b c) (bo a a) (ri a) rfl (bo_sym a b) rfl rfl (bo_assoc a b c).symm rfl rfl ?_ w
  rw [bo_self]
  cases h : ri a
  · left; exact ⟨rfl, by simp⟩
  · right; exact ⟨rfl, by simp⟩

end Go.Proofs.Ytglkbjpcpfbmnaa.Joins
