/- Modes that fit have fitting modes around them, and X fits with nothing and covers all, for every input, without a further condition. -/
import Derived.Test.YtglkbjpcpfbmnaaPModeAroundx2
namespace Go.Proofs.Ytglkbjpcpfbmnaa.Pure
open Go.RowKit Go.Proofs.Ytglkbjpcpfbmnaa.PModeAround Go.Proofs.YtglkbjpcpfbmnaaW.PrintWords Go.Proofs.YtglkbjpcpfbmnaaW.PrintLast

def Out (a : Int) : Prop := a < 1 ∨ 5 < a

theorem cls (a : Int) : a = 1 ∨ a = 2 ∨ a = 3 ∨ a = 4 ∨ a = 5 ∨ Out a := by unfold Out; omega

theorem rightOut (a : Int) (h : Out a) : mode_Mode_Right.f a = some false := by
  unfold Out at h
  unfold mode_Mode_Right.f
  split
  · rw [decide_eq_false (by omega)]
  · rfl
theorem rightSome (a : Int) : mode_Mode_Right.f a = some true ∨ mode_Mode_Right.f a = some false := by
  unfold mode_Mode_Right.f
  split
  · cases decide (a ≤ 5) <;> simp
  · simp
theorem bothL (k : Nat) (a b : Int) (h : Out a) : mode_Both.f (k + 1) a b = some 0 := by
  unfold mode_Both.f; rw [rightOut a h]; simp [mode_Both.j0]
theorem bothR (k : Nat) (a b : Int) (h : Out b) : mode_Both.f (k + 1) a b = some 0 := by
  unfold mode_Both.f; rw [rightOut b h]; rcases rightSome a with e | e <;> rw [e] <;> simp [mode_Both.j0]
theorem fitsL (k : Nat) (a b : Int) (h : Out a) : mode_Fits.f (k + 1) a b = some false := by
  unfold mode_Fits.f; rw [rightOut a h]; simp [mode_Fits.j0]
theorem fitsR (k : Nat) (a b : Int) (h : Out b) : mode_Fits.f (k + 1) a b = some false := by
  unfold mode_Fits.f; rw [rightOut b h]; rcases rightSome a with e | e <;> rw [e] <;> simp [mode_Fits.j0]
theorem awake40 : quaysidelaw12_awake.f 40 = some true := by decide +kernel
theorem coversL (k : Nat) (a b : Int) (h : Out a) : mode_Covers.f (k + 1) a b = some false := by
  unfold mode_Covers.f; rw [rightOut a h]; simp
theorem coversR (k : Nat) (a b : Int) (h : Out b) : mode_Covers.f (k + 1) a b = some false := by
  unfold mode_Covers.f; rw [rightOut b h]; rcases rightSome a with e | e <;> rw [e] <;> simp
theorem aroundOut (k : Nat) (a : Int) (h : Out a) : mode_Around.f (k + 1) a = some 0 := by
  unfold Out at h
  have e1 : (a == 3) = false := by rw [beq_eq_false_iff_ne]; omega
  unfold mode_Around.f
  rw [if_neg (by omega), e1]
  simp only [mode_Around.j0]
  rw [if_neg (by simp), if_neg (by omega), if_neg (by omega), if_neg (by omega)]
theorem zeroOut : Out 0 := by unfold Out; omega
set_option linter.unusedSimpArgs false
set_option maxHeartbeats 4000000 in
theorem ModeAround : quaysidelaw12_ModeAround.Pure := by
  intro a b _ _
  refine ⟨40, ?_⟩
  rcases cls a with rfl | rfl | rfl | rfl | rfl | ha <;> rcases cls b with rfl | rfl | rfl | rfl | rfl | hb
  all_goals first
    | (decide +kernel)
    | (simp [quaysidelaw12_ModeAround.f, quaysidelaw12_ModeAround.j0, awake40, rightOut a ha, bothL 39 a _ ha, bothR 39 _ a ha, fitsL 39 a _ ha, fitsR 39 _ a ha, coversL 39 a _ ha, coversR 39 _ a ha, aroundOut 39 a ha, bothL 38 a _ ha, bothR 38 _ a ha, fitsL 38 a _ ha, fitsR 38 _ a ha, coversL 38 a _ ha, coversR 38 _ a ha, aroundOut 38 a ha, bothL 37 a _ ha, bothR 37 _ a ha, fitsL 37 a _ ha, fitsR 37 _ a ha, coversL 37 a _ ha, coversR 37 _ a ha, aroundOut 37 a ha, bothL 36 a _ ha, bothR 36 _ a ha, fitsL 36 a _ ha, fitsR 36 _ a ha, coversL 36 a _ ha, coversR 36 _ a ha, aroundOut 36 a ha, rightOut b hb, bothL 39 b _ hb, bothR 39 _ b hb, fitsL 39 b _ hb, fitsR 39 _ b hb, coversL 39 b _ hb, coversR 39 _ b hb, aroundOut 39 b hb, bothL 38 b _ hb, bothR 38 _ b hb, fitsL 38 b _ hb, fitsR 38 _ b hb, coversL 38 b _ hb, coversR 38 _ b hb, aroundOut 38 b hb, bothL 37 b _ hb, bothR 37 _ b hb, fitsL 37 b _ hb, fitsR 37 _ b hb, coversL 37 b _ hb, coversR 37 _ b hb, aroundOut 37 b hb, bothL 36 b _ hb, bothR 36 _ b hb, fitsL 36 b _ hb, fitsR 36 _ b hb, coversL 36 b _ hb, coversR 36 _ b hb, aroundOut 36 b hb, bothL 39 0 _ zeroOut, bothL 38 0 _ zeroOut, bothL 37 0 _ zeroOut, bothR 39 _ 0 zeroOut, bothR 38 _ 0 zeroOut, bothR 37 _ 0 zeroOut, fitsL 39 0 _ zeroOut, fitsL 38 0 _ zeroOut, fitsL 37 0 _ zeroOut, fitsR 39 _ 0 zeroOut, fitsR 38 _ 0 zeroOut, fitsR 37 _ 0 zeroOut, coversL 39 0 _ zeroOut, coversL 38 0 _ zeroOut, coversL 37 0 _ zeroOut, coversR 39 _ 0 zeroOut, coversR 38 _ 0 zeroOut, coversR 37 _ 0 zeroOut]; try decide +kernel)
    | (simp [quaysidelaw12_ModeAround.f, quaysidelaw12_ModeAround.j0, awake40, rightOut a ha, bothL 39 a _ ha, bothR 39 _ a ha, fitsL 39 a _ ha, fitsR 39 _ a ha, coversL 39 a _ ha, coversR 39 _ a ha, aroundOut 39 a ha, bothL 38 a _ ha, bothR 38 _ a ha, fitsL 38 a _ ha, fitsR 38 _ a ha, coversL 38 a _ ha, coversR 38 _ a ha, aroundOut 38 a ha, bothL 37 a _ ha, bothR 37 _ a ha, fitsL 37 a _ ha, fitsR 37 _ a ha, coversL 37 a _ ha, coversR 37 _ a ha, aroundOut 37 a ha, bothL 36 a _ ha, bothR 36 _ a ha, fitsL 36 a _ ha, fitsR 36 _ a ha, coversL 36 a _ ha, coversR 36 _ a ha, aroundOut 36 a ha, bothL 39 0 _ zeroOut, bothL 38 0 _ zeroOut, bothL 37 0 _ zeroOut, bothR 39 _ 0 zeroOut, bothR 38 _ 0 zeroOut, bothR 37 _ 0 zeroOut, fitsL 39 0 _ zeroOut, fitsL 38 0 _ zeroOut, fitsL 37 0 _ zeroOut, fitsR 39 _ 0 zeroOut, fitsR 38 _ 0 zeroOut, fitsR 37 _ 0 zeroOut, coversL 39 0 _ zeroOut, coversL 38 0 _ zeroOut, coversL 37 0 _ zeroOut, coversR 39 _ 0 zeroOut, coversR 38 _ 0 zeroOut, coversR 37 _ 0 zeroOut]; try decide +kernel)
    | (simp [quaysidelaw12_ModeAround.f, quaysidelaw12_ModeAround.j0, awake40, rightOut b hb, bothL 39 b _ hb, bothR 39 _ b hb, fitsL 39 b _ hb, fitsR 39 _ b hb, coversL 39 b _ hb, coversR 39 _ b hb, aroundOut 39 b hb, bothL 38 b _ hb, bothR 38 _ b hb, fitsL 38 b _ hb, fitsR 38 _ b hb, coversL 38 b _ hb, coversR 38 _ b hb, aroundOut 38 b hb, bothL 37 b _ hb, bothR 37 _ b hb, fitsL 37 b _ hb, fitsR 37 _ b hb, coversL 37 b _ hb, coversR 37 _ b hb, aroundOut 37 b hb, bothL 36 b _ hb, bothR 36 _ b hb, fitsL 36 b _ hb, fitsR 36 _ b hb, coversL 36 b _ hb, coversR 36 _ b hb, aroundOut 36 b hb, bothL 39 0 _ zeroOut, bothL 38 0 _ zeroOut, bothL 37 0 _ zeroOut, bothR 39 _ 0 zeroOut, bothR 38 _ 0 zeroOut, bothR 37 _ 0 zeroOut, fitsL 39 0 _ zeroOut, fitsL 38 0 _ zeroOut, fitsL 37 0 _ zeroOut, fitsR 39 _ 0 zeroOut, fitsR 38 _ 0 zeroOut, fitsR 37 _ 0 zeroOut, coversL 39 0 _ zeroOut, coversL 38 0 _ zeroOut, coversL 37 0 _ zeroOut, coversR 39 _ 0 zeroOut, coversR 38 _ 0 zeroOut, coversR 37 _ 0 zeroOut]; try decide +kernel)

end Go.Proofs.Ytglkbjpcpfbmnaa.Pure
