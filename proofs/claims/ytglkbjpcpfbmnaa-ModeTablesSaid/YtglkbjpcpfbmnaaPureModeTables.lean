/- Of any two numbers each call of the mode package answers as the document's tables, for every input, without a further condition. -/
import Derived.Test.YtglkbjpcpfbmnaaPModeTablesx2
namespace Go.Proofs.Ytglkbjpcpfbmnaa.Pure
open Go.RowKit Go.Proofs.Ytglkbjpcpfbmnaa.PModeTables Go.Proofs.YtglkbjpcpfbmnaaW.PrintWords Go.Proofs.YtglkbjpcpfbmnaaW.PrintLast

def Out (a : Int) : Prop := a < 1 ∨ 5 < a

theorem cls (a : Int) : a = 1 ∨ a = 2 ∨ a = 3 ∨ a = 4 ∨ a = 5 ∨ Out a := by unfold Out; omega

theorem rightOut (a : Int) (h : Out a) : mode_Mode_Right.f a = some false := by
  unfold Out at h
  unfold mode_Mode_Right.f
  split
  · rw [decide_eq_false (by omega)]
  · rfl
theorem rightSome (a : Int) : mode_Mode_Right.f a = some true ∨ mode_Mode_Right.f a = some false := by
  unfold mode_Mode_Right.f
  split
  · cases decide (a ≤ 5) <;> simp
  · simp
theorem bothL (k : Nat) (a b : Int) (h : Out a) : mode_Both.f (k + 1) a b = some 0 := by
  unfold mode_Both.f; rw [rightOut a h]; simp [mode_Both.j0]
theorem bothR (k : Nat) (a b : Int) (h : Out b) : mode_Both.f (k + 1) a b = some 0 := by
  unfold mode_Both.f; rw [rightOut b h]; rcases rightSome a with e | e <;> rw [e] <;> simp [mode_Both.j0]
theorem fitsL (k : Nat) (a b : Int) (h : Out a) : mode_Fits.f (k + 1) a b = some false := by
  unfold mode_Fits.f; rw [rightOut a h]; simp [mode_Fits.j0]
theorem fitsR (k : Nat) (a b : Int) (h : Out b) : mode_Fits.f (k + 1) a b = some false := by
  unfold mode_Fits.f; rw [rightOut b h]; rcases rightSome a with e | e <;> rw [e] <;> simp [mode_Fits.j0]
theorem awake40 : quaysidelaw12_awake.f 40 = some true := by decide +kernel
theorem coversL (k : Nat) (a b : Int) (h : Out a) : mode_Covers.f (k + 1) a b = some false := by
  unfold mode_Covers.f; rw [rightOut a h]; simp
theorem coversR (k : Nat) (a b : Int) (h : Out b) : mode_Covers.f (k + 1) a b = some false := by
  unfold mode_Covers.f; rw [rightOut b h]; rcases rightSome a with e | e <;> rw [e] <;> simp
theorem aroundOut (k : Nat) (a : Int) (h : Out a) : mode_Around.f (k + 1) a = some 0 := by
  unfold Out at h
  have e1 : (a == 3) = false := by rw [beq_eq_false_iff_ne]; omega
  unfold mode_Around.f
  rw [if_neg (by omega), e1]
  simp only [mode_Around.j0]
  rw [if_neg (by simp), if_neg (by omega), if_neg (by omega), if_neg (by omega)]
theorem refRight (a : Int) (h : Out a) : quaysideref12_Right.f a = some false := by
  unfold Out at h
  unfold quaysideref12_Right.f
  split
  · rw [decide_eq_false (by omega)]
  · rfl
theorem refSome (a : Int) : quaysideref12_Right.f a = some true ∨ quaysideref12_Right.f a = some false := by
  unfold quaysideref12_Right.f
  split
  · cases decide (a ≤ 5) <;> simp
  · simp
theorem refCoversL (a b : Int) (h : Out a) : quaysideref12_Covers.f a b = some false := by
  unfold quaysideref12_Covers.f; rw [refRight a h]; simp
theorem refCoversR (a b : Int) (h : Out b) : quaysideref12_Covers.f a b = some false := by
  unfold quaysideref12_Covers.f; rw [refRight b h]; rcases refSome a with e | e <;> rw [e] <;> simp
theorem refFitsL (a b : Int) (h : Out a) : quaysideref12_Fits.f a b = some false := by
  unfold quaysideref12_Fits.f; rw [refRight a h]; simp
theorem refFitsR (a b : Int) (h : Out b) : quaysideref12_Fits.f a b = some false := by
  unfold quaysideref12_Fits.f; rw [refRight b h]; rcases refSome a with e | e <;> rw [e] <;> simp
theorem coversSome (a b : Int) : quaysideref12_Covers.f a b = some true ∨ quaysideref12_Covers.f a b = some false := by
  unfold quaysideref12_Covers.f
  rcases refSome a with e | e <;> rcases refSome b with e' | e' <;> rw [e] <;> simp only [Option.bind_some] <;> try rw [e']
  all_goals simp only [Option.bind_some, if_true, Bool.false_eq_true, if_false]
  · by_cases c1 : a = b
    · simp [c1]
    · rw [if_neg c1]
      by_cases c2 : b = 1
      · simp [c2]
      · rw [if_neg c2]
        by_cases c3 : a = 5
        · simp [c3]
        · rw [if_neg c3]
          by_cases c4 : a = 4
          · rw [if_pos c4]
            by_cases c5 : b = 2
            · simp [c5]
            · rw [if_neg c5]; cases (b == 3) <;> simp
          · simp [c4]
  all_goals simp
theorem refBothRound (k : Nat) (a b i : Int) (hi : i ≤ 5) (h : Out a ∨ Out b) :
    quaysideref12_Both.l0 (k + 2) a b i = quaysideref12_Both.l0 k a b (wrap64 (i + 1)) := by
  simp only [quaysideref12_Both.l0]
  rw [if_pos hi]
  rcases h with h | h
  · rw [refCoversR i a h]; simp [quaysideref12_Both.j1]
  · rw [refCoversR i b h]
    rcases coversSome i a with e | e <;> rw [e] <;> simp [quaysideref12_Both.j1]
theorem refBothOut (a b : Int) (h : Out a ∨ Out b) : quaysideref12_Both.f 39 a b = some 0 := by
  unfold quaysideref12_Both.f
  rw [refBothRound 37 a b 1 (by omega) h, show wrap64 (1 + 1) = 2 from by decide +kernel, refBothRound 35 a b 2 (by omega) h, show wrap64 (2 + 1) = 3 from by decide +kernel, refBothRound 33 a b 3 (by omega) h,
    show wrap64 (3 + 1) = 4 from by decide +kernel, refBothRound 31 a b 4 (by omega) h, show wrap64 (4 + 1) = 5 from by decide +kernel, refBothRound 29 a b 5 (by omega) h, show wrap64 (5 + 1) = 6 from by decide +kernel]
  simp [quaysideref12_Both.l0]
theorem refAroundOut (a : Int) (h : Out a) : quaysideref12_Around.f a = some 0 := by
  unfold quaysideref12_Around.f; rw [refRight a h]; simp
theorem zeroOut : Out 0 := by unfold Out; omega
set_option linter.unusedSimpArgs false
set_option maxHeartbeats 4000000 in
theorem ModeTables : quaysidelaw12_ModeTables.Pure := by
  intro a b _ _
  refine ⟨40, ?_⟩
  rcases cls a with rfl | rfl | rfl | rfl | rfl | ha <;> rcases cls b with rfl | rfl | rfl | rfl | rfl | hb
  all_goals first
    | (decide +kernel)
    | (simp [quaysidelaw12_ModeTables.f, quaysidelaw12_ModeTables.j0, awake40, rightOut a ha, bothL 39 a _ ha, bothR 39 _ a ha, fitsL 39 a _ ha, fitsR 39 _ a ha, coversL 39 a _ ha, coversR 39 _ a ha, aroundOut 39 a ha, bothL 38 a _ ha, bothR 38 _ a ha, fitsL 38 a _ ha, fitsR 38 _ a ha, coversL 38 a _ ha, coversR 38 _ a ha, aroundOut 38 a ha, bothL 37 a _ ha, bothR 37 _ a ha, fitsL 37 a _ ha, fitsR 37 _ a ha, coversL 37 a _ ha, coversR 37 _ a ha, aroundOut 37 a ha, bothL 36 a _ ha, bothR 36 _ a ha, fitsL 36 a _ ha, fitsR 36 _ a ha, coversL 36 a _ ha, coversR 36 _ a ha, aroundOut 36 a ha, refRight a ha, refFitsL a _ ha, refFitsR _ a ha, refCoversL a _ ha, refCoversR _ a ha, refBothOut a _ (.inl ha), refBothOut _ a (.inr ha), refAroundOut a ha, rightOut b hb, bothL 39 b _ hb, bothR 39 _ b hb, fitsL 39 b _ hb, fitsR 39 _ b hb, coversL 39 b _ hb, coversR 39 _ b hb, aroundOut 39 b hb, bothL 38 b _ hb, bothR 38 _ b hb, fitsL 38 b _ hb, fitsR 38 _ b hb, coversL 38 b _ hb, coversR 38 _ b hb, aroundOut 38 b hb, bothL 37 b _ hb, bothR 37 _ b hb, fitsL 37 b _ hb, fitsR 37 _ b hb, coversL 37 b _ hb, coversR 37 _ b hb, aroundOut 37 b hb, bothL 36 b _ hb, bothR 36 _ b hb, fitsL 36 b _ hb, fitsR 36 _ b hb, coversL 36 b _ hb, coversR 36 _ b hb, aroundOut 36 b hb, refRight b hb, refFitsL b _ hb, refFitsR _ b hb, refCoversL b _ hb, refCoversR _ b hb, refBothOut b _ (.inl hb), refBothOut _ b (.inr hb), refAroundOut b hb, bothL 39 0 _ zeroOut, bothL 38 0 _ zeroOut, bothL 37 0 _ zeroOut, bothR 39 _ 0 zeroOut, bothR 38 _ 0 zeroOut, bothR 37 _ 0 zeroOut, fitsL 39 0 _ zeroOut, fitsL 38 0 _ zeroOut, fitsL 37 0 _ zeroOut, fitsR 39 _ 0 zeroOut, fitsR 38 _ 0 zeroOut, fitsR 37 _ 0 zeroOut, coversL 39 0 _ zeroOut, coversL 38 0 _ zeroOut, coversL 37 0 _ zeroOut, coversR 39 _ 0 zeroOut, coversR 38 _ 0 zeroOut, coversR 37 _ 0 zeroOut]; try decide +kernel)
    | (simp [quaysidelaw12_ModeTables.f, quaysidelaw12_ModeTables.j0, awake40, rightOut a ha, bothL 39 a _ ha, bothR 39 _ a ha, fitsL 39 a _ ha, fitsR 39 _ a ha, coversL 39 a _ ha, coversR 39 _ a ha, aroundOut 39 a ha, bothL 38 a _ ha, bothR 38 _ a ha, fitsL 38 a _ ha, fitsR 38 _ a ha, coversL 38 a _ ha, coversR 38 _ a ha, aroundOut 38 a ha, bothL 37 a _ ha, bothR 37 _ a ha, fitsL 37 a _ ha, fitsR 37 _ a ha, coversL 37 a _ ha, coversR 37 _ a ha, aroundOut 37 a ha, bothL 36 a _ ha, bothR 36 _ a ha, fitsL 36 a _ ha, fitsR 36 _ a ha, coversL 36 a _ ha, coversR 36 _ a ha, aroundOut 36 a ha, refRight a ha, refFitsL a _ ha, refFitsR _ a ha, refCoversL a _ ha, refCoversR _ a ha, refBothOut a _ (.inl ha), refBothOut _ a (.inr ha), refAroundOut a ha, bothL 39 0 _ zeroOut, bothL 38 0 _ zeroOut, bothL 37 0 _ zeroOut, bothR 39 _ 0 zeroOut, bothR 38 _ 0 zeroOut, bothR 37 _ 0 zeroOut, fitsL 39 0 _ zeroOut, fitsL 38 0 _ zeroOut, fitsL 37 0 _ zeroOut, fitsR 39 _ 0 zeroOut, fitsR 38 _ 0 zeroOut, fitsR 37 _ 0 zeroOut, coversL 39 0 _ zeroOut, coversL 38 0 _ zeroOut, coversL 37 0 _ zeroOut, coversR 39 _ 0 zeroOut, coversR 38 _ 0 zeroOut, coversR 37 _ 0 zeroOut]; try decide +kernel)
    | (simp [quaysidelaw12_ModeTables.f, quaysidelaw12_ModeTables.j0, awake40, rightOut b hb, bothL 39 b _ hb, bothR 39 _ b hb, fitsL 39 b _ hb, fitsR 39 _ b hb, coversL 39 b _ hb, coversR 39 _ b hb, aroundOut 39 b hb, bothL 38 b _ hb, bothR 38 _ b hb, fitsL 38 b _ hb, fitsR 38 _ b hb, coversL 38 b _ hb, coversR 38 _ b hb, aroundOut 38 b hb, bothL 37 b _ hb, bothR 37 _ b hb, fitsL 37 b _ hb, fitsR 37 _ b hb, coversL 37 b _ hb, coversR 37 _ b hb, aroundOut 37 b hb, bothL 36 b _ hb, bothR 36 _ b hb, fitsL 36 b _ hb, fitsR 36 _ b hb, coversL 36 b _ hb, coversR 36 _ b hb, aroundOut 36 b hb, refRight b hb, refFitsL b _ hb, refFitsR _ b hb, refCoversL b _ hb, refCoversR _ b hb, refBothOut b _ (.inl hb), refBothOut _ b (.inr hb), refAroundOut b hb, bothL 39 0 _ zeroOut, bothL 38 0 _ zeroOut, bothL 37 0 _ zeroOut, bothR 39 _ 0 zeroOut, bothR 38 _ 0 zeroOut, bothR 37 _ 0 zeroOut, fitsL 39 0 _ zeroOut, fitsL 38 0 _ zeroOut, fitsL 37 0 _ zeroOut, fitsR 39 _ 0 zeroOut, fitsR 38 _ 0 zeroOut, fitsR 37 _ 0 zeroOut, coversL 39 0 _ zeroOut, coversL 38 0 _ zeroOut, coversL 37 0 _ zeroOut, coversR 39 _ 0 zeroOut, coversR 38 _ 0 zeroOut, coversR 37 _ 0 zeroOut]; try decide +kernel)

end Go.Proofs.Ytglkbjpcpfbmnaa.Pure
