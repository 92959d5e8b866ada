/- awake: a script of eight bytes is decoded. -/
import Derived.Test.YthedllndcibkcaaSteps
import Derived.Lib.ConvBytes
namespace Go.Proofs.Ythedllndcibkcaa
open Go.RowKit
set_option linter.unusedVariables false
set_option linter.unusedSimpArgs false

theorem dec_awake : dec (([1, 0, 0, 0, 1, 8, 0, 1] : List Int).drop 5) = [⟨8, 0, 1, 0, 0, 0, 0, 0, ⟨#[]⟩⟩] := by
  show dec [8, 0, 1] = _
  rw [dec_step (by decide) (by decide)]
  rfl

set_option maxHeartbeats 4000000 in
theorem awake_any (w : World) : Calls Try.prog 5 #[] w fun e w' => e = .returned (.bool true) ∧ Ext [] w w' := by
  have hd := decode_any (w.alloc (.cells #[.int .u8 1, .int .u8 0, .int .u8 0, .int .u8 0, .int .u8 1, .int .u8 8, .int .u8 0, .int .u8 1] 5)) w.heap.size 8 [1, 0, 0, 0, 1, 8, 0, 1] (by simp)
    (fun j x hj => by
      match j, hj with
      | 0, hj => simp at hj; subst hj; simp
      | 1, hj => simp at hj; subst hj; simp
      | 2, hj => simp at hj; subst hj; simp
      | 3, hj => simp at hj; subst hj; simp
      | 4, hj => simp at hj; subst hj; simp
      | 5, hj => simp at hj; subst hj; simp
      | 6, hj => simp at hj; subst hj; simp
      | 7, hj => simp at hj; subst hj; simp)
    (by intro x hx; simp at hx; omega) (by simp) (by simp)
  have HD := Lib.hid hd
  clear hd
  go_enter Try.func5, Try.ntmps5
  go_wp2_with (go_at_call 6; fail)
  refine HD.out.mono ?_
  rintro e w1 ⟨A, c, he, hown, hext⟩
  have eT : ([1, 0, 0, 0, 1, 8, 0, 1] : List Int).take 4096 = [1, 0, 0, 0, 1, 8, 0, 1] := rfl
  rw [eT, dec_awake] at he hown
  have he' : e = .returned (.tuple #[.agg #[.int .i64 2, .int .i64 1, .int .i64 1, .int .i64 511, .bool false, .int .u64 0], .slice A 1 c]) := he
  obtain ⟨g, rfl, _, _⟩ := own_some (n := 1) hown (by omega)
  have c0 := own_cell (n := 1) hown (j := 0) (v := .int .i64 8) rfl
  have c2 := own_cell (n := 1) hown (j := 2) (v := .int .i64 1) rfl
  have hlt := (own_some (n := 1) hown (by omega))
  obtain ⟨g', hg', _, hlt⟩ := hlt
  have hgg : g' = g := by injection hg' with hg'; injection hg' with hg' _; exact hg'.symm
  subst hgg
  have hne : g' ≠ w1.heap.size := by omega
  have HX := Lib.hid ((((Ext.refl [] w).alloc _).trans hext).alloc (.cells #[.int .i64 2, .int .i64 1, .int .i64 1, .int .i64 511, .bool false, .int .u64 0] 25))
  subst he'
  clear he hown hext eT hg'
  go_wp2
  go_ret
  exact ⟨rfl, HX.out⟩

end Go.Proofs.Ythedllndcibkcaa
