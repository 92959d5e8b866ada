/- The reference's New. -/
import Derived.Test.YtkckkbajaaklnaaNew
namespace Go.Proofs.Ytkckkbajaaklnaa
open Go.RowKit
set_option linter.unusedVariables false
set_option linter.unusedSimpArgs false

theorem Try.info70 : (Try.prog.info? 70).map (fun i => (i.zero, i.size, i.bytes)) = some (some (.agg #[.int .i64 0, .int .i64 0]), 2, 16) := by kernel_rfl

theorem make70 (n : Int) (h0 : 1 ≤ n) (h1 : n ≤ 32) (w : World) : (Instr.makeSlice 59 (.int .i64 n) (.int .i64 n)).run Try.prog w =
    .ok (.slice (some ⟨w.heap.size, 0, none⟩) n.toNat n.toNat) (w.alloc (.cells (enc (List.replicate n.toNat (0, 0))).toArray 70)) := by
  obtain ⟨i0, hi, hz0, hz1, hz2⟩ := info_parts Try.info70
  have h := run_make (P := Try.prog) w 59 70 i0 _ Try.underlying59 hi hz0 .i64 .i64 n n (by omega) (Int.le_refl _) (by rw [hz2]; omega) (by omega)
  rw [h, hz1]
  have := made_zero n.toNat
  rw [show (Value.agg #[.int .i64 0, .int .i64 0]).cells = #[.int .i64 0, .int .i64 0] from rfl, this]

set_option maxHeartbeats 1000000 in
theorem rnew_any (pages : Int) (w : World) :
    Calls Try.prog 15 #[.int .i64 pages] w fun e w' => e = .returned (.pointer (some ⟨w.heap.size + 1, 0, none⟩)) ∧ Dir w' 61 70 (w.heap.size + 1) w.heap.size (List.replicate (many pages).toNat (0, 0)) ∧ Ext [] w w' := by
  have fin : ∀ n : Int, 1 ≤ n → n ≤ 32 → Dir ((w.alloc (.cells (enc (List.replicate n.toNat (0, 0))).toArray 70)).alloc (.cells #[.slice (some ⟨w.heap.size, 0, none⟩) n.toNat n.toNat] 61)) 61 70 (w.heap.size + 1) w.heap.size (List.replicate n.toNat (0, 0)) := by
    intro n h0 h1
    refine ⟨?_, ?_, by simp; omega, by simp; omega⟩
    · rw [heap_alloc2_new]; simp
    · rw [heap_alloc2_old]
  have HF := Lib.hid fin
  clear fin
  by_cases h1 : 32 < pages
  · have hm : many pages = 32 := by unfold many; omega
    rw [hm]
    clear hm
    have hmk := make70 32 (by omega) (by omega)
    go_enter Try.func15, Try.ntmps15
    go_wp2
    go_ret
    exact ⟨rfl, HF.out 32 (by omega) (by omega), ((Ext.refl _ _).alloc _).alloc _⟩
  · by_cases h2 : 1 < pages
    · have hm : many pages = pages := by unfold many; omega
      rw [hm]
      clear hm
      have hmk := make70 pages (by omega) (by omega)
      go_enter Try.func15, Try.ntmps15
      go_wp2
      go_ret
      exact ⟨rfl, HF.out pages (by omega) (by omega), ((Ext.refl _ _).alloc _).alloc _⟩
    · have hm : many pages = 1 := by unfold many; omega
      rw [hm]
      clear hm
      have hmk := make70 1 (by omega) (by omega)
      go_enter Try.func15, Try.ntmps15
      go_wp2
      go_ret
      exact ⟨rfl, HF.out 1 (by omega) (by omega), ((Ext.refl _ _).alloc _).alloc _⟩

end Go.Proofs.Ytkckkbajaaklnaa
