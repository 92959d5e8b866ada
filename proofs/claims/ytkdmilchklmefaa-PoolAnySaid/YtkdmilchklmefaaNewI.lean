/- New: a pool of so many frames. -/
import Derived.Test.YtkdmilchklmefaaFindI
import Derived.Test.YtkdmilchklmefaaPure
namespace Go.Proofs.Ytkdmilchklmefaa
open Go.RowKit
set_option linter.unusedVariables false
set_option linter.unusedSimpArgs false

theorem Try.info91 : (Try.prog.info? 91).map (fun i => (i.zero, i.size, i.bytes)) = some (some (.agg #[.bool false, .int .i64 0, .int .i64 0, .bool false, .int .i64 0, .bool false, .int .u64 0]), 7, 56) := by kernel_rfl
/-- An empty frame. -/
abbrev izero : Fr Int := ⟨false, 0, 0, false, 0, false, 0⟩

theorem imade_zero (n : Nat) : madeCells #[.bool false, .int .i64 0, .int .i64 0, .bool false, .int .i64 0, .bool false, .int .u64 0] (n * 7) = (encs (encF (Value.int .i64)) (List.replicate n izero)).toArray := by
  apply Array.ext'
  apply List.ext_getElem?
  intro j
  simp only []
  have hl : (encs (encF (Value.int .i64)) (List.replicate n izero)).length = n * 7 := by rw [encs_length (encF_length _)]; simp
  by_cases h : j < n * 7
  · have hq : (List.replicate n izero)[j / 7]? = some izero := by rw [List.getElem?_replicate, if_pos (by omega)]
    have hg := encs_get (encF_length (Value.int .i64)) hq (j := j % 7) (by omega)
    rw [show j / 7 * 7 + j % 7 = j by omega] at hg
    rw [hg]
    have h7 : j % 7 = 0 ∨ j % 7 = 1 ∨ j % 7 = 2 ∨ j % 7 = 3 ∨ j % 7 = 4 ∨ j % 7 = 5 ∨ j % 7 = 6 := by omega
    rcases h7 with h7 | h7 | h7 | h7 | h7 | h7 | h7 <;> simp [madeCells, h, h7, encF]
  · rw [show (encs (encF (Value.int .i64)) (List.replicate n izero))[j]? = none from List.getElem?_eq_none (by rw [hl]; omega)]
    simp [madeCells, h]

theorem imake (n : Int) (h0 : 1 ≤ n) (h1 : n ≤ 16) (w : World) : (Instr.makeSlice 83 (.int .i64 n) (.int .i64 n)).run Try.prog w =
    .ok (.slice (some ⟨w.heap.size, 0, none⟩) n.toNat n.toNat) (w.alloc (.cells (encs (encF (Value.int .i64)) (List.replicate n.toNat izero)).toArray 91)) := by
  obtain ⟨i0, hi, hz0, hz1, hz2⟩ := info_parts Try.info91
  have h := run_make (P := Try.prog) w 83 91 i0 _ Try.underlying83 hi hz0 .i64 .i64 n n (by omega) (Int.le_refl _) (by rw [hz2]; omega) (by omega)
  rw [h, hz1]
  have := imade_zero n.toNat
  rw [show (Value.agg #[.bool false, .int .i64 0, .int .i64 0, .bool false, .int .i64 0, .bool false, .int .u64 0]).cells = #[.bool false, .int .i64 0, .int .i64 0, .bool false, .int .i64 0, .bool false, .int .u64 0] from rfl, this]

set_option maxHeartbeats 1000000 in
theorem inew_any (frames : Int) (w : World) :
    Calls Try.prog 26 #[.int .i64 frames] w fun e w' => e = .returned (.pointer (some ⟨w.heap.size + 1, 0, none⟩)) ∧ iPool w' (w.heap.size + 1) w.heap.size (List.replicate (many frames).toNat izero) 0 ∧ Ext [] w w' := by
  have fin : ∀ n : Int, 1 ≤ n → n ≤ 16 → iPool ((w.alloc (.cells (encs (encF (Value.int .i64)) (List.replicate n.toNat izero)).toArray 91)).alloc (.cells #[.slice (some ⟨w.heap.size, 0, none⟩) n.toNat n.toNat, .int .i64 0] 85)) (w.heap.size + 1) w.heap.size (List.replicate n.toNat izero) 0 := by
    intro n h0 h1
    refine ⟨?_, ?_, by simp; omega, by simp; omega, by omega⟩
    · unfold Blk; rw [heap_alloc2_new]; simp
    · unfold Blk; rw [heap_alloc2_old]
  have HF := Lib.hid fin
  clear fin
  by_cases h1 : 16 < frames
  · have hm : many frames = 16 := by unfold many; omega
    rw [hm]
    clear hm
    have hmk := imake 16 (by omega) (by omega)
    go_enter Try.func26, Try.ntmps26
    go_wp2
    go_ret
    exact ⟨rfl, HF.out 16 (by omega) (by omega), ((Ext.refl _ _).alloc _).alloc _⟩
  · by_cases h2 : 1 < frames
    · have hm : many frames = frames := by unfold many; omega
      rw [hm]
      clear hm
      have hmk := imake frames (by omega) (by omega)
      go_enter Try.func26, Try.ntmps26
      go_wp2
      go_ret
      exact ⟨rfl, HF.out frames (by omega) (by omega), ((Ext.refl _ _).alloc _).alloc _⟩
    · have hm : many frames = 1 := by unfold many; omega
      rw [hm]
      clear hm
      have hmk := imake 1 (by omega) (by omega)
      go_enter Try.func26, Try.ntmps26
      go_wp2
      go_ret
      exact ⟨rfl, HF.out 1 (by omega) (by omega), ((Ext.refl _ _).alloc _).alloc _⟩

end Go.Proofs.Ytkdmilchklmefaa
