/- New: a pool of so many frames. -/
import Derived.Test.YtkdmilchklmefaaFindS
import Derived.Test.YtkdmilchklmefaaPure
namespace Go.Proofs.Ytkdmilchklmefaa
open Go.RowKit
set_option linter.unusedVariables false
set_option linter.unusedSimpArgs false

theorem Try.info71 : (Try.prog.info? 71).map (fun i => (i.zero, i.size, i.bytes)) = some (some (.agg #[.bool false, .int .i64 0, .string ByteArray.empty, .bool false, .int .i64 0, .bool false, .int .u64 0]), 7, 64) := by kernel_rfl
/-- An empty frame. -/
abbrev szero : Fr ByteArray := ⟨false, 0, ByteArray.empty, false, 0, false, 0⟩

theorem smade_zero (n : Nat) : madeCells #[.bool false, .int .i64 0, .string ByteArray.empty, .bool false, .int .i64 0, .bool false, .int .u64 0] (n * 7) = (encs (encF Value.string) (List.replicate n szero)).toArray := by
  apply Array.ext'
  apply List.ext_getElem?
  intro j
  simp only []
  have hl : (encs (encF Value.string) (List.replicate n szero)).length = n * 7 := by rw [encs_length (encF_length _)]; simp
  by_cases h : j < n * 7
  · have hq : (List.replicate n szero)[j / 7]? = some szero := by rw [List.getElem?_replicate, if_pos (by omega)]
    have hg := encs_get (encF_length Value.string) hq (j := j % 7) (by omega)
    rw [show j / 7 * 7 + j % 7 = j by omega] at hg
    rw [hg]
    have h7 : j % 7 = 0 ∨ j % 7 = 1 ∨ j % 7 = 2 ∨ j % 7 = 3 ∨ j % 7 = 4 ∨ j % 7 = 5 ∨ j % 7 = 6 := by omega
    rcases h7 with h7 | h7 | h7 | h7 | h7 | h7 | h7 <;> simp [madeCells, h, h7, encF]
  · rw [show (encs (encF Value.string) (List.replicate n szero))[j]? = none from List.getElem?_eq_none (by rw [hl]; omega)]
    simp [madeCells, h]

theorem smake (n : Int) (h0 : 1 ≤ n) (h1 : n ≤ 16) (w : World) : (Instr.makeSlice 64 (.int .i64 n) (.int .i64 n)).run Try.prog w =
    .ok (.slice (some ⟨w.heap.size, 0, none⟩) n.toNat n.toNat) (w.alloc (.cells (encs (encF Value.string) (List.replicate n.toNat szero)).toArray 71)) := by
  obtain ⟨i0, hi, hz0, hz1, hz2⟩ := info_parts Try.info71
  have h := run_make (P := Try.prog) w 64 71 i0 _ Try.underlying64 hi hz0 .i64 .i64 n n (by omega) (Int.le_refl _) (by rw [hz2]; omega) (by omega)
  rw [h, hz1]
  have := smade_zero n.toNat
  rw [show (Value.agg #[.bool false, .int .i64 0, .string ByteArray.empty, .bool false, .int .i64 0, .bool false, .int .u64 0]).cells = #[.bool false, .int .i64 0, .string ByteArray.empty, .bool false, .int .i64 0, .bool false, .int .u64 0] from rfl, this]

set_option maxHeartbeats 1000000 in
theorem snew_any (frames : Int) (w : World) :
    Calls Try.prog 10 #[.int .i64 frames] w fun e w' => e = .returned (.pointer (some ⟨w.heap.size + 1, 0, none⟩)) ∧ sPool w' (w.heap.size + 1) w.heap.size (List.replicate (many frames).toNat szero) 0 ∧ Ext [] w w' := by
  have fin : ∀ n : Int, 1 ≤ n → n ≤ 16 → sPool ((w.alloc (.cells (encs (encF Value.string) (List.replicate n.toNat szero)).toArray 71)).alloc (.cells #[.slice (some ⟨w.heap.size, 0, none⟩) n.toNat n.toNat, .int .i64 0] 66)) (w.heap.size + 1) w.heap.size (List.replicate n.toNat szero) 0 := by
    intro n h0 h1
    refine ⟨?_, ?_, by simp; omega, by simp; omega, by omega⟩
    · unfold Blk; rw [heap_alloc2_new]; simp
    · unfold Blk; rw [heap_alloc2_old]
  have HF := Lib.hid fin
  clear fin
  by_cases h1 : 16 < frames
  · have hm : many frames = 16 := by unfold many; omega
    rw [hm]
    clear hm
    have hmk := smake 16 (by omega) (by omega)
    go_enter Try.func10, Try.ntmps10
    go_wp2
    go_ret
    exact ⟨rfl, HF.out 16 (by omega) (by omega), ((Ext.refl _ _).alloc _).alloc _⟩
  · by_cases h2 : 1 < frames
    · have hm : many frames = frames := by unfold many; omega
      rw [hm]
      clear hm
      have hmk := smake frames (by omega) (by omega)
      go_enter Try.func10, Try.ntmps10
      go_wp2
      go_ret
      exact ⟨rfl, HF.out frames (by omega) (by omega), ((Ext.refl _ _).alloc _).alloc _⟩
    · have hm : many frames = 1 := by unfold many; omega
      rw [hm]
      clear hm
      have hmk := smake 1 (by omega) (by omega)
      go_enter Try.func10, Try.ntmps10
      go_wp2
      go_ret
      exact ⟨rfl, HF.out 1 (by omega) (by omega), ((Ext.refl _ _).alloc _).alloc _⟩

end Go.Proofs.Ytkdmilchklmefaa
