/- New: a directory of so many pages, all at home. -/
import Derived.Test.YtkckkbajaaklnaaBase
import Derived.Laws.MakeOwn
namespace Go.Proofs.Ytkckkbajaaklnaa
open Go.RowKit
set_option linter.unusedVariables false
set_option linter.unusedSimpArgs false

/-- So many pages there are. -/
def many (pages : Int) : Int := max 1 (min pages 32)

theorem enc_zero (n : Nat) : ∀ j, (enc (List.replicate n (0, 0)))[j]? = if j < n * 2 then some (.int .i64 0) else none := by
  induction n with
  | zero => intro j; simp [enc]
  | succ n ih =>
    intro j
    rw [List.replicate_succ]
    show (Value.int .i64 0 :: Value.int .i64 0 :: enc (List.replicate n (0, 0)))[j]? = _
    match j with
    | 0 => simp
    | 1 => simp; omega
    | j + 2 =>
      rw [List.getElem?_cons_succ, List.getElem?_cons_succ, ih j]
      by_cases h : j < n * 2
      · rw [if_pos h, if_pos (by omega)]
      · rw [if_neg h, if_neg (by omega)]

theorem made_zero (n : Nat) : madeCells #[.int .i64 0, .int .i64 0] (n * 2) = (enc (List.replicate n (0, 0))).toArray := by
  apply Array.ext'
  apply List.ext_getElem?
  intro j
  simp only []
  rw [enc_zero]
  by_cases h : j < n * 2
  · rw [if_pos h]
    have h2 : j % 2 = 0 ∨ j % 2 = 1 := by omega
    rcases h2 with h2 | h2 <;> simp [madeCells, h, h2]
  · rw [if_neg h]
    simp [madeCells, h]

theorem Try.info57 : (Try.prog.info? 57).map (fun i => (i.zero, i.size, i.bytes)) = some (some (.agg #[.int .i64 0, .int .i64 0]), 2, 16) := by kernel_rfl

theorem make57 (n : Int) (h0 : 1 ≤ n) (h1 : n ≤ 32) (w : World) : (Instr.makeSlice 49 (.int .i64 n) (.int .i64 n)).run Try.prog w =
    .ok (.slice (some ⟨w.heap.size, 0, none⟩) n.toNat n.toNat) (w.alloc (.cells (enc (List.replicate n.toNat (0, 0))).toArray 57)) := by
  obtain ⟨i0, hi, hz0, hz1, hz2⟩ := info_parts Try.info57
  have h := run_make (P := Try.prog) w 49 57 i0 _ Try.underlying49 hi hz0 .i64 .i64 n n (by omega) (Int.le_refl _) (by rw [hz2]; omega) (by omega)
  rw [h, hz1]
  have := made_zero n.toNat
  rw [show (Value.agg #[.int .i64 0, .int .i64 0]).cells = #[.int .i64 0, .int .i64 0] from rfl, this]

set_option maxHeartbeats 1000000 in
theorem new_any (pages : Int) (w : World) :
    Calls Try.prog 9 #[.int .i64 pages] w fun e w' => e = .returned (.pointer (some ⟨w.heap.size + 1, 0, none⟩)) ∧ Dir w' 51 57 (w.heap.size + 1) w.heap.size (List.replicate (many pages).toNat (0, 0)) ∧ Ext [] w w' := by
  have fin : ∀ n : Int, 1 ≤ n → n ≤ 32 → Dir ((w.alloc (.cells (enc (List.replicate n.toNat (0, 0))).toArray 57)).alloc (.cells #[.slice (some ⟨w.heap.size, 0, none⟩) n.toNat n.toNat] 51)) 51 57 (w.heap.size + 1) w.heap.size (List.replicate n.toNat (0, 0)) := by
    intro n h0 h1
    refine ⟨?_, ?_, by simp; omega, by simp; omega⟩
    · rw [heap_alloc2_new]; simp
    · rw [heap_alloc2_old]
  have HF := Lib.hid fin
  clear fin
  by_cases h1 : 32 < pages
  · have hm : many pages = 32 := by unfold many; omega
    rw [hm]
    clear hm
    have hmk := make57 32 (by omega) (by omega)
    go_enter Try.func9, Try.ntmps9
    go_wp2
    go_ret
    exact ⟨rfl, HF.out 32 (by omega) (by omega), ((Ext.refl _ _).alloc _).alloc _⟩
  · by_cases h2 : 1 < pages
    · have hm : many pages = pages := by unfold many; omega
      rw [hm]
      clear hm
      have hmk := make57 pages (by omega) (by omega)
      go_enter Try.func9, Try.ntmps9
      go_wp2
      go_ret
      exact ⟨rfl, HF.out pages (by omega) (by omega), ((Ext.refl _ _).alloc _).alloc _⟩
    · have hm : many pages = 1 := by unfold many; omega
      rw [hm]
      clear hm
      have hmk := make57 1 (by omega) (by omega)
      go_enter Try.func9, Try.ntmps9
      go_wp2
      go_ret
      exact ⟨rfl, HF.out 1 (by omega) (by omega), ((Ext.refl _ _).alloc _).alloc _⟩

end Go.Proofs.Ytkckkbajaaklnaa
