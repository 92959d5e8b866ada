/- play: a call whose answer isn't looked at; a script of them. -/
import Derived.Test.YtkckkbajaaklnaaScript
namespace Go.Proofs.Ytkckkbajaaklnaa
open Go.RowKit
set_option linter.unusedVariables false
set_option linter.unusedSimpArgs false

/-- The call's own row, and a directory. -/
structure PS (w0 : World) (b g : Nat) (w : World) (c : Array Value) (L : List (Int × Int)) : Prop where
  d : Dir w 51 57 b g L
  box : w.heap[w0.heap.size]? = some (.cells c 37 (0, 0))
  ext : Ext [g] w0 w
theorem PS.cell {w0 w : World} {b g : Nat} {c : Array Value} {L : List (Int × Int)} (h : PS w0 b g w c L) (i : Nat) : w.cell? ⟨w0.heap.size, i, none⟩ = c[i]? := cell_of_row w _ i c 37 (0, 0) h.box
theorem PS.start {w0 : World} {b g : Nat} {c : Array Value} {L : List (Int × Int)} (h : Dir w0 51 57 b g L) : PS w0 b g (w0.alloc (.cells c 37)) c L := ⟨h.alloc _, heap_alloc_new _ _, (Ext.refl _ _).alloc _⟩

set_option maxHeartbeats 1000000 in
theorem play_ask (w : World) (b g : Nat) (L : List (Int × Int)) (h : Dir w 51 57 b g L) (p a bb : Int) :
    Calls Try.prog 17 #[.pointer (some ⟨b, 0, none⟩), .agg #[.int .i64 1, .int .i64 p, .int .i64 a, .int .i64 bb]] w fun e w' => e = .returned (.tuple #[]) ∧ Upd w w' 51 57 b g (askL L p a) := by
  have H := Lib.hid h
  clear h
  go_enter Try.func17, Try.ntmps17
  go_wp2_with (go_at_call 10; fail)
  refine (ask_any b g L _ (H.out.alloc _) p a).mono ?_
  rintro e w1 ⟨rfl, hu⟩
  have HU : Hid (Upd w w1 51 57 b g (askL L p a)) := ⟨hu.1, ((Ext.refl _ _).alloc _).trans hu.2⟩
  clear hu
  go_wp2
  go_end0
  exact ⟨rfl, HU.out⟩

set_option maxHeartbeats 1000000 in
theorem play_ship (w : World) (b g : Nat) (L : List (Int × Int)) (h : Dir w 51 57 b g L) (p a bb : Int) :
    Calls Try.prog 17 #[.pointer (some ⟨b, 0, none⟩), .agg #[.int .i64 2, .int .i64 p, .int .i64 a, .int .i64 bb]] w fun e w' => e = .returned (.tuple #[]) ∧ Upd w w' 51 57 b g (shipL L p a bb) := by
  have H := Lib.hid h
  clear h
  go_enter Try.func17, Try.ntmps17
  go_wp2_with (go_at_call 12; fail)
  refine (ship_any b g L _ (H.out.alloc _) p a bb).mono ?_
  rintro e w1 ⟨rfl, hu⟩
  have HU : Hid (Upd w w1 51 57 b g (shipL L p a bb)) := ⟨hu.1, ((Ext.refl _ _).alloc _).trans hu.2⟩
  clear hu
  go_wp2
  go_end0
  exact ⟨rfl, HU.out⟩

set_option maxHeartbeats 1000000 in
theorem play_land (w : World) (b g : Nat) (L : List (Int × Int)) (h : Dir w 51 57 b g L) (p a bb : Int) :
    Calls Try.prog 17 #[.pointer (some ⟨b, 0, none⟩), .agg #[.int .i64 3, .int .i64 p, .int .i64 a, .int .i64 bb]] w fun e w' => e = .returned (.tuple #[]) ∧ Upd w w' 51 57 b g (landL L p a) := by
  have H := Lib.hid h
  clear h
  go_enter Try.func17, Try.ntmps17
  go_wp2_with (go_at_call 11; fail)
  refine (land_any b g L _ (H.out.alloc _) p a).mono ?_
  rintro e w1 ⟨rfl, hu⟩
  have HU : Hid (Upd w w1 51 57 b g (landL L p a)) := ⟨hu.1, ((Ext.refl _ _).alloc _).trans hu.2⟩
  clear hu
  go_wp2
  go_end0
  exact ⟨rfl, HU.out⟩

set_option maxHeartbeats 1000000 in
theorem play_leave (w : World) (b g : Nat) (L : List (Int × Int)) (h : Dir w 51 57 b g L) (p a bb : Int) :
    Calls Try.prog 17 #[.pointer (some ⟨b, 0, none⟩), .agg #[.int .i64 4, .int .i64 p, .int .i64 a, .int .i64 bb]] w fun e w' => e = .returned (.tuple #[]) ∧ Upd w w' 51 57 b g (leaveL L p a) := by
  have H := Lib.hid h
  clear h
  go_enter Try.func17, Try.ntmps17
  go_wp2_with (go_at_call 13; fail)
  refine (leave_any b g L _ (H.out.alloc _) p a).mono ?_
  rintro e w1 ⟨rfl, hu⟩
  have HU : Hid (Upd w w1 51 57 b g (leaveL L p a)) := ⟨hu.1, ((Ext.refl _ _).alloc _).trans hu.2⟩
  clear hu
  go_wp2
  go_end0
  exact ⟨rfl, HU.out⟩

set_option maxHeartbeats 1000000 in
theorem play_heal (w : World) (b g : Nat) (L : List (Int × Int)) (h : Dir w 51 57 b g L) (p a bb : Int) :
    Calls Try.prog 17 #[.pointer (some ⟨b, 0, none⟩), .agg #[.int .i64 6, .int .i64 p, .int .i64 a, .int .i64 bb]] w fun e w' => e = .returned (.tuple #[]) ∧ Upd w w' 51 57 b g (healL L p) := by
  have H := Lib.hid h
  clear h
  go_enter Try.func17, Try.ntmps17
  go_wp2_with (go_at_call 14; fail)
  refine (heal_any b g L _ (H.out.alloc _) p).mono ?_
  rintro e w1 ⟨rfl, hu⟩
  have HU : Hid (Upd w w1 51 57 b g (healL L p)) := ⟨hu.1, ((Ext.refl _ _).alloc _).trans hu.2⟩
  clear hu
  go_wp2
  go_end0
  exact ⟨rfl, HU.out⟩

set_option maxHeartbeats 1000000 in
theorem play_fail (w : World) (b g : Nat) (L : List (Int × Int)) (h : Dir w 51 57 b g L) (p a bb : Int) :
    Calls Try.prog 17 #[.pointer (some ⟨b, 0, none⟩), .agg #[.int .i64 5, .int .i64 p, .int .i64 a, .int .i64 bb]] w fun e w' => e = .returned (.tuple #[]) ∧ Upd w w' 51 57 b g (failL L a) := by
  have H := Lib.hid h
  clear h
  go_enter Try.func17, Try.ntmps17
  go_wp2_with (go_at_call 20; fail)
  refine (fail_any b g L _ (H.out.alloc _) a).mono ?_
  rintro e w1 ⟨A, c, rfl, hi, hu⟩
  have HU : Hid (Upd w w1 51 57 b g (failL L a)) := ⟨hu.1, ((Ext.refl _ _).alloc _).trans hu.2⟩
  clear hu
  go_wp2
  go_end0
  exact ⟨rfl, HU.out⟩

set_option maxHeartbeats 1000000 in
theorem play_none (w : World) (b g : Nat) (L : List (Int × Int)) (h : Dir w 51 57 b g L) (k p a bb : Int) (hk : ¬ (1 ≤ k ∧ k ≤ 6)) :
    Calls Try.prog 17 #[.pointer (some ⟨b, 0, none⟩), .agg #[.int .i64 k, .int .i64 p, .int .i64 a, .int .i64 bb]] w fun e w' => e = .returned (.tuple #[]) ∧ Upd w w' 51 57 b g L := by
  have H := Lib.hid h
  have k1 : (k == 1) = false := beq_eq_false_iff_ne.2 (by omega)
  have k2 : (k == 2) = false := beq_eq_false_iff_ne.2 (by omega)
  have k3 : (k == 3) = false := beq_eq_false_iff_ne.2 (by omega)
  have k4 : (k == 4) = false := beq_eq_false_iff_ne.2 (by omega)
  have k5 : (k == 5) = false := beq_eq_false_iff_ne.2 (by omega)
  have k6 : (k == 6) = false := beq_eq_false_iff_ne.2 (by omega)
  clear h hk
  go_enter Try.func17, Try.ntmps17
  go_wp2
  go_end0
  exact ⟨rfl, H.out.alloc _, (Ext.refl _ _).alloc _⟩

theorem play_any (w : World) (b g : Nat) (L : List (Int × Int)) (h : Dir w 51 57 b g L) (k p a bb : Int) :
    Calls Try.prog 17 #[.pointer (some ⟨b, 0, none⟩), .agg #[.int .i64 k, .int .i64 p, .int .i64 a, .int .i64 bb]] w fun e w' => e = .returned (.tuple #[]) ∧ Upd w w' 51 57 b g (doesL L k p a bb) := by
  by_cases hk : 1 ≤ k ∧ k ≤ 6
  · have : k = 1 ∨ k = 2 ∨ k = 3 ∨ k = 4 ∨ k = 5 ∨ k = 6 := by omega
    rcases this with rfl | rfl | rfl | rfl | rfl | rfl
    · exact play_ask w b g L h p a bb
    · exact play_ship w b g L h p a bb
    · exact play_land w b g L h p a bb
    · exact play_leave w b g L h p a bb
    · exact play_fail w b g L h p a bb
    · exact play_heal w b g L h p a bb
  · have e : doesL L k p a bb = L := by
      unfold doesL
      rw [if_neg (by omega), if_neg (by omega), if_neg (by omega), if_neg (by omega), if_neg (by omega), if_neg (by omega)]
    rw [e]
    exact play_none w b g L h k p a bb hk

/-- What may stand in a place. -/
def Right (q : Int × Int) : Prop := q = (0, 0) ∨ (1 ≤ q.1 ∧ q.1 ≤ 3 ∧ 0 ≤ q.2 ∧ q.2 < 8)
def Rights (L : List (Int × Int)) : Prop := ∀ q ∈ L, Right q
theorem node_range {n : Int} (h : nodeB n = true) : 0 ≤ n ∧ n < 8 := by unfold nodeB at h; simpa using h
theorem Rights.set {L : List (Int × Int)} (h : Rights L) (i : Nat) {q : Int × Int} (hq : Right q) : Rights (L.set i q) := by
  intro r hr
  rcases List.mem_or_eq_of_mem_set hr with h1 | h1
  · exact h r h1
  · subst h1; exact hq
theorem Rights.home (n : Nat) : Rights (List.replicate n (0, 0)) := by
  intro q hq
  rw [List.eq_of_mem_replicate hq]; exact .inl rfl
theorem Rights.does {L : List (Int × Int)} (h : Rights L) (k p a bb : Int) : Rights (doesL L k p a bb) := by
  unfold doesL
  split
  · unfold askL
    split
    · rename_i hh; have := node_range hh.2.1; exact h.set _ (.inr ⟨by simp, by simp, this.1, this.2⟩)
    · exact h
  split
  · unfold shipL; split
    · exact h
    · unfold turnL; split
      · rename_i hh; have := node_range hh.1.2.2; exact h.set _ (.inr ⟨by simp, by simp, this.1, this.2⟩)
      · exact h
  split
  · unfold landL turnL; split
    · rename_i hh; have := node_range hh.1.2.2; exact h.set _ (.inr ⟨by simp, by simp, this.1, this.2⟩)
    · exact h
  split
  · unfold leaveL turnL; split
    · exact h.set _ (.inl rfl)
    · exact h
  split
  · unfold failL
    intro q hq
    obtain ⟨r, hr, rfl⟩ := List.mem_map.1 hq
    unfold failP
    split
    · rename_i hh
      have := h r hr
      rcases hh with rfl | rfl
      all_goals
        rcases this with h1 | ⟨_, _, h3, h4⟩
        · simp at h1
        · exact .inr ⟨by simp, by simp, h3, h4⟩
    · exact h r hr
  split
  · unfold healL; split
    · exact h.set _ (.inl rfl)
    · exact h
  exact h
theorem Rights.play {L : List (Int × Int)} (h : Rights L) (l : List Op) : Rights (playL L l) := by
  induction l generalizing L with
  | nil => exact h
  | cons o l ih => exact ih (h.does _ _ _ _)

/-- A directory in memory of the call's own. -/
structure Own1 (w0 : World) (b g : Nat) (w : World) (L : List (Int × Int)) : Prop where
  d : Dir w 51 57 b g L
  ext : Ext [] w0 w
  new : w0.heap.size ≤ g
theorem Own1.up {w0 w w' : World} {b g : Nat} {L L' : List (Int × Int)} (h : Own1 w0 b g w L) (u : Upd w w' 51 57 b g L') : Own1 w0 b g w' L' :=
  ⟨u.1, h.ext.new u.2 (by have := h.new; simp; omega), h.new⟩
theorem Own1.same {w0 w w' : World} {b g : Nat} {L : List (Int × Int)} (h : Own1 w0 b g w L) (u : Ext [] w w') : Own1 w0 b g w' L :=
  ⟨h.d.ext u (by simp) (by simp), h.ext.trans u, h.new⟩
theorem Own1.play {w0 w : World} {b g : Nat} {L : List (Int × Int)} (h : Own1 w0 b g w L) (k p a bb : Int) :
    Calls Try.prog 17 #[.pointer (some ⟨b, 0, none⟩), .agg #[.int .i64 k, .int .i64 p, .int .i64 a, .int .i64 bb]] w fun e w' => e = .returned (.tuple #[]) ∧ Own1 w0 b g w' (doesL L k p a bb) :=
  (play_any w b g L h.d k p a bb).mono fun e w' ⟨he, hu⟩ => ⟨he, h.up hu⟩

end Go.Proofs.Ytkckkbajaaklnaa
