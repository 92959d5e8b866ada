/- What OwnerFails looks at: plain lists, and the two arrays in memory. -/
import Derived.Test.YtkckkbajaaklnaaPlay
namespace Go.Proofs.Ytkckkbajaaklnaa
open Go.RowKit
set_option linter.unusedVariables false
set_option linter.unusedSimpArgs false

theorem whereK_get {L : List (Int × Int)} {i : Nat} {q : Int × Int} (h : L[i]? = some q) : whereK L (i : Int) = q.1 ∧ whereN L (i : Int) = q.2 := by
  have hl := (List.getElem?_eq_some_iff.1 h).1
  have hin : inP L (i : Int) := ⟨by omega, by omega⟩
  unfold whereK whereN pl
  rw [if_pos hin, if_pos hin, Int.toNat_natCast, List.getD_eq_getElem?_getD, h]
  exact ⟨rfl, rfl⟩
theorem fail_get {L : List (Int × Int)} {i : Nat} {q : Int × Int} (n : Int) (h : L[i]? = some q) : (failL L n)[i]? = some (failP n q) := by simp [failL, h]
theorem failK_split (L : List (Int × Int)) (n : Int) : ∀ (i s : Nat), failK L s n = failK (L.take i) s n ++ failK (L.drop i) (s + (L.take i).length) n := by
  induction L with
  | nil => intro i s; simp [failK]
  | cons q L ih =>
    intro i s
    cases i with
    | zero => simp [failK]
    | succ i =>
      simp only [List.take_succ_cons, List.drop_succ_cons, failK, List.length_cons]
      rw [ih i (s + 1), show s + ((L.take i).length + 1) = s + 1 + (L.take i).length by omega]
      split <;> simp
/-- So many pages are lost ahead of one. -/
def lostN (L : List (Int × Int)) (n : Int) (i : Nat) : Nat := (failK (L.take i) 0 n).length
theorem lostN_all (L : List (Int × Int)) (n : Int) : lostN L n L.length = (failK L 0 n).length := by unfold lostN; rw [List.take_length]
theorem lostN_next {L : List (Int × Int)} (n : Int) {i : Nat} {q : Int × Int} (h : L[i]? = some q) : lostN L n (i + 1) = lostN L n i + (if q = (1, n) ∨ q = (2, n) then 1 else 0) := by
  unfold lostN
  have hl := (List.getElem?_eq_some_iff.1 h).1
  rw [List.take_add_one, h, Option.toList_some]
  have : ∀ (M : List (Int × Int)) (s : Nat), (failK (M ++ [q]) s n).length = (failK M s n).length + (if q = (1, n) ∨ q = (2, n) then 1 else 0) := by
    intro M
    induction M with
    | nil => intro s; simp only [List.nil_append, failK]; split <;> simp
    | cons a M ih => intro s; simp only [List.cons_append, failK]; split <;> simp [ih] <;> omega
  exact this _ _
theorem lost_at {L : List (Int × Int)} {n : Int} {i : Nat} {q : Int × Int} (h : L[i]? = some q) (hq : q = (1, n) ∨ q = (2, n)) : (failK L 0 n)[lostN L n i]? = some (i : Int) := by
  have hl := (List.getElem?_eq_some_iff.1 h).1
  have he := (List.getElem?_eq_some_iff.1 h).2
  rw [failK_split L n i 0]
  unfold lostN
  rw [List.getElem?_append_right (Nat.le_refl _), Nat.sub_self, List.drop_eq_getElem_cons hl, he]
  simp only [failK]
  rw [if_pos hq]
  simp [Nat.min_eq_left (Nat.le_of_lt hl)]
theorem lostN_le (L : List (Int × Int)) (n : Int) (i : Nat) : lostN L n i ≤ i := by
  unfold lostN
  have : ∀ (M : List (Int × Int)) (s : Nat), (failK M s n).length ≤ M.length := by
    intro M
    induction M with
    | nil => intro s; simp [failK]
    | cons a M ih => intro s; have := ih (s + 1); simp only [failK]; split <;> simp <;> omega
  have h := this (L.take i) 0
  have := List.length_take_le i L
  omega

/-- Nothing is with a node, or on the way to it. -/
def Fine (n : Int) (L : List (Int × Int)) : Prop := ∀ q ∈ L, q ≠ (1, n) ∧ q ≠ (2, n)
theorem Fine.fail (L : List (Int × Int)) (n : Int) : Fine n (failL L n) := by
  intro q hq
  obtain ⟨r, _, rfl⟩ := List.mem_map.1 hq
  unfold failP
  split
  · simp
  · rename_i h; exact ⟨fun e => h (.inl e), fun e => h (.inr e)⟩
theorem Fine.set {n : Int} {L : List (Int × Int)} (h : Fine n L) (i : Nat) : Fine n (L.set i (0, 0)) := by
  intro q hq
  rcases List.mem_or_eq_of_mem_set hq with h1 | h1
  · exact h q h1
  · subst h1; simp
theorem Fine.of {n : Int} {L : List (Int × Int)} (h : Fine n L) : ofK L 0 n 1 = [] ∧ ofK L 0 n 2 = [] ∧ failK L 0 n = [] ∧ failL L n = L := by
  refine ⟨?_, ?_, ?_, ?_⟩
  · apply List.eq_nil_iff_forall_not_mem.2
    intro x hx
    obtain ⟨j, _, hj⟩ := (ofK_mem _ _ _ _ _).1 hx
    exact (h _ (List.mem_of_getElem? hj)).1 rfl
  · apply List.eq_nil_iff_forall_not_mem.2
    intro x hx
    obtain ⟨j, _, hj⟩ := (ofK_mem _ _ _ _ _).1 hx
    exact (h _ (List.mem_of_getElem? hj)).2 rfl
  · apply List.eq_nil_iff_forall_not_mem.2
    intro x hx
    obtain ⟨j, _, hj⟩ := (failK_mem _ _ _ _).1 hx
    rcases hj with hj | hj
    · exact (h _ (List.mem_of_getElem? hj)).1 rfl
    · exact (h _ (List.mem_of_getElem? hj)).2 rfl
  · unfold failL
    conv => rhs; rw [← List.map_id L]
    apply List.map_congr_left
    intro q hq
    unfold failP
    rw [if_neg (fun hh => by rcases hh with hh | hh; exact (h q hq).1 hh; exact (h q hq).2 hh)]
    rfl
theorem fail_lost {L : List (Int × Int)} {n : Int} {j : Nat} {x : Int} (h : (failK L 0 n)[j]? = some x) : ∃ p : Nat, x = (p : Int) ∧ p < L.length ∧ (failL L n)[p]? = some (3, n) := by
  obtain ⟨p, hp, hq⟩ := (failK_mem L 0 n x).1 (List.mem_of_getElem? h)
  refine ⟨p, by omega, ?_, ?_⟩
  · rcases hq with hq | hq <;> exact (List.getElem?_eq_some_iff.1 hq).1
  · rcases hq with hq | hq <;> rw [fail_get n hq] <;> simp [failP]
theorem fail_apart {L : List (Int × Int)} {n : Int} {i j : Nat} {x y : Int} (hij : i < j) (hx : (failK L 0 n)[i]? = some x) (hy : (failK L 0 n)[j]? = some y) : x < y := by
  have h := failK_rise L 0 n
  rw [List.pairwise_iff_getElem] at h
  obtain ⟨h1, h2⟩ := List.getElem?_eq_some_iff.1 hx
  obtain ⟨h3, h4⟩ := List.getElem?_eq_some_iff.1 hy
  rw [← h2, ← h4]
  exact h i j h1 h3 hij

/-- An array that was filled so far. -/
def arrL (f : Nat → Int) (j : Nat) : List Int := (List.range 32).map fun i => if i < j then f i else 0
theorem arrL_get (f : Nat → Int) (j : Nat) {i : Nat} (hi : i < 32) : (arrL f j)[i]? = some (if i < j then f i else 0) := by simp [arrL, hi]
theorem arrL_next (f : Nat → Int) {j : Nat} (hj : j < 32) : arrL f (j + 1) = (arrL f j).set j (f j) := by
  apply List.ext_getElem?
  intro i
  by_cases hi : i < 32
  · rw [arrL_get _ _ hi, List.getElem?_set]
    by_cases e : j = i
    · subst e; simp [arrL, hj]
    · rw [if_neg e, arrL_get _ _ hi]
      by_cases h : i < j
      · rw [if_pos h, if_pos (by omega)]
      · rw [if_neg h, if_neg (by omega)]
  · rw [List.getElem?_eq_none (by simp [arrL]; omega), List.getElem?_eq_none (by simp [arrL]; omega)]

/-- The two arrays in their blocks, and a directory. -/
structure FS (w0 : World) (b g wb ab : Nat) (w : World) (L : List (Int × Int)) (lw la : List Int) : Prop where
  o : Own1 w0 b g w L
  cw : w.heap[wb]? = some (.cells (lw.map (Value.int .i64)).toArray 46 (0, 0))
  ca : w.heap[ab]? = some (.cells (la.map (Value.int .i64)).toArray 40 (0, 0))
  new : w0.heap.size ≤ wb ∧ w0.heap.size ≤ ab
section
variable {w0 w w' : World} {b g wb ab : Nat} {L L' : List (Int × Int)} {lw la : List Int}
theorem FS.ne (h : FS w0 b g wb ab w L lw la) : b ≠ wb ∧ g ≠ wb ∧ b ≠ ab ∧ g ≠ ab ∧ wb ≠ ab := by
  refine ⟨?_, ?_, ?_, ?_, ?_⟩
  · rintro rfl; have := h.o.d.hd.symm.trans h.cw; simp at this
  · rintro rfl; have := h.o.d.hc.symm.trans h.cw; simp at this
  · rintro rfl; have := h.o.d.hd.symm.trans h.ca; simp at this
  · rintro rfl; have := h.o.d.hc.symm.trans h.ca; simp at this
  · rintro rfl; have := h.cw.symm.trans h.ca; simp at this
theorem FS.same (h : FS w0 b g wb ab w L lw la) (u : Ext [] w w') : FS w0 b g wb ab w' L lw la :=
  ⟨h.o.same u, (u.block _ (lt_of_block h.cw) (by simp)).trans h.cw, (u.block _ (lt_of_block h.ca) (by simp)).trans h.ca, h.new⟩
theorem FS.up (h : FS w0 b g wb ab w L lw la) (u : Upd w w' 51 57 b g L') : FS w0 b g wb ab w' L' lw la :=
  ⟨h.o.up u, (u.2.block _ (lt_of_block h.cw) (by simp; exact fun e => h.ne.2.1 e.symm)).trans h.cw, (u.2.block _ (lt_of_block h.ca) (by simp; exact fun e => h.ne.2.2.2.1 e.symm)).trans h.ca, h.new⟩
theorem FS.setw (h : FS w0 b g wb ab w L lw la) (i : Nat) (x : Int) : FS w0 b g wb ab (w.setCell ⟨wb, i, none⟩ (.int .i64 x)) L (lw.set i x) la := by
  have u : Ext [wb] w (w.setCell ⟨wb, i, none⟩ (.int .i64 x)) := (Ext.refl _ _).setCell (.inl (by simp)) _
  refine ⟨⟨h.o.d.ext u (by simp; exact h.ne.1) (by simp; exact h.ne.2.1), h.o.ext.new u (by have := h.new; simp; omega), h.o.new⟩, ?_, (u.block _ (lt_of_block h.ca) (by simp; exact fun e => h.ne.2.2.2.2 e.symm)).trans h.ca, h.new⟩
  rw [heap_setCell_same w wb i _ 46 _ h.cw, List.map_set, List.setIfInBounds_toArray]
theorem FS.seta (h : FS w0 b g wb ab w L lw la) (i : Nat) (x : Int) : FS w0 b g wb ab (w.setCell ⟨ab, i, none⟩ (.int .i64 x)) L lw (la.set i x) := by
  have u : Ext [ab] w (w.setCell ⟨ab, i, none⟩ (.int .i64 x)) := (Ext.refl _ _).setCell (.inl (by simp)) _
  refine ⟨⟨h.o.d.ext u (by simp; exact h.ne.2.2.1) (by simp; exact h.ne.2.2.2.1), h.o.ext.new u (by have := h.new; simp; omega), h.o.new⟩, (u.block _ (lt_of_block h.cw) (by simp; exact h.ne.2.2.2.2)).trans h.cw, ?_, h.new⟩
  rw [heap_setCell_same w ab i _ 40 _ h.ca, List.map_set, List.setIfInBounds_toArray]
theorem FS.cellw (h : FS w0 b g wb ab w L lw la) {i : Nat} {x : Int} (hi : lw[i]? = some x) : w.cell? ⟨wb, i, none⟩ = some (.int .i64 x) := by
  rw [cell_of_row w wb i _ _ _ h.cw, List.getElem?_toArray, List.getElem?_map, hi]; rfl
theorem FS.cella (h : FS w0 b g wb ab w L lw la) {i : Nat} {x : Int} (hi : la[i]? = some x) : w.cell? ⟨ab, i, none⟩ = some (.int .i64 x) := by
  rw [cell_of_row w ab i _ _ _ h.ca, List.getElem?_toArray, List.getElem?_map, hi]; rfl
theorem FS.freew (h : FS w0 b g wb ab w L lw la) (i : Nat) : w.frozen? ⟨wb, i, none⟩ = false := frozen_of_row w wb i _ _ h.cw
theorem FS.freea (h : FS w0 b g wb ab w L lw la) (i : Nat) : w.frozen? ⟨ab, i, none⟩ = false := frozen_of_row w ab i _ _ h.ca
end

end Go.Proofs.Ytkckkbajaaklnaa
