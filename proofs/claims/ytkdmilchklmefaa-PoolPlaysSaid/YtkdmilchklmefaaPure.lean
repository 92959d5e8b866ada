/- The clock, the list of pages, the dirty ones: plain lists. -/
import Derived.Test.YtkdmilchklmefaaModel
namespace Go.Proofs.Ytkdmilchklmefaa
open Go.RowKit
set_option linter.unusedVariables false
set_option linter.unusedSimpArgs false

/-- The first empty frame. -/
def empty {X : Type} (F : List (Fr X)) : Option Nat := F.findIdx? (fun f => !f.there)
theorem empty_hit {X : Type} {F : List (Fr X)} {i : Nat} (h : empty F = some i) : (∃ f, F[i]? = some f ∧ f.there = false) ∧ ∀ j : Nat, j < i → ∀ q : Fr X, F[j]? = some q → q.there = true := by
  unfold empty at h
  rw [List.findIdx?_eq_some_iff_getElem] at h
  obtain ⟨hl, h1, h2⟩ := h
  refine ⟨⟨F[i], List.getElem?_eq_getElem hl, by simpa using h1⟩, fun j hj q hq => ?_⟩
  have := h2 j hj
  rw [List.getElem?_eq_getElem (by omega)] at hq
  injection hq with hq
  subst hq
  simpa using this
theorem empty_miss {X : Type} {F : List (Fr X)} (h : empty F = none) : ∀ (j : Nat) (q : Fr X), F[j]? = some q → q.there = true := by
  unfold empty at h
  rw [List.findIdx?_eq_none_iff] at h
  intro j q hq
  have := h q (List.mem_of_getElem? hq)
  simpa using this

/-- May a frame go? -/
def cand {X : Type} (f : Fr X) : Bool := f.there && (f.fixes == 0)
def nxt (n h : Nat) : Nat := if h + 1 = n then 0 else h + 1
theorem nxt_lt {n h : Nat} (hh : h < n) : nxt n h < n := by unfold nxt; split <;> omega
/-- The clock. -/
def vict {X : Type} : Nat → List (Fr X) → Nat → Option (Int × List (Fr X) × Nat)
  | 0, _, _ => none
  | k + 1, F, h => match F[h]? with
    | none => none
    | some f => if cand f then (if f.mark then vict k (F.set h { f with mark := false }) (nxt F.length h) else some (f.id, F, nxt F.length h)) else vict k F (nxt F.length h)
/-- How far the hand is from a frame. -/
def dist (n h j : Nat) : Nat := if h ≤ j then j - h else n - h + j
theorem vict_some {X : Type} (k : Nat) : ∀ (F : List (Fr X)) (h j : Nat) (f : Fr X), h < F.length → F[j]? = some f → cand f = true → dist F.length h j + (if f.mark then F.length else 0) < k → ∃ r, vict k F h = some r := by
  induction k with
  | zero => intro F h j f _ _ _ hk; omega
  | succ k ih =>
    intro F h j f hh hj hc hk
    have hjl := (List.getElem?_eq_some_iff.1 hj).1
    unfold vict
    rw [List.getElem?_eq_getElem hh]
    simp only []
    have hd : h ≠ j → dist F.length (nxt F.length h) j + 1 = dist F.length h j := by
      intro hne
      unfold dist nxt
      split <;> split <;> split <;> omega
    have hd0 : h = j → dist F.length (nxt F.length h) j + 1 = F.length := by
      intro he
      unfold dist nxt
      split <;> split <;> omega
    by_cases hcf : cand F[h] = true
    · rw [if_pos hcf]
      by_cases hm : F[h].mark = true
      · rw [if_pos hm]
        by_cases he : h = j
        · subst he
          have hfe : F[h] = f := by rw [List.getElem?_eq_getElem hh] at hj; injection hj
          rw [hfe] at hm ⊢
          refine ih _ _ h { f with mark := false } (by rw [List.length_set]; exact nxt_lt hh) (List.getElem?_set_self hh) hc ?_
          have := hd0 rfl
          rw [if_pos hm] at hk
          simp only [List.length_set, Bool.false_eq_true, if_false]
          omega
        · refine ih _ _ j f (by rw [List.length_set]; exact nxt_lt hh) (by rw [List.getElem?_set_ne he]; exact hj) hc ?_
          have := hd he
          simp only [List.length_set]
          omega
      · rw [if_neg hm]; exact ⟨_, rfl⟩
    · rw [if_neg hcf]
      by_cases he : h = j
      · subst he
        have hfe : F[h] = f := by rw [List.getElem?_eq_getElem hh] at hj; injection hj
        rw [hfe] at hcf
        exact absurd hc hcf
      · refine ih _ _ j f (nxt_lt hh) hj hc ?_
        have := hd he
        omega
theorem vict_any {X : Type} {F : List (Fr X)} {h : Nat} (hh : h < F.length) (ha : F.any cand = true) : ∃ r, vict (2 * F.length + 1) F h = some r := by
  obtain ⟨f, hf, hc⟩ := List.any_eq_true.1 ha
  obtain ⟨j, hj, he⟩ := List.getElem_of_mem hf
  refine vict_some _ F h j f hh (by rw [List.getElem?_eq_getElem hj, he]) hc ?_
  have : dist F.length h j < F.length := by unfold dist; split <;> omega
  split <;> omega
theorem vict_length {X : Type} (k : Nat) : ∀ (F : List (Fr X)) (h : Nat) (r : Int × List (Fr X) × Nat), h < F.length → vict k F h = some r → r.2.1.length = F.length ∧ r.2.2 < F.length := by
  induction k with
  | zero => intro F h r _ hv; simp [vict] at hv
  | succ k ih =>
    intro F h r hh hv
    unfold vict at hv
    rw [List.getElem?_eq_getElem hh] at hv
    simp only [] at hv
    split at hv
    · split at hv
      · have := ih _ _ r (by rw [List.length_set]; exact nxt_lt hh) hv
        simpa using this
      · injection hv with hv; subst hv; exact ⟨rfl, nxt_lt hh⟩
    · exact ih _ _ r (nxt_lt hh) hv

/-- The pages that are there, of the first numbers. -/
def pgN {X : Type} (F : List (Fr X)) (n : Nat) : List Int := ((List.range n).filter fun (i : Nat) => (find F (i : Int)).isSome).map fun (i : Nat) => (i : Int)
theorem pgN_next {X : Type} (F : List (Fr X)) (n : Nat) : pgN F (n + 1) = pgN F n ++ (if (find F (n : Int)).isSome then [(n : Int)] else []) := by
  unfold pgN
  rw [List.range_succ, List.filter_append, List.map_append]
  congr 1
  by_cases h : (find F (n : Int)).isSome <;> simp [h]
theorem pgN_length {X : Type} (F : List (Fr X)) (n : Nat) : (pgN F n).length ≤ n := by
  unfold pgN
  rw [List.length_map]
  exact Nat.le_trans (List.length_filter_le _ _) (by simp)
theorem pgN_mem {X : Type} {F : List (Fr X)} {n : Nat} {x : Int} (h : x ∈ pgN F n) : ∃ i : Nat, x = (i : Int) ∧ i < n ∧ (find F (i : Int)).isSome := by
  unfold pgN at h
  obtain ⟨i, hi, rfl⟩ := List.mem_map.1 h
  obtain ⟨h1, h2⟩ := List.mem_filter.1 hi
  exact ⟨i, rfl, by simpa using h1, h2⟩
/-- Since when a page is dirty. -/
def recF {X : Type} (F : List (Fr X)) (id : Int) : Option Int :=
  match find F id with
  | none => none
  | some i => match F[i]? with
    | none => none
    | some f => if f.dirty then some f.rc else none
def drL {X : Type} (F : List (Fr X)) (l : List Int) : List (Int × Int) := l.filterMap fun id => (recF F id).map fun r => (id, r)
def rowOf (x : Int) : Option Int → List (Int × Int)
  | none => []
  | some r => [(x, r)]
theorem drL_snoc {X : Type} (F : List (Fr X)) (l : List Int) (x : Int) : drL F (l ++ [x]) = drL F l ++ rowOf x (recF F x) := by
  unfold drL
  rw [List.filterMap_append]
  cases h : recF F x <;> simp [h, rowOf]
theorem drL_length {X : Type} (F : List (Fr X)) (l : List Int) : (drL F l).length ≤ l.length := List.length_filterMap_le _ _
def encD (q : Int × Int) : List Value := [.int .i64 q.1, .int .u64 q.2]
theorem Try.info3 : (Try.prog.info? 3).map (fun i => (i.zero, i.size, i.bytes)) = some (some (.int .i64 0), 1, 8) := by kernel_rfl
theorem Try.info37 : (Try.prog.info? 37).map (fun i => (i.zero, i.size, i.bytes)) = some (some (.agg #[.int .i64 0, .int .u64 0]), 2, 16) := by kernel_rfl

/-- So many frames there are. -/
def many (frames : Int) : Int := max 1 (min frames 16)

end Go.Proofs.Ytkdmilchklmefaa
