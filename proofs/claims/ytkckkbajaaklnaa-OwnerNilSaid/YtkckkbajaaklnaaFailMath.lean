/- What a node's failure makes of the places: plain lists. -/
import Derived.Test.YtkckkbajaaklnaaOf
namespace Go.Proofs.Ytkckkbajaaklnaa
open Go.RowKit
set_option linter.unusedVariables false
set_option linter.unusedSimpArgs false

/-- The pages that are lost with a node. -/
def failK : List (Int × Int) → Nat → Int → List Int
  | [], _, _ => []
  | q :: L, i, n => if q = (1, n) ∨ q = (2, n) then (i : Int) :: failK L (i + 1) n else failK L (i + 1) n
/-- The places behind it. -/
def failP (n : Int) (q : Int × Int) : Int × Int := if q = (1, n) ∨ q = (2, n) then (3, n) else q
def failL (L : List (Int × Int)) (n : Int) : List (Int × Int) := L.map (failP n)
/-- Pages marked as lost. -/
def markL (L : List (Int × Int)) (l : List Int) : List (Int × Int) := l.foldl (fun L x => L.set x.toNat (3, (pl L x).2)) L

theorem markL_length (l : List Int) : ∀ L, (markL L l).length = L.length := by
  induction l with
  | nil => intro L; rfl
  | cons x l ih => intro L; show (markL (L.set _ _) l).length = _; rw [ih, List.length_set]
theorem markL_snoc (L : List (Int × Int)) (l : List Int) (x : Int) : markL L (l ++ [x]) = (markL L l).set x.toNat (3, (pl (markL L l) x).2) := by
  simp [markL, List.foldl_append]

theorem failK_mem (L : List (Int × Int)) : ∀ (i : Nat) (n x : Int), x ∈ failK L i n ↔ ∃ j : Nat, x = ((i + j : Nat) : Int) ∧ (L[j]? = some (1, n) ∨ L[j]? = some (2, n)) := by
  induction L with
  | nil => intro i n x; simp [failK]
  | cons q L ih =>
    intro i n x
    have h2 : (∃ j : Nat, x = ((i + j : Nat) : Int) ∧ ((q :: L)[j]? = some (1, n) ∨ (q :: L)[j]? = some (2, n))) ↔
        (x = (i : Int) ∧ (q = (1, n) ∨ q = (2, n))) ∨ ∃ j : Nat, x = ((i + 1 + j : Nat) : Int) ∧ (L[j]? = some (1, n) ∨ L[j]? = some (2, n)) := by
      constructor
      · rintro ⟨j, hx, hj⟩
        cases j with
        | zero => left; exact ⟨by simpa using hx, by simpa using hj⟩
        | succ j => right; exact ⟨j, by omega, by simpa using hj⟩
      · rintro (⟨hx, hq⟩ | ⟨j, hx, hj⟩)
        · exact ⟨0, by simpa using hx, by simpa using hq⟩
        · exact ⟨j + 1, by omega, by simpa using hj⟩
    rw [h2]
    unfold failK
    by_cases hq : q = (1, n) ∨ q = (2, n)
    · rw [if_pos hq, List.mem_cons, ih]; simp [hq]
    · rw [if_neg hq, ih]; simp [hq]
theorem ofK_mem (L : List (Int × Int)) : ∀ (i : Nat) (n k x : Int), x ∈ ofK L i n k ↔ ∃ j : Nat, x = ((i + j : Nat) : Int) ∧ L[j]? = some (k, n) := by
  induction L with
  | nil => intro i n k x; simp [ofK]
  | cons q L ih =>
    intro i n k x
    have h2 : (∃ j : Nat, x = ((i + j : Nat) : Int) ∧ (q :: L)[j]? = some (k, n)) ↔
        (x = (i : Int) ∧ q = (k, n)) ∨ ∃ j : Nat, x = ((i + 1 + j : Nat) : Int) ∧ L[j]? = some (k, n) := by
      constructor
      · rintro ⟨j, hx, hj⟩
        cases j with
        | zero => left; exact ⟨by simpa using hx, by simpa using hj⟩
        | succ j => right; exact ⟨j, by omega, by simpa using hj⟩
      · rintro (⟨hx, hq⟩ | ⟨j, hx, hj⟩)
        · exact ⟨0, by simpa using hx, by simpa using hq⟩
        · exact ⟨j + 1, by omega, by simpa using hj⟩
    rw [h2]
    unfold ofK
    by_cases hq : q = (k, n)
    · rw [if_pos hq, List.mem_cons, ih]; simp [hq]
    · rw [if_neg hq, ih]; simp [hq]
theorem failK_rise (L : List (Int × Int)) : ∀ (i : Nat) (n : Int), (failK L i n).Pairwise (· < ·) := by
  induction L with
  | nil => intro i n; exact List.Pairwise.nil
  | cons q L ih =>
    intro i n
    unfold failK
    split
    · refine List.pairwise_cons.2 ⟨fun x hx => ?_, ih _ _⟩
      obtain ⟨j, rfl, _⟩ := (failK_mem L (i + 1) n x).1 hx
      omega
    · exact ih _ _
theorem ofK_rise (L : List (Int × Int)) : ∀ (i : Nat) (n k : Int), (ofK L i n k).Pairwise (· < ·) := by
  induction L with
  | nil => intro i n k; exact List.Pairwise.nil
  | cons q L ih =>
    intro i n k
    unfold ofK
    split
    · refine List.pairwise_cons.2 ⟨fun x hx => ?_, ih _ _ _⟩
      obtain ⟨j, rfl, _⟩ := (ofK_mem L (i + 1) n k x).1 hx
      omega
    · exact ih _ _ _

theorem both_perm (L : List (Int × Int)) : ∀ (i : Nat) (n : Int), (ofK L i n 1 ++ ofK L i n 2).Perm (failK L i n) := by
  induction L with
  | nil => intro i n; exact List.Perm.refl _
  | cons q L ih =>
    intro i n
    unfold ofK failK
    by_cases h1 : q = (1, n)
    · subst h1
      simp only [if_true, true_or]
      rw [if_neg (by simp)]
      exact List.Perm.cons _ (ih _ _)
    · by_cases h2 : q = (2, n)
      · subst h2
        rw [if_neg (by simp)]
        simp only [if_true, or_true]
        exact List.Perm.trans List.perm_middle (List.Perm.cons _ (ih _ _))
      · simp only [h1, h2, if_false, or_self]
        exact ih _ _

theorem rise_unique {a b : List Int} (hp : a.Perm b) (ha : a.Pairwise (· ≤ ·)) (hb : b.Pairwise (· ≤ ·)) : a = b := by
  induction a generalizing b with
  | nil => exact (List.Perm.nil_eq hp)
  | cons x a ih =>
    cases b with
    | nil => exact absurd hp.length_eq (by simp)
    | cons y b =>
      have hx := List.pairwise_cons.1 ha
      have hy := List.pairwise_cons.1 hb
      have h1 : y ≤ x := by
        have : x ∈ y :: b := hp.subset (by simp)
        rcases List.mem_cons.1 this with h | h
        · omega
        · exact hy.1 x h
      have h2 : x ≤ y := by
        have : y ∈ x :: a := hp.symm.subset (by simp)
        rcases List.mem_cons.1 this with h | h
        · omega
        · exact hx.1 y h
      have e : x = y := by omega
      subst e
      rw [ih (List.Perm.cons_inv hp) hx.2 hy.2]

theorem sorted_fail {L : List (Int × Int)} {n : Int} {l : List Int} (hp : l.Perm (ofK L 0 n 1 ++ ofK L 0 n 2)) (hs : l.Pairwise (· ≤ ·)) : l = failK L 0 n :=
  rise_unique (hp.trans (both_perm L 0 n)) hs ((failK_rise L 0 n).imp fun h => by omega)

theorem markL_get (l : List Int) : ∀ (L : List (Int × Int)) (j : Nat), (∀ x ∈ l, 0 ≤ x) → (markL L l)[j]? = if (j : Int) ∈ l then (L[j]?).map (fun q => (3, q.2)) else L[j]? := by
  induction l with
  | nil => intro L j _; simp [markL]
  | cons x l ih =>
    intro L j h
    show (markL (L.set x.toNat (3, (pl L x).2)) l)[j]? = _
    rw [ih _ _ fun y hy => h y (by simp [hy])]
    have hx := h x (by simp)
    have e : (L.set x.toNat (3, (pl L x).2))[j]? = if (j : Int) = x then (L[j]?).map (fun q => (3, q.2)) else L[j]? := by
      by_cases hj : x.toNat = j
      · have hjx : (j : Int) = x := by omega
        subst hj
        rw [if_pos hjx]
        by_cases hl : x.toNat < L.length
        · simp [pl, hl]
        · rw [List.getElem?_eq_none (by simpa using hl), List.getElem?_eq_none (by omega)]; rfl
      · rw [if_neg (by omega), List.getElem?_set_ne hj]
    rw [e]
    by_cases hj : (j : Int) = x
    · have hm : (j : Int) ∈ x :: l := by simp [hj]
      rw [if_pos hj, if_pos hm]
      split
      · cases L[j]? <;> rfl
      · rfl
    · rw [if_neg hj]
      by_cases hm : (j : Int) ∈ l
      · rw [if_pos hm, if_pos (List.mem_cons_of_mem _ hm)]
      · rw [if_neg hm, if_neg (by simp [hj, hm])]

theorem mark_fail (L : List (Int × Int)) (n : Int) : markL L (ofK L 0 n 1 ++ ofK L 0 n 2) = failL L n := by
  apply List.ext_getElem?
  intro j
  rw [markL_get]
  · have hm : ((j : Int) ∈ ofK L 0 n 1 ++ ofK L 0 n 2) ↔ (L[j]? = some (1, n) ∨ L[j]? = some (2, n)) := by
      rw [(both_perm L 0 n).mem_iff, failK_mem]
      constructor
      · rintro ⟨i, hi, h⟩
        have : i = j := by omega
        subst this; exact h
      · intro h; exact ⟨j, by omega, h⟩
    unfold failL failP
    rw [List.getElem?_map]
    by_cases h : L[j]? = some (1, n) ∨ L[j]? = some (2, n)
    · rw [if_pos (hm.2 h)]
      rcases h with h | h <;> simp [h]
    · rw [if_neg (fun hh => h (hm.1 hh))]
      cases hq : L[j]? with
      | none => rfl
      | some q =>
        have : ¬ (q = (1, n) ∨ q = (2, n)) := by
          rintro (rfl | rfl)
          · exact h (.inl hq)
          · exact h (.inr hq)
        simp [this]
  · intro x hx
    rcases List.mem_append.1 hx with hx | hx
    all_goals
      obtain ⟨i, rfl, _⟩ := (ofK_mem _ _ _ _ _).1 hx
      omega

end Go.Proofs.Ytkckkbajaaklnaa
