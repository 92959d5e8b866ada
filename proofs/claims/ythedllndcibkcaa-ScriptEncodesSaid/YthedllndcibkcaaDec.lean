/- What bytes tell, as data: entries one behind the other; the document's way comes to the same. -/
import Derived.Test.YthedllndcibkcaaStep
import Derived.Laws.BytesArg
namespace Go.Proofs.Ythedllndcibkcaa
open Go.RowKit
set_option linter.unusedVariables false
set_option linter.unusedSimpArgs false

def textN (r : List Int) : Nat := (numV 1 r).toNat
def textV (r : List Int) : ByteArray := if (numL 1 r).length < textN r then ⟨#[]⟩ else strOfNums ((numL 1 r).take (textN r))
def textL (r : List Int) : List Int := if (numL 1 r).length < textN r then numL 1 r else (numL 1 r).drop (textN r)
def textO (r : List Int) (o : Bool) : Bool := if (numL 1 r).length < textN r then true else numO 1 r o
theorem textL_le (r : List Int) : (textL r).length ≤ r.length := by
  have := numL_le 1 r
  unfold textL; split
  · exact this
  · simp; omega

def kindB (k : Int) : Bool := decide (1 ≤ k ∧ k ≤ 19)
theorem kindB_iff (k : Int) : kindB k = true ↔ 1 ≤ k ∧ k ≤ 19 := by unfold kindB; simp
def st0 (k : Int) : St := ⟨k, 0, 0, 0, 0, 0, 0, 0, ⟨#[]⟩⟩
/-- One entry behind its kind. -/
def entryS (k : Int) (r : List Int) : St × List Int × Bool :=
  if k = 3 then ({ (runS (fieldsOf k) (st0 k, r, false)).1 with v := textV (runS (fieldsOf k) (st0 k, r, false)).2.1 }, textL (runS (fieldsOf k) (st0 k, r, false)).2.1, textO (runS (fieldsOf k) (st0 k, r, false)).2.1 (runS (fieldsOf k) (st0 k, r, false)).2.2)
  else runS (fieldsOf k) (st0 k, r, false)
theorem entryS_le (k : Int) (r : List Int) : (entryS k r).2.1.length ≤ r.length := by
  have := runS_le (fieldsOf k) (st0 k, r, false)
  unfold entryS; split
  · exact Nat.le_trans (textL_le _) this
  · exact this
def decF : Nat → List Int → List St
  | 0, _ => []
  | _ + 1, [] => []
  | n + 1, k :: r => if kindB k then (if (entryS k r).2.2 then [] else (entryS k r).1 :: decF n (entryS k r).2.1) else decF n r
theorem decF_same : ∀ (n m : Nat) (r : List Int), r.length ≤ n → r.length ≤ m → decF n r = decF m r := by
  intro n
  induction n with
  | zero =>
    intro m r h1 h2
    have : r = [] := List.eq_nil_of_length_eq_zero (by omega)
    subst this
    cases m <;> rfl
  | succ n ih =>
    intro m r h1 h2
    cases r with
    | nil => cases m <;> rfl
    | cons k r =>
      simp only [List.length_cons] at h1 h2
      obtain ⟨m, rfl⟩ : ∃ m', m = m' + 1 := ⟨m - 1, by omega⟩
      have hl := entryS_le k r
      show (if kindB k then _ else _) = (if kindB k then _ else _)
      rw [ih m (entryS k r).2.1 (by omega) (by omega), ih m r (by omega) (by omega)]
def dec (r : List Int) : List St := decF r.length r
theorem dec_nil : dec [] = [] := rfl
theorem dec_cons (k : Int) (r : List Int) : dec (k :: r) = if kindB k then (if (entryS k r).2.2 then [] else (entryS k r).1 :: dec (entryS k r).2.1) else dec r := by
  have hl := entryS_le k r
  show (if kindB k then _ else _) = _
  unfold dec
  rw [decF_same r.length (entryS k r).2.1.length (entryS k r).2.1 (by omega) (Nat.le_refl _)]
theorem dec_odd {k : Int} {r : List Int} (h : kindB k = false) : dec (k :: r) = dec r := by rw [dec_cons, h]; rfl
theorem dec_over {k : Int} {r : List Int} (h : kindB k = true) (ho : (entryS k r).2.2 = true) : dec (k :: r) = [] := by rw [dec_cons, h, ho]; rfl
theorem dec_step {k : Int} {r : List Int} (h : kindB k = true) (ho : (entryS k r).2.2 = false) : dec (k :: r) = (entryS k r).1 :: dec (entryS k r).2.1 := by rw [dec_cons, h, ho]; rfl

/-- The document's letters. -/
def toF (c : UInt8) : Nat × Nat :=
  if c = 110 then (1, 1) else if c = 116 then (2, 1) else if c = 112 then (3, 1) else if c = 115 then (4, 1) else if c = 99 then (6, 1) else if c = 67 then (6, 2) else if c = 111 then (5, 1) else if c = 79 then (5, 2) else (7, 1)
def rstep (c : UInt8) (s : St) (r : List Int) : Option (St × List Int) :=
  if c = 118 then (if r.length < 1 then none else if (r.drop 1).length < (numV 1 r).toNat then none else some ({ s with v := strOfNums ((r.drop 1).take (numV 1 r).toNat) }, (r.drop 1).drop (numV 1 r).toNat))
  else if r.length < (toF c).2 then none else some (s.put (toF c).1 (numV (toF c).2 r), r.drop (toF c).2)
def rrun : List UInt8 → St × List Int → Option (St × List Int)
  | [], x => some x
  | c :: l, x => (rstep c x.1 x.2).bind (rrun l)
/-- The letters of a kind. -/
def formL : Int → List UInt8
  | 1 => [110]
  | 2 => [110, 116, 112, 115]
  | 3 => [110, 116, 112, 115, 118]
  | 4 => [110, 116, 112, 115]
  | 5 => [110, 116, 112]
  | 6 => [110, 116]
  | 7 => [110, 116, 99]
  | 8 => [110, 116]
  | 9 => [110, 116]
  | 10 => [110, 112]
  | 11 => [110]
  | 12 => [110]
  | 13 => [110]
  | 14 => [99]
  | 15 => [110, 67]
  | 16 => [110, 99, 79, 109]
  | 17 => [110, 111, 99]
  | 18 => [110]
  | 19 => [99, 79, 109]
  | _ => []

theorem runS_over : ∀ (l : List (Nat × Nat)) (s : St) (r : List Int), (runS l (s, r, true)).2.2 = true
  | [], s, r => rfl
  | q :: l, s, r => by
    show (runS l (_, _, numO q.2 r true)).2.2 = true
    have : numO q.2 r true = true := by unfold numO; split <;> rfl
    rw [this]; exact runS_over l _ _
theorem rrun_runS : ∀ (l : List UInt8) (s : St) (r : List Int), (∀ c ∈ l, c ≠ 118) →
    rrun l (s, r) = if (runS (l.map toF) (s, r, false)).2.2 then none else some ((runS (l.map toF) (s, r, false)).1, (runS (l.map toF) (s, r, false)).2.1)
  | [], s, r, _ => rfl
  | c :: l, s, r, h => by
    have hc := h c (by simp)
    show (rstep c s r).bind (rrun l) = if (runS (l.map toF) (s.put (toF c).1 (numV (toF c).2 r), numL (toF c).2 r, numO (toF c).2 r false)).2.2 then none else _
    unfold rstep
    rw [if_neg hc]
    by_cases hs : r.length < (toF c).2
    · have e : numO (toF c).2 r false = true := by unfold numO; rw [if_pos hs]
      rw [if_pos hs, e, if_pos (runS_over _ _ _)]; rfl
    · have e1 : numO (toF c).2 r false = false := by unfold numO; rw [if_neg hs]
      have e2 : numL (toF c).2 r = r.drop (toF c).2 := by unfold numL; rw [if_neg hs]
      rw [if_neg hs, Option.bind_some, rrun_runS l _ _ (fun c' hc' => h c' (by simp [hc']))]
      show _ = if (runS (l.map toF) (s.put (toF c).1 (numV (toF c).2 r), numL (toF c).2 r, numO (toF c).2 r false)).2.2 then none else some ((runS (l.map toF) (s.put (toF c).1 (numV (toF c).2 r), numL (toF c).2 r, numO (toF c).2 r false)).1, (runS (l.map toF) (s.put (toF c).1 (numV (toF c).2 r), numL (toF c).2 r, numO (toF c).2 r false)).2.1)
      rw [e1, e2]
theorem rrun_app : ∀ (l m : List UInt8) (x : St × List Int), rrun (l ++ m) x = (rrun l x).bind (rrun m)
  | [], m, x => rfl
  | c :: l, m, x => by
    show (rstep c x.1 x.2).bind (rrun (l ++ m)) = ((rstep c x.1 x.2).bind (rrun l)).bind (rrun m)
    cases rstep c x.1 x.2 with
    | none => rfl
    | some y => exact rrun_app l m y

theorem rstep_v (s : St) (r : List Int) (hb : ∀ x ∈ r, 0 ≤ x ∧ x < 256) : rstep 118 s r = if textO r false then none else some ({ s with v := textV r }, textL r) := by
  unfold rstep textO textV textL textN
  rw [if_pos rfl]
  by_cases h : r.length < 1
  · have : r = [] := List.eq_nil_of_length_eq_zero (by omega)
    subst this
    rfl
  · have e1 : numL 1 r = r.drop 1 := by unfold numL; rw [if_neg h]
    have e2 : numO 1 r false = false := by unfold numO; rw [if_neg h]
    rw [if_neg h, e1, e2]
    by_cases h2 : (r.drop 1).length < (numV 1 r).toNat
    · rw [if_pos h2, if_pos h2]; rfl
    · rw [if_neg h2, if_neg h2, if_neg h2, if_neg h2]; rfl

theorem fields_letters (k : Int) (h1 : 1 ≤ k) (h2 : k ≤ 19) (h3 : k ≠ 3) : (formL k).map toF = fieldsOf k ∧ ∀ c ∈ formL k, c ≠ 118 := by
  have hk : k = 1 ∨ k = 2 ∨ k = 4 ∨ k = 5 ∨ k = 6 ∨ k = 7 ∨ k = 8 ∨ k = 9 ∨ k = 10 ∨ k = 11 ∨ k = 12 ∨ k = 13 ∨ k = 14 ∨ k = 15 ∨ k = 16 ∨ k = 17 ∨ k = 18 ∨ k = 19 := by omega
  rcases hk with rfl | rfl | rfl | rfl | rfl | rfl | rfl | rfl | rfl | rfl | rfl | rfl | rfl | rfl | rfl | rfl | rfl | rfl <;> exact ⟨by decide, by decide⟩

theorem runS_mem : ∀ (l : List (Nat × Nat)) (s : St × List Int × Bool) (P : Int → Prop), (∀ x ∈ s.2.1, P x) → ∀ x ∈ (runS l s).2.1, P x
  | [], s, P, h => h
  | q :: l, s, P, h => runS_mem l _ P (fun x hx => by
      have : x ∈ s.2.1 := by
        have hx' : x ∈ numL q.2 s.2.1 := hx
        unfold numL at hx'; split at hx'
        · exact hx'
        · exact List.mem_of_mem_drop hx'
      exact h x this)

theorem entry_rrun (k : Int) (h1 : 1 ≤ k) (h2 : k ≤ 19) (r : List Int) (hb : ∀ x ∈ r, 0 ≤ x ∧ x < 256) :
    rrun (formL k) (st0 k, r) = if (entryS k r).2.2 then none else some ((entryS k r).1, (entryS k r).2.1) := by
  by_cases h3 : k = 3
  · subst h3
    have e : formL 3 = [110, 116, 112, 115] ++ [118] := rfl
    have ef : ([110, 116, 112, 115] : List UInt8).map toF = fieldsOf 3 := by decide
    have hm := runS_mem (fieldsOf 3) (st0 3, r, false) _ hb
    rw [e, rrun_app, rrun_runS _ _ _ (by decide), ef]
    unfold entryS
    rw [if_pos rfl]
    generalize runS (fieldsOf 3) (st0 3, r, false) = q at *
    obtain ⟨s, r', o⟩ := q
    cases o with
    | true =>
      have : textO r' true = true := by
        unfold textO
        have : numO 1 r' true = true := by unfold numO; split <;> rfl
        rw [this]; split <;> rfl
      simp only [this, if_true]; rfl
    | false =>
      simp only [Bool.false_eq_true, if_false]
      show (rstep 118 s r').bind (rrun []) = _
      rw [rstep_v s r' hm]
      cases textO r' false <;> rfl
  · obtain ⟨e1, e2⟩ := fields_letters k h1 h2 h3
    rw [rrun_runS _ _ _ e2, e1]
    unfold entryS
    rw [if_neg h3]

end Go.Proofs.Ythedllndcibkcaa
