/- Encode, as data: which bytes a setup and steps have; that they are decoded as they were. -/
import Derived.Test.YthedllndcibkcaaBytesW
import Derived.Test.YthedllndcibkcaaRBytesW
namespace Go.Proofs.Ythedllndcibkcaa
open Go.RowKit
set_option linter.unusedVariables false
set_option linter.unusedSimpArgs false

/-- A setup. -/
structure Su where
  a : Int
  b : Int
  c : Int
  d : Int
  f : Bool
  g : Int
def Su.cells (s : Su) : List Value := [.int .i64 s.a, .int .i64 s.b, .int .i64 s.c, .int .i64 s.d, .bool s.f, .int .u64 s.g]
def Su.ok (s : Su) : Prop := (1 ≤ s.a ∧ s.a ≤ 8) ∧ (1 ≤ s.b ∧ s.b ≤ 32) ∧ (1 ≤ s.c ∧ s.c ≤ 16) ∧ s.g = 0 ∧ 256 ≤ s.d ∧ s.d ≤ 65281 ∧ (s.d - 256) % 255 = 0
instance (s : Su) : Decidable s.ok := by unfold Su.ok; infer_instance
def Su.head (s : Su) : List Int := [s.a - 1, s.b - 1, s.c - 1, if s.f then 1 else 0, (s.d - 256) / 255]
theorem Su.head_range (s : Su) (h : s.ok) : ∀ x ∈ s.head, 0 ≤ x ∧ x < 256 := by
  obtain ⟨h1, h2, h3, h4, h5, h6, h7⟩ := h
  intro x hx
  simp only [Su.head, List.mem_cons, List.not_mem_nil, or_false] at hx
  rcases hx with rfl | rfl | rfl | rfl | rfl
  · omega
  · omega
  · omega
  · split <;> omega
  · omega

/-- Without the noughts behind. -/
def trimF : Nat → List Int → List Int
  | 0, l => l
  | n + 1, l => if l.getLast? = some 0 then trimF n l.dropLast else l
def trim (l : List Int) : List Int := trimF l.length l
theorem trimF_take : ∀ (n : Nat) (l : List Int), ∃ k, k ≤ l.length ∧ trimF n l = l.take k ∧ ∀ i, k ≤ i → l.getD i 0 = 0
  | 0, l => ⟨l.length, Nat.le_refl _, (List.take_length).symm, fun i hi => by rw [List.getD, List.getElem?_eq_none hi]; rfl⟩
  | n + 1, l => by
    show ∃ k, k ≤ l.length ∧ (if l.getLast? = some 0 then trimF n l.dropLast else l) = l.take k ∧ _
    by_cases h : l.getLast? = some 0
    · obtain ⟨k, h1, h2, h3⟩ := trimF_take n l.dropLast
      rw [if_pos h]
      have hl : l.dropLast.length = l.length - 1 := List.length_dropLast
      refine ⟨k, by omega, ?_, fun i hi => ?_⟩
      · rw [h2, List.dropLast_eq_take, List.take_take, Nat.min_eq_left (by omega)]
      · by_cases hi2 : i < l.length - 1
        · have := h3 i hi
          rw [List.getD, List.dropLast_eq_take, List.getElem?_take_of_lt hi2] at this
          exact this
        · by_cases hi3 : i = l.length - 1
          · subst hi3
            rw [List.getD, ← List.getLast?_eq_getElem?, h]; rfl
          · have : l ≠ [] := by intro h0; subst h0; simp at h
            have := List.length_pos_iff.2 this
            rw [List.getD, List.getElem?_eq_none (by omega)]; rfl
    · rw [if_neg h]
      exact ⟨l.length, Nat.le_refl _, (List.take_length).symm, fun i hi => by rw [List.getD, List.getElem?_eq_none hi]; rfl⟩
theorem trimF_step (l : List Int) (n k : Nat) (hn : l.length ≤ n) (hk : k ≤ n) (hlk : l.length ≤ k) : trimF n l = trimF k l := by
  induction n generalizing l k with
  | zero =>
    have : k = 0 := by omega
    subst this; rfl
  | succ n ih =>
    cases k with
    | zero =>
      have : l = [] := List.eq_nil_of_length_eq_zero (by omega)
      subst this; rfl
    | succ k =>
      show (if l.getLast? = some 0 then trimF n l.dropLast else l) = (if l.getLast? = some 0 then trimF k l.dropLast else l)
      split
      · next h =>
        have hl : l.dropLast.length = l.length - 1 := List.length_dropLast
        exact ih l.dropLast k (by omega) (by omega) (by omega)
      · rfl
theorem trim_zero {l : List Int} {k : Nat} (hk : k < l.length) (h : l[k]? = some 0) : trim (l.take (k + 1)) = trim (l.take k) := by
  have h1 : (l.take (k + 1)).length = k + 1 := by rw [List.length_take]; omega
  have h2 : (l.take k).length = k := by rw [List.length_take]; omega
  have h3 : (l.take (k + 1)).getLast? = some 0 := by rw [List.getLast?_eq_getElem?, h1, List.getElem?_take_of_lt (by omega)]; exact h
  have h4 : (l.take (k + 1)).dropLast = l.take k := by rw [List.dropLast_eq_take, h1, List.take_take, Nat.min_eq_left (by omega)]; rfl
  unfold trim
  rw [h1, h2]
  show (if (l.take (k + 1)).getLast? = some 0 then trimF k (l.take (k + 1)).dropLast else _) = _
  rw [if_pos h3, h4]
theorem trim_stop {l : List Int} {k : Nat} (hk : k < l.length) (x : Int) (h : l[k]? = some x) (hx : x ≠ 0) : trim (l.take (k + 1)) = l.take (k + 1) := by
  have h1 : (l.take (k + 1)).length = k + 1 := by rw [List.length_take]; omega
  have h3 : (l.take (k + 1)).getLast? = some x := by rw [List.getLast?_eq_getElem?, h1, List.getElem?_take_of_lt (by omega)]; exact h
  unfold trim
  rw [h1]
  show (if (l.take (k + 1)).getLast? = some 0 then trimF k (l.take (k + 1)).dropLast else _) = _
  rw [h3, if_neg (by simpa using hx)]
theorem trim_getD (l : List Int) (i : Nat) : (trim l).getD i 0 = l.getD i 0 := by
  obtain ⟨k, h1, h2, h3⟩ := trimF_take l.length l
  unfold trim
  rw [h2]
  by_cases hi : i < k
  · rw [List.getD, List.getElem?_take_of_lt hi]; rfl
  · rw [h3 i (by omega), List.getD, List.getElem?_eq_none (by rw [List.length_take]; omega)]; rfl
theorem trim_length (l : List Int) : (trim l).length ≤ l.length := by
  obtain ⟨k, h1, h2, h3⟩ := trimF_take l.length l
  unfold trim
  rw [h2, List.length_take]; omega
theorem trim_mem (l : List Int) : ∀ x ∈ trim l, x ∈ l := by
  obtain ⟨k, h1, h2, h3⟩ := trimF_take l.length l
  unfold trim
  rw [h2]
  exact fun x hx => List.mem_of_mem_take hx

/-- The steps' bytes. -/
def encF : List St → List Int → Option (List Int)
  | [], out => some out
  | x :: l, out => if pOk x = true ∧ out.length + (pOut x).length ≤ 4096 then encF l (out ++ pOut x) else none
def encA (s : Su) (l : List St) : Option (List Int) := if s.ok then encF l (if l = [] then trim s.head else s.head) else none
theorem pOut_range (x : St) (h : pOk x = true) : ∀ u ∈ pOut x, 0 ≤ u ∧ u < 256 := by
  have hu8 : ∀ n : Int, 0 ≤ IntKind.u8.wrap n ∧ IntKind.u8.wrap n < 256 := fun n => by rw [IntKind.wrap_u8]; omega
  have henc : ∀ (wd : Nat) (n : Int), ∀ u ∈ encB wd n, 0 ≤ u ∧ u < 256 := fun wd n u hu => by
    unfold encB at hu
    split at hu
    · simp only [List.mem_cons, List.not_mem_nil, or_false] at hu
      rcases hu with rfl | rfl <;> exact hu8 _
    · simp only [List.mem_cons, List.not_mem_nil, or_false] at hu
      subst hu; exact hu8 _
  have hrun : ∀ (l : List (Nat × Nat)) (s : St × List Int × Bool), (∀ u ∈ s.2.1, 0 ≤ u ∧ u < 256) → ∀ u ∈ (runB l s).2.1, 0 ≤ u ∧ u < 256 := by
    intro l
    induction l with
    | nil => intro s hs; exact hs
    | cons q l ih =>
      intro s hs
      refine ih _ ?_
      intro u hu
      rcases List.mem_append.1 hu with hu | hu
      · exact hs u hu
      · exact henc _ _ u hu
  have hq : ∀ u ∈ (pq x).2.1, 0 ≤ u ∧ u < 256 := hrun _ _ (by intro u hu; simp only [List.mem_cons, List.not_mem_nil, or_false] at hu; subst hu; exact hu8 _)
  unfold pOut
  split
  · intro u hu
    rcases List.mem_append.1 hu with hu | hu
    · rcases List.mem_append.1 hu with hu | hu
      · exact hq u hu
      · simp only [List.mem_cons, List.not_mem_nil, or_false] at hu
        subst hu; exact hu8 _
    · exact nums_range _ u hu
  · exact hq
theorem dec_pOut (x : St) (h : pOk x = true) (r : List Int) (hr : ∀ u ∈ r, 0 ≤ u ∧ u < 256) : dec (pOut x ++ r) = x :: dec r := by
  have hkb : kindB x.k = true := by unfold pOk at h; simp at h; exact h.1
  have e := pOut_eq x h
  have hx := pOut_range x h
  rw [e] at hx ⊢
  have he := entry_pOut x h r (fun u hu => by
    rcases List.mem_append.1 hu with hu | hu
    · exact hx u (List.mem_cons_of_mem _ hu)
    · exact hr u hu)
  rw [List.cons_append, dec_step hkb (by rw [he]), he]
theorem encF_dec : ∀ (l : List St) (out r : List Int), encF l out = some r → ∃ t, r = out ++ t ∧ dec t = l ∧ (∀ u ∈ t, 0 ≤ u ∧ u < 256) ∧ (out.length ≤ 4096 → r.length ≤ 4096)
  | [], out, r, h => by
    injection h with h
    subst h
    exact ⟨[], by simp, rfl, by simp, fun h => h⟩
  | x :: l, out, r, h => by
    unfold encF at h
    split at h
    · next hc =>
      obtain ⟨t, h1, h2, h3, h4⟩ := encF_dec l _ r h
      refine ⟨pOut x ++ t, by rw [h1, List.append_assoc], ?_, ?_, fun _ => h4 (by rw [List.length_append]; exact hc.2)⟩
      · rw [dec_pOut x hc.1 t h3, h2]
      · intro u hu
        rcases List.mem_append.1 hu with hu | hu
        · exact pOut_range x hc.1 u hu
        · exact h3 u hu
    · cases h
theorem setup_back (s : Su) (h : s.ok) : setupV s.head = s.cells := by
  obtain ⟨a, b, c, d, f, g⟩ := s
  obtain ⟨h1, h2, h3, h4, h5, h6, h7⟩ := h
  simp only at h1 h2 h3 h4 h5 h6 h7
  subst h4
  simp only [setupV, Su.head, Su.cells, List.getD, List.getElem?_cons_zero, List.getElem?_cons_succ, Option.getD_some, List.cons.injEq, Value.int.injEq, true_and, and_true]
  refine ⟨by omega, by omega, by omega, by omega, ?_⟩
  cases f <;> simp
/-- What was encoded is decoded as it was. -/
theorem enc_dec (s : Su) (l : List St) (out : List Int) (h : encA s l = some out) : setupV (out.take 4096) = s.cells ∧ dec ((out.take 4096).drop 5) = l ∧ (∀ u ∈ out, 0 ≤ u ∧ u < 256) ∧ out.length ≤ 4096 := by
  unfold encA at h
  split at h
  case isFalse => cases h
  next hok =>
  have hh := Su.head_range s hok
  by_cases hl : l = []
  · subst hl
    rw [if_pos rfl] at h
    injection h with h
    subst h
    have h5 := trim_length s.head
    have h5' : s.head.length = 5 := rfl
    rw [List.take_of_length_le (by omega)]
    refine ⟨?_, ?_, fun u hu => hh u (trim_mem _ u hu), by omega⟩
    · rw [← setup_back s hok]
      unfold setupV
      rw [trim_getD, trim_getD, trim_getD, trim_getD, trim_getD]
    · rw [List.drop_of_length_le (by omega)]; rfl
  · rw [if_neg hl] at h
    obtain ⟨t, h1, h2, h3, h4⟩ := encF_dec l _ out h
    have h5 := h4 (by show 5 ≤ 4096; omega)
    rw [List.take_of_length_le h5, h1]
    refine ⟨?_, ?_, ?_, by rw [← h1]; exact h5⟩
    · rw [← setup_back s hok]; rfl
    · rw [← h2]; rfl
    · intro u hu
      rcases List.mem_append.1 hu with hu | hu
      · exact hh u hu
      · exact h3 u hu

end Go.Proofs.Ythedllndcibkcaa
