/- A step's bytes, as data: which there are, and that they are decoded as the step. -/
import Derived.Test.YthedllndcibkcaaBKinds
import Derived.Test.YthedllndcibkcaaRDecode
namespace Go.Proofs.Ythedllndcibkcaa
open Go.RowKit
set_option linter.unusedVariables false
set_option linter.unusedSimpArgs false

theorem St.ext' {x y : St} (h0 : x.k = y.k) (h1 : x.n = y.n) (h2 : x.t = y.t) (h3 : x.p = y.p) (h4 : x.s = y.s) (h5 : x.o = y.o) (h6 : x.c = y.c) (h7 : x.m = y.m) (h8 : x.v = y.v) : x = y := by
  cases x; cases y; simp only at h0 h1 h2 h3 h4 h5 h6 h7 h8; subst h0 h1 h2 h3 h4 h5 h6 h7 h8; rfl
theorem toList_inj {a b : ByteArray} (h : a.toList = b.toList) : a = b := by
  rw [ByteArray.toList_eq, ByteArray.toList_eq] at h
  exact ByteArray.ext (Array.toList_inj.1 h)
/-- Are two steps alike? -/
def stB (x y : St) : Bool := x.k == y.k && (x.n == y.n && (x.t == y.t && (x.p == y.p && (x.s == y.s && (x.o == y.o && (x.c == y.c && (x.m == y.m && x.v.toList == y.v.toList)))))))
theorem stB_iff (x y : St) : stB x y = true ↔ x = y := by
  unfold stB
  simp only [Bool.and_eq_true, beq_iff_eq]
  constructor
  · rintro ⟨h0, h1, h2, h3, h4, h5, h6, h7, h8⟩
    exact St.ext' h0 h1 h2 h3 h4 h5 h6 h7 (toList_inj h8)
  · rintro rfl
    exact ⟨rfl, rfl, rfl, rfl, rfl, rfl, rfl, rfl, rfl⟩

/-- The program's: the bytes; are there such? -/
def pq (x : St) : St × List Int × Bool := runB (fieldsOf x.k) (x, [IntKind.u8.wrap x.k], true)
def pOut (x : St) : List Int := if x.k = 3 then (pq x).2.1 ++ [IntKind.u8.wrap x.v.size] ++ nums x.v else (pq x).2.1
def pOk (x : St) : Bool := kindB x.k && (if x.k = 3 then ((pq x).2.2 && decide (x.v.size < 256)) && stB { (pq x).1 with v := ⟨#[]⟩ } (st0 x.k) else (pq x).2.2 && stB (pq x).1 (st0 x.k))

/-- The document's. -/
def two (c : UInt8) : Bool := c == 67 || c == 79
def partV (c : UInt8) (x : St) : Int := if c = 118 then x.v.size else x.get (toF c).1
def badN (c : UInt8) (n : Int) : Bool := (decide (n < 0) || decide (n > 65535)) || (!two c && decide (n > 255))
def putN (c : UInt8) (x : St) (n : Int) : List Int := (if two c then [n / 256] else []) ++ ([n % 256] ++ (if c = 118 then nums x.v else []))
def rb : List UInt8 → St → List Int → Option (List Int)
  | [], _, out => some out
  | c :: l, x, out => if badN c (partV c x) then none else rb l x (out ++ putN c x (partV c x))
def rOk (x : St) (out : List Int) : Bool := match rrun (formL x.k) (st0 x.k, out.drop 1) with
  | some (y, _) => stB y x
  | none => false

def fill : List UInt8 → St → St → St
  | [], _, s => s
  | c :: l, x, s => fill l x (if c = 118 then { s with v := x.v } else s.put (toF c).1 (x.get (toF c).1))
def putL : List UInt8 → St → List Int
  | [], _ => []
  | c :: l, x => putN c x (partV c x) ++ putL l x
def badL : List UInt8 → St → Bool
  | [], _ => false
  | c :: l, x => badN c (partV c x) || badL l x
theorem rb_eq : ∀ (l : List UInt8) (x : St) (out : List Int), rb l x out = if badL l x then none else some (out ++ putL l x)
  | [], x, out => by simp [rb, badL, putL]
  | c :: l, x, out => by
    show (if badN c (partV c x) then none else rb l x (out ++ putN c x (partV c x))) = if (badN c (partV c x) || badL l x) then none else some (out ++ (putN c x (partV c x) ++ putL l x))
    rw [rb_eq l x _]
    cases badN c (partV c x) with
    | true => rfl
    | false => simp only [Bool.false_or, Bool.false_eq_true, if_false, List.append_assoc]

theorem letter_fit {c : UInt8} (h : c ∈ rletters) (hc : c ≠ 118) : (toF c).1 < 8 ∧ ((two c = true ∧ (toF c).2 = 2) ∨ (two c = false ∧ (toF c).2 = 1)) := by
  simp only [rletters, List.mem_cons, List.not_mem_nil, or_false] at h
  rcases h with rfl | rfl | rfl | rfl | rfl | rfl | rfl | rfl | rfl | rfl <;> first | (exfalso; exact hc rfl) | exact ⟨by decide, by decide⟩

theorem rstep_put {c : UInt8} (h : c ∈ rletters) (x s : St) (r : List Int) (hb : badN c (partV c x) = false) :
    rstep c s (putN c x (partV c x) ++ r) = some (if c = 118 then { s with v := x.v } else s.put (toF c).1 (x.get (toF c).1), r) := by
  by_cases hc : c = 118
  · subst hc
    have e : partV 118 x = (x.v.size : Int) := rfl
    rw [e] at hb ⊢
    have hlt : (x.v.size : Int) ≤ 255 := by
      simp [badN, two] at hb; omega
    have ep : putN 118 x (x.v.size : Int) = (x.v.size : Int) :: nums x.v := by
      unfold putN
      rw [if_neg (by decide), if_pos rfl]
      simp; omega
    rw [ep, List.cons_append, rstep_text _ _ _ (by simp [nums_length]), if_pos rfl, Int.toNat_natCast]
    rw [List.take_append_of_le_length (by rw [nums_length]; exact Nat.le_refl _), List.take_of_length_le (by rw [nums_length]; exact Nat.le_refl _), strOf_nums, List.drop_append_of_le_length (by rw [nums_length]; exact Nat.le_refl _), List.drop_of_length_le (by rw [nums_length]; exact Nat.le_refl _)]
    rfl
  · have e : partV c x = x.get (toF c).1 := if_neg hc
    rw [e] at hb ⊢
    generalize x.get (toF c).1 = n at *
    rw [if_neg hc]
    obtain ⟨hf, ⟨h2, hw⟩ | ⟨h2, hw⟩⟩ := letter_fit h hc
    · have hr : 0 ≤ n ∧ n ≤ 65535 := by simp [badN, h2] at hb; omega
      have ep : putN c x n = [n / 256, n % 256] := by
        unfold putN
        rw [if_pos h2, if_neg hc]; rfl
      rw [ep, List.cons_append, List.cons_append, List.nil_append, rstep_two (f := (toF c).1) hc (by rw [← hw])]
      congr 3
      omega
    · have hr : 0 ≤ n ∧ n ≤ 255 := by simp [badN, h2] at hb; omega
      have ep : putN c x n = [n] := by
        unfold putN
        rw [if_neg (by rw [h2]; simp), if_neg hc]
        simp; omega
      rw [ep, List.cons_append, List.nil_append, rstep_one (f := (toF c).1) hc (by rw [← hw])]
theorem rrun_put : ∀ (l : List UInt8) (x s : St) (r : List Int), (∀ c ∈ l, c ∈ rletters) → badL l x = false → rrun l (s, putL l x ++ r) = some (fill l x s, r)
  | [], x, s, r, _, _ => rfl
  | c :: l, x, s, r, h, hb => by
    have hb' : badN c (partV c x) = false ∧ badL l x = false := by
      have : (badN c (partV c x) || badL l x) = false := hb
      simpa using this
    show (rstep c s ((putN c x (partV c x) ++ putL l x) ++ r)).bind (rrun l) = _
    rw [List.append_assoc, rstep_put (h c (by simp)) x s _ hb'.1, Option.bind_some, rrun_put l x _ r (fun c' hc' => h c' (by simp [hc'])) hb'.2]
    rfl

theorem wrapu8 {n : Int} (h0 : 0 ≤ n) (h1 : n ≤ 255) : IntKind.u8.wrap n = n := IntWalk.u8_in _ ⟨h0, h1⟩
theorem enc1 {n : Int} (h : inr 1 n = true) : encB 1 n = [n % 256] ∧ 0 ≤ n ∧ n ≤ 255 := by
  simp [inr] at h
  refine ⟨?_, by omega, by omega⟩
  unfold encB
  rw [if_neg (by decide), wrapu8 (by omega) (by omega), Int.emod_eq_of_lt (by omega) (by omega)]
theorem enc2 {n : Int} (h : inr 2 n = true) : encB 2 n = [n / 256, n % 256] ∧ 0 ≤ n ∧ n ≤ 65535 := by
  simp [inr] at h
  refine ⟨?_, by omega, by omega⟩
  unfold encB
  rw [if_pos rfl, wrapu8 (by omega) (by omega)]
  congr 2
theorem inr1_bad (c : UInt8) (h : two c = false) (n : Int) : badN c n = !inr 1 n := by
  simp [badN, h, inr]
  by_cases h0 : 0 ≤ n <;> by_cases h1 : n < 256 <;> simp [h0, h1] <;> omega
theorem inr2_bad (c : UInt8) (h : two c = true) (n : Int) : badN c n = !inr 2 n := by
  simp [badN, h, inr]
  by_cases h0 : 0 ≤ n <;> by_cases h1 : n < 65536 <;> simp [h0, h1] <;> omega

/-- The letters' numbers, and the fields': alike. -/
theorem runB_app : ∀ (l : List (Nat × Nat)) (x : St) (out : List Int) (ok : Bool), runB l (x, out, ok) = ((runB l (x, [], true)).1, out ++ (runB l (x, [], true)).2.1, ok && (runB l (x, [], true)).2.2)
  | [], x, out, ok => by simp [runB]
  | q :: l, x, out, ok => by
    show runB l (x.put q.1 0, out ++ encB q.2 (x.get q.1), ok && inr q.2 (x.get q.1)) = ((runB l (x.put q.1 0, [] ++ encB q.2 (x.get q.1), true && inr q.2 (x.get q.1))).1, out ++ (runB l (x.put q.1 0, [] ++ encB q.2 (x.get q.1), true && inr q.2 (x.get q.1))).2.1, ok && (runB l (x.put q.1 0, [] ++ encB q.2 (x.get q.1), true && inr q.2 (x.get q.1))).2.2)
    rw [runB_app l _ (out ++ _) _, runB_app l _ ([] ++ _) _]
    simp [List.append_assoc, Bool.and_assoc]

theorem get_put_ne (x : St) (f g : Nat) (i : Int) (hf : f < 8) (hg : g < 8) (h : g ≠ f) : (x.put f i).get g = x.get g := by
  have hf' : f = 0 ∨ f = 1 ∨ f = 2 ∨ f = 3 ∨ f = 4 ∨ f = 5 ∨ f = 6 ∨ f = 7 := by omega
  have hg' : g = 0 ∨ g = 1 ∨ g = 2 ∨ g = 3 ∨ g = 4 ∨ g = 5 ∨ g = 6 ∨ g = 7 := by omega
  rcases hf' with rfl | rfl | rfl | rfl | rfl | rfl | rfl | rfl <;> rcases hg' with rfl | rfl | rfl | rfl | rfl | rfl | rfl | rfl <;> first | rfl | exact absurd rfl h
theorem partV_put (c : UInt8) (x : St) (f : Nat) (hf : f < 8) (h : c ∈ rletters) (hc : c ≠ 118) (hn : (toF c).1 ≠ f) : partV c (x.put f 0) = partV c x := by
  unfold partV
  rw [if_neg hc, if_neg hc, get_put_ne x f _ 0 hf (letter_fit h hc).1 hn]
theorem badL_put : ∀ (l : List UInt8) (x : St) (f : Nat), f < 8 → (∀ c ∈ l, c ∈ rletters ∧ c ≠ 118) → (∀ c ∈ l, (toF c).1 ≠ f) → badL l (x.put f 0) = badL l x ∧ putL l (x.put f 0) = putL l x
  | [], x, f, _, _, _ => ⟨rfl, rfl⟩
  | c :: l, x, f, hf, h, hn => by
    have ih := badL_put l x f hf (fun c' hc' => h c' (by simp [hc'])) (fun c' hc' => hn c' (by simp [hc']))
    have hc := h c (by simp)
    have e := partV_put c x f hf hc.1 hc.2 (hn c (by simp))
    constructor
    · show (badN c (partV c (x.put f 0)) || badL l (x.put f 0)) = (badN c (partV c x) || badL l x)
      rw [e, ih.1]
    · show putN c (x.put f 0) (partV c (x.put f 0)) ++ putL l (x.put f 0) = putN c x (partV c x) ++ putL l x
      rw [e, ih.2]
      unfold putN
      rw [if_neg hc.2, if_neg hc.2]
theorem fields_fit : ∀ (l : List UInt8) (x : St), (∀ c ∈ l, c ∈ rletters ∧ c ≠ 118) → l.Pairwise (fun a b => (toF b).1 ≠ (toF a).1) →
    (runB (l.map toF) (x, [], true)).2.2 = !badL l x ∧ (badL l x = false → (runB (l.map toF) (x, [], true)).2.1 = putL l x)
  | [], x, _, _ => ⟨rfl, fun _ => rfl⟩
  | c :: l, x, h, hp => by
    have hc := h c (by simp)
    obtain ⟨hf, hw⟩ := letter_fit hc.1 hc.2
    rw [List.pairwise_cons] at hp
    have ih := fields_fit l (x.put (toF c).1 0) (fun c' hc' => h c' (by simp [hc'])) hp.2
    have hb := badL_put l x (toF c).1 hf (fun c' hc' => h c' (by simp [hc'])) hp.1
    have eb : badN c (partV c x) = !inr (toF c).2 (x.get (toF c).1) := by
      rw [show partV c x = x.get (toF c).1 from if_neg hc.2]
      rcases hw with ⟨h2, hw⟩ | ⟨h2, hw⟩
      · rw [hw]; exact inr2_bad c h2 _
      · rw [hw]; exact inr1_bad c h2 _
    have e1 : runB ((c :: l).map toF) (x, [], true) = runB (l.map toF) (x.put (toF c).1 0, [] ++ encB (toF c).2 (x.get (toF c).1), true && inr (toF c).2 (x.get (toF c).1)) := rfl
    rw [e1, runB_app]
    constructor
    · show (true && inr (toF c).2 (x.get (toF c).1) && _) = !(badN c (partV c x) || badL l x)
      rw [ih.1, hb.1, eb]
      cases inr (toF c).2 (x.get (toF c).1) <;> simp
    · intro hbl
      have hbl' : badN c (partV c x) = false ∧ badL l x = false := by
        have : (badN c (partV c x) || badL l x) = false := hbl
        simpa using this
      show [] ++ encB (toF c).2 (x.get (toF c).1) ++ _ = putN c x (partV c x) ++ putL l x
      rw [ih.2 (by rw [hb.1]; exact hbl'.2), hb.2, List.nil_append]
      congr 1
      rw [eb] at hbl'
      have hi : inr (toF c).2 (x.get (toF c).1) = true := by simpa using hbl'.1
      rw [show partV c x = x.get (toF c).1 from if_neg hc.2]
      unfold putN
      rcases hw with ⟨h2, hw⟩ | ⟨h2, hw⟩
      · rw [hw] at hi ⊢
        rw [if_pos h2, if_neg hc.2, (enc2 hi).1]; rfl
      · rw [hw] at hi ⊢
        rw [if_neg (by rw [h2]; simp), if_neg hc.2, (enc1 hi).1]; rfl

theorem nine {k : Int} (h : kindB k = true) : k = 1 ∨ k = 2 ∨ k = 3 ∨ k = 4 ∨ k = 5 ∨ k = 6 ∨ k = 7 ∨ k = 8 ∨ k = 9 ∨ k = 10 ∨ k = 11 ∨ k = 12 ∨ k = 13 ∨ k = 14 ∨ k = 15 ∨ k = 16 ∨ k = 17 ∨ k = 18 ∨ k = 19 := by
  have := (kindB_iff k).1 h; omega
/-- What is cleared, what is filled. -/
theorem clear_fill (x : St) (h : kindB x.k = true) (h3 : x.k ≠ 3) : (runB (fieldsOf x.k) (x, [], true)).1 = st0 x.k ↔ fill (formL x.k) x (st0 x.k) = x := by
  obtain ⟨k, n, t, p, s, o, c, m, v⟩ := x
  simp only at h h3 ⊢
  rcases nine h with rfl | rfl | rfl | rfl | rfl | rfl | rfl | rfl | rfl | rfl | rfl | rfl | rfl | rfl | rfl | rfl | rfl | rfl | rfl <;>
    first
    | exact absurd rfl h3
    | simp [runB, fieldsOf, fill, formL, st0, St.put, St.get, toF, eq_comm]
theorem clear_fill3 (x : St) (h : x.k = 3) : ({ (runB (fieldsOf 3) (x, [], true)).1 with v := ⟨#[]⟩ } : St) = st0 3 ↔ fill (formL 3) x (st0 3) = x := by
  obtain ⟨k, n, t, p, s, o, c, m, v⟩ := x
  simp only at h
  subst h
  simp [runB, fieldsOf, fill, formL, st0, St.put, St.get, toF, eq_comm]
theorem letters_apart (k : Int) (h : kindB k = true) (h3 : k ≠ 3) : (formL k).Pairwise (fun a b => (toF b).1 ≠ (toF a).1) := by
  rcases nine h with rfl | rfl | rfl | rfl | rfl | rfl | rfl | rfl | rfl | rfl | rfl | rfl | rfl | rfl | rfl | rfl | rfl | rfl | rfl <;> first | exact absurd rfl h3 | decide

/-- The program's answer says what the document's letters say. -/
theorem pOk_iff (x : St) (h : kindB x.k = true) : pOk x = true ↔ badL (formL x.k) x = false ∧ fill (formL x.k) x (st0 x.k) = x := by
  have hk := (kindB_iff _).1 h
  unfold pOk pq
  rw [h, Bool.true_and, runB_app]
  by_cases h3 : x.k = 3
  · rw [if_pos h3, h3]
    have ef : ([110, 116, 112, 115] : List UInt8).map toF = fieldsOf 3 := by decide
    have hf := fields_fit [110, 116, 112, 115] x (by decide) (by decide)
    rw [ef] at hf
    have hb : badL (formL 3) x = (badL [110, 116, 112, 115] x || badN 118 (x.v.size : Int)) := by
      show (badN 110 _ || (badN 116 _ || (badN 112 _ || (badN 115 _ || (badN 118 (x.v.size : Int) || false))))) = ((badN 110 _ || (badN 116 _ || (badN 112 _ || (badN 115 _ || false)))) || badN 118 (x.v.size : Int))
      simp [Bool.or_assoc]
    have hv : badN 118 (x.v.size : Int) = !decide (x.v.size < 256) := by
      simp [badN, two]
      by_cases h : x.v.size < 256 <;> simp [h] <;> omega
    rw [← clear_fill3 x h3, hb, hv, ← stB_iff, hf.1]
    simp [and_assoc]
  · rw [if_neg h3]
    obtain ⟨e1, e2⟩ := fields_letters x.k hk.1 hk.2 h3
    have hf := fields_fit (formL x.k) x (fun c hc => ⟨(letters_ok x.k).1 c hc, e2 c hc⟩) (letters_apart x.k h h3)
    rw [e1] at hf
    rw [← clear_fill x h h3, ← stB_iff, hf.1]
    simp
theorem pOut_eq (x : St) (h : pOk x = true) : pOut x = x.k :: putL (formL x.k) x := by
  have hkb : kindB x.k = true := by unfold pOk at h; simp at h; exact h.1
  have hk := (kindB_iff _).1 hkb
  have hb := ((pOk_iff x hkb).1 h).1
  unfold pOut pq
  rw [runB_app, wrapu8 (by omega) (by omega)]
  by_cases h3 : x.k = 3
  · rw [if_pos h3, h3]
    rw [h3] at hb
    have ef : ([110, 116, 112, 115] : List UInt8).map toF = fieldsOf 3 := by decide
    have hf := fields_fit [110, 116, 112, 115] x (by decide) (by decide)
    rw [ef] at hf
    have hb2 : badL [110, 116, 112, 115] x = false ∧ badN 118 (x.v.size : Int) = false := by
      have : (badN 110 (x.get 1) || (badN 116 (x.get 2) || (badN 112 (x.get 3) || (badN 115 (x.get 4) || (badN 118 (x.v.size : Int) || false))))) = false := hb
      simp only [Bool.or_eq_false_iff] at this
      obtain ⟨a, b, c, d, e, _⟩ := this
      refine ⟨?_, e⟩
      show (badN 110 (x.get 1) || (badN 116 (x.get 2) || (badN 112 (x.get 3) || (badN 115 (x.get 4) || false)))) = false
      rw [a, b, c, d]; rfl
    have hs : x.v.size < 256 := by have := hb2.2; simp [badN, two] at this; omega
    simp only
    rw [hf.2 hb2.1, wrapu8 (by omega) (by omega)]
    have ep : putL (formL 3) x = putL [110, 116, 112, 115] x ++ ((x.v.size : Int) :: nums x.v) := by
      show putN 110 x (x.get 1) ++ (putN 116 x (x.get 2) ++ (putN 112 x (x.get 3) ++ (putN 115 x (x.get 4) ++ (putN 118 x (x.v.size : Int) ++ [])))) = (putN 110 x (x.get 1) ++ (putN 116 x (x.get 2) ++ (putN 112 x (x.get 3) ++ (putN 115 x (x.get 4) ++ [])))) ++ _
      have e8 : putN 118 x (x.v.size : Int) = (x.v.size : Int) :: nums x.v := by
        unfold putN
        rw [if_neg (by decide), if_pos rfl]
        simp; omega
      rw [e8]
      simp [List.append_assoc]
    rw [ep]
    simp [List.append_assoc]
  · rw [if_neg h3]
    obtain ⟨e1, e2⟩ := fields_letters x.k hk.1 hk.2 h3
    have hf := fields_fit (formL x.k) x (fun c hc => ⟨(letters_ok x.k).1 c hc, e2 c hc⟩) (letters_apart x.k hkb h3)
    rw [e1] at hf
    simp only
    rw [hf.2 hb]; rfl

/-- The bytes of a step are decoded as the step. -/
theorem entry_pOut (x : St) (h : pOk x = true) (r : List Int) (hr : ∀ u ∈ putL (formL x.k) x ++ r, 0 ≤ u ∧ u < 256) : entryS x.k (putL (formL x.k) x ++ r) = (x, r, false) := by
  have hkb : kindB x.k = true := by unfold pOk at h; simp at h; exact h.1
  have hk := (kindB_iff _).1 hkb
  have hb := (pOk_iff x hkb).1 h
  have e := entry_rrun x.k hk.1 hk.2 _ hr
  rw [rrun_put _ _ _ _ (letters_ok x.k).1 hb.1, hb.2] at e
  generalize entryS x.k (putL (formL x.k) x ++ r) = q at *
  obtain ⟨y, r', o⟩ := q
  cases o with
  | true => simp at e
  | false => simp at e; obtain ⟨rfl, rfl⟩ := e; rfl

end Go.Proofs.Ythedllndcibkcaa
