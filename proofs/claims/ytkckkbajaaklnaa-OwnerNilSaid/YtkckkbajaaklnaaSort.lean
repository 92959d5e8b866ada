/- sortInts: the numbers of a slice rise behind it. -/
import Derived.Test.YtkckkbajaaklnaaOf
import Derived.IntWalk
namespace Go.Proofs.Ytkckkbajaaklnaa
open Go.RowKit
set_option linter.unusedVariables false
set_option linter.unusedSimpArgs false

/-- One number on its way down: those ahead of it, those that it passed, those behind. -/
structure Way (orig : List Int) (i k : Nat) (A : List Int) (x : Int) (B rest : List Int) : Prop where
  len : A.length = k
  all : (A ++ B).length = i
  rise : (A ++ B).Pairwise (· ≤ ·)
  less : ∀ y ∈ B, x ≤ y
  perm : (A ++ x :: (B ++ rest)).Perm orig

theorem Way.down {orig : List Int} {i m : Nat} {A : List Int} {y x : Int} {B rest : List Int} (h : Way orig i (m + 1) (A ++ [y]) x B rest) (hy : x < y) : Way orig i m A x (y :: B) rest where
  len := by have := h.len; simp at this; exact this
  all := by have := h.all; simp at this ⊢; omega
  rise := by have := h.rise; simpa using this
  less := by
    intro z hz
    rcases List.mem_cons.1 hz with rfl | hz
    · omega
    · exact h.less z hz
  perm := by
    refine List.Perm.trans ?_ h.perm
    have : (A ++ [y]) ++ x :: (B ++ rest) = A ++ y :: x :: (B ++ rest) := by simp
    rw [this]
    exact List.Perm.append_left A (List.Perm.swap y x (B ++ rest))

theorem Way.done {orig : List Int} {i k : Nat} {A : List Int} {x : Int} {B rest : List Int} (h : Way orig i k A x B rest) (hx : ∀ a ∈ A, a ≤ x) : (A ++ x :: B).Pairwise (· ≤ ·) ∧ (A ++ x :: B).length = i + 1 := by
  have hr := h.rise
  rw [List.pairwise_append] at hr
  refine ⟨?_, by have := h.all; simp at this ⊢; omega⟩
  rw [List.pairwise_append]
  refine ⟨hr.1, List.pairwise_cons.2 ⟨h.less, hr.2.1⟩, fun a ha b hb => ?_⟩
  rcases List.mem_cons.1 hb with rfl | hb
  · exact hx a ha
  · exact hr.2.2 a ha b hb

theorem Way.last {orig : List Int} {i k : Nat} {A : List Int} {y x : Int} {B rest : List Int} (h : Way orig i k (A ++ [y]) x B rest) (hy : y ≤ x) : ∀ a ∈ A ++ [y], a ≤ x := by
  have hr := h.rise
  rw [List.append_assoc, List.pairwise_append] at hr
  intro a ha
  rcases List.mem_append.1 ha with ha | ha
  · have := hr.2.2 a ha y (by simp); omega
  · simp at ha; omega

theorem set_swap (A : List Int) (y x : Int) (R : List Int) {m : Nat} (hm : A.length = m) : ((A ++ y :: x :: R).set m x).set (m + 1) y = A ++ x :: y :: R := by
  subst hm
  rw [List.set_append_right _ _ (Nat.le_refl _), List.set_append_right _ _ (by omega)]
  simp

theorem Ints.cell {w : World} {base g n cap : Nat} {l : List Int} (h : w.ownsRow base 3 1 (.slice (some ⟨g, 0, none⟩) n cap) n (l.map (Value.int .i64))) {j : Nat} {x : Int} (hx : l[j]? = some x) : w.cell? ⟨g, j, none⟩ = some (.int .i64 x) := by
  have hj : j < n := by
    have h1 := h.1
    have := (List.getElem?_eq_some_iff.1 hx).1
    simp at h1; omega
  rw [World.ownsRow.cellAt h j (by omega), List.getElem?_map, hx]; rfl

theorem Ints.set {w : World} {base g n cap : Nat} {l : List Int} (h : w.ownsRow base 3 1 (.slice (some ⟨g, 0, none⟩) n cap) n (l.map (Value.int .i64))) (j : Nat) (x : Int) :
    (w.setCell ⟨g, j, none⟩ (.int .i64 x)).ownsRow base 3 1 (.slice (some ⟨g, 0, none⟩) n cap) n ((l.set j x).map (Value.int .i64)) := by
  have := (World.ownsRow.stored h j (.int .i64 x)).1
  rwa [← List.map_set] at this

set_option maxHeartbeats 400000 in
theorem sort_none (w : World) : Calls Try.prog 33 #[.slice none 0 0] w fun e w' => e = .returned (.tuple #[]) ∧ w = w' := by
  go_enter Try.func33, Try.ntmps33
  go_wp2
  go_loop [6] (fun i => i = .int .i64 0) (fun _ => 0)
  case atStart => rfl
  case round =>
    subst hrel
    go_wp2
    go_end0
    exact ⟨rfl, rfl⟩

set_option maxHeartbeats 4000000 in
theorem sort_any (w : World) (base g n cap : Nat) (l : List Int) (h : w.ownsRow base 3 1 (.slice (some ⟨g, 0, none⟩) n cap) n (l.map (Value.int .i64))) (hn : n ≤ 1000000) :
    Calls Try.prog 33 #[.slice (some ⟨g, 0, none⟩) n cap] w fun e w' => e = .returned (.tuple #[]) ∧
      ∃ l' : List Int, l'.Perm l ∧ l'.Pairwise (· ≤ ·) ∧ w'.ownsRow base 3 1 (.slice (some ⟨g, 0, none⟩) n cap) n (l'.map (Value.int .i64)) ∧ Ext [g] w w' := by
  have hl : l.length = n := by have := h.1; simp at this; exact this
  have H := Lib.hid h
  clear h
  have HL := Lib.hid hl
  clear hl
  go_enter Try.func33, Try.ntmps33
  go_wp2
  go_loopw [6] (fun i wr => ∃ j : Nat, j ≤ n ∧ i = .int .i64 j ∧ ∃ P R : List Int, P.length = j ∧ P.Pairwise (· ≤ ·) ∧ (P ++ R).Perm l ∧ wr.ownsRow base 3 1 (.slice (some ⟨g, 0, none⟩) n cap) n ((P ++ R).map (Value.int .i64)) ∧ Ext [g] w wr)
    (fun i _ => n - (intOf i).toNat)
  case atStart => exact ⟨0, Nat.zero_le _, rfl, [], l, rfl, List.Pairwise.nil, List.Perm.refl _, H.out, Ext.refl _ _⟩
  case round =>
    obtain ⟨i, hi, rfl, P, R, hP, hrise, hperm, hown, hext⟩ := hrel
    have hlen : (P ++ R).length = n := by have := hown.1; simp at this ⊢; exact this
    have HP := Lib.hid hP
    have HR := Lib.hid hrise
    have HM := Lib.hid hperm
    have HO := Lib.hid hown
    have HE := Lib.hid hext
    have HN := Lib.hid hlen
    clear hP hrise hperm hown hext hlen
    by_cases hlt : i < n
    · obtain ⟨x, R', hR⟩ : ∃ x R', R = x :: R' := by
        have := HN.out; have := HP.out
        cases R with
        | nil => simp at *; omega
        | cons x R' => exact ⟨x, R', rfl⟩
      subst hR
      go_wp2
      go_loopw [3] (fun k wr => ∃ (kk : Nat) (A B : List Int), kk ≤ i ∧ k = .int .i64 kk ∧ Way l i kk A x B R' ∧ wr.ownsRow base 3 1 (.slice (some ⟨g, 0, none⟩) n cap) n ((A ++ x :: (B ++ R')).map (Value.int .i64)) ∧ Ext [g] w wr)
        (fun k _ => (intOf k).toNat)
      case atStart => exact ⟨i, P, [], Nat.le_refl _, rfl, ⟨HP.out, by simpa using HP.out, by simpa using HR.out, by simp, by simpa using HM.out⟩, by simpa using HO.out, HE.out⟩
      case round =>
        obtain ⟨k, A, B, hk, rfl, hway, hown, hext⟩ := hrel
        have HW := Lib.hid hway
        have HO2 := Lib.hid hown
        have HE2 := Lib.hid hext
        clear hway hown hext
        have hfin : (∀ a ∈ A, a ≤ x) → ∃ j : Nat, j ≤ n ∧ (Value.int .i64 ((i : Int) + 1)) = .int .i64 j ∧ ∃ P R : List Int, P.length = j ∧ P.Pairwise (· ≤ ·) ∧ (P ++ R).Perm l ∧ wr.ownsRow base 3 1 (.slice (some ⟨g, 0, none⟩) n cap) n ((P ++ R).map (Value.int .i64)) ∧ Ext [g] w wr := fun ha =>
          ⟨i + 1, by omega, by go_num, A ++ x :: B, R', (HW.out.done ha).2, (HW.out.done ha).1, by simpa using HW.out.perm, by simpa using HO2.out, HE2.out⟩
        have HF := Lib.hid hfin
        clear hfin
        rcases Nat.eq_zero_or_pos k with rfl | hpos
        · have hA : ∀ a ∈ A, a ≤ x := by
            have := HW.out.len
            intro a ha
            rw [List.length_eq_zero_iff.1 this] at ha; simp at ha
          have HF2 := Lib.hid (HF.out hA)
          clear hA
          go_wp2
          go_quiet (fail)
          go_wp2
          go_roundw
          case rel => obtain ⟨j, h1, h2, P, R, h3, h4, h5, h6, h7⟩ := HF2.out; exact ⟨j, h1, h2, P, R, h3, h4, h5, h6, h7.drewN _⟩
          case measure => simp [intOf]; omega
        · obtain ⟨m, rfl⟩ : ∃ m, k = m + 1 := ⟨k - 1, by omega⟩
          obtain ⟨A', y, rfl⟩ : ∃ A' y, A = A' ++ [y] := by
            have := HW.out.len
            rcases List.eq_nil_or_concat A with h | ⟨A', y, h⟩
            · subst h; simp at this
            · exact ⟨A', y, by simpa using h⟩
          have hA' : A'.length = m := by have := HW.out.len; simp at this; exact this
          have g0 : (A' ++ [y] ++ x :: (B ++ R'))[m]? = some y := by subst hA'; simp
          have g1 : (A' ++ [y] ++ x :: (B ++ R'))[m + 1]? = some x := by subst hA'; simp
          have c0 := Ints.cell HO2.out g0
          have c1 := Ints.cell HO2.out g1
          have f0 := World.ownsRow.frozenAt HO2.out m
          have f1 := World.ownsRow.frozenAt HO2.out (m + 1)
          have hne : m ≠ m + 1 := by omega
          have w0 : IntKind.i64.wrap (((m + 1 : Nat) : Int) - 1) = (m : Int) := by rw [IntWalk.i64_in _ (by omega)]; omega
          have b0 : (0 : Int) ≤ (m : Int) := by omega
          have b1 : (m : Int) < (n : Int) := by omega
          have b2 : (0 : Int) ≤ ((m + 1 : Nat) : Int) := by omega
          have b3 : ((m + 1 : Nat) : Int) < (n : Int) := by omega
          have b4 : ((0 : Int) < ((m + 1 : Nat) : Int)) := by omega
          have HG := Lib.hid (And.intro g0 g1)
          have HA := Lib.hid hA'
          clear g0 g1 hA'
          by_cases hxy : x < y
          · have d0 : decide (x < y) = true := decide_eq_true hxy
            go_wp2
            go_quiet (fail)
            go_wp2
            go_region
            go_wp2
            go_roundw
            case rel =>
              refine ⟨m, A', y :: B, by omega, by go_num, HW.out.down hxy, ?_, ?_⟩
              · have e := set_swap A' y x (B ++ R') HA.out
                have h1 := Ints.set (Ints.set HO2.out m x) (m + 1) y
                have e2 : (A' ++ [y] ++ x :: (B ++ R')) = A' ++ y :: x :: (B ++ R') := by simp
                rw [e2, e] at h1
                exact h1
              · exact (((HE2.out.setCell (.inl (by simp)) _).setCell (.inl (by simp)) _).drewN _)
            case measure => simp [intOf]
          · have d0 : decide (x < y) = false := decide_eq_false hxy
            have HF2 := Lib.hid (HF.out (HW.out.last (by omega)))
            go_wp2
            go_quiet (fail)
            go_wp2
            go_roundw
            case rel => obtain ⟨j, h1, h2, P, R, h3, h4, h5, h6, h7⟩ := HF2.out; exact ⟨j, h1, h2, P, R, h3, h4, h5, h6, h7.drewN _⟩
            case measure => simp [intOf]; omega
    · have e : i = n := by omega
      subst e
      go_wp2
      go_end0
      have e : R = [] := by
        have h1 := HN.out; have h2 := HP.out
        simp at h1; exact List.length_eq_zero_iff.1 (by omega)
      subst e
      exact ⟨rfl, P, by simpa using HM.out, HR.out, by simpa using HO.out, HE.out⟩

end Go.Proofs.Ytkckkbajaaklnaa
