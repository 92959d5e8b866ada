/- Encode: the bytes of a setup and steps. -/
import Derived.Test.YthedllndcibkcaaEncP
namespace Go.Proofs.Ythedllndcibkcaa
open Go.RowKit
set_option linter.unusedVariables false
set_option linter.unusedSimpArgs false

/-- Steps that came in. -/
structure StAt (w : World) (A : Option Addr) (l : List St) : Prop where
  at_ : l = [] ∨ ∃ b off, A = some ⟨b, off, none⟩ ∧ b < w.heap.size ∧ ∀ (j : Nat) (x : St), l[j]? = some x → ∀ (i : Nat) (v : Value), x.cells[i]? = some v → w.cell? ⟨b, off + j * 9 + i, none⟩ = some v
  few : l.length ≤ 3000
  short : ∀ x ∈ l, x.v.size ≤ 1000
theorem StAt.ext {w w' : World} {A : Option Addr} {l : List St} (h : StAt w A l) (e : Ext [] w w') : StAt w' A l :=
  ⟨by
    rcases h.at_ with h1 | ⟨b, off, h1, h2, h3⟩
    · exact .inl h1
    · exact .inr ⟨b, off, h1, by have := e.size; omega, fun j x hj i v hv => (e.cell h2 (by simp)).trans (h3 j x hj i v hv)⟩, h.few, h.short⟩

def EncPost (q : Option (List Int)) (w : World) (e : Ending) (w' : World) : Prop :=
  Ext [] w w' ∧ match q with
  | none => e = .returned (.tuple #[.slice none 0 0, .int .i64 1])
  | some out => ∃ g c, e = .returned (.tuple #[.slice (some ⟨g, 0, none⟩) out.length c, .int .i64 0]) ∧ w'.ownsRow w.heap.size 5 1 (.slice (some ⟨g, 0, none⟩) out.length c) out.length (out.map (.int .u8)) ∧ g < w'.heap.size ∧ out.length ≤ c
theorem EncPost.miss {q : Option (List Int)} {w w' : World} {e : Ending} (hq : q = none) (h : Ext [] w w') (he : e = .returned (.tuple #[.slice none 0 0, .int .i64 1])) : EncPost q w e w' := by
  subst hq; exact ⟨h, he⟩
theorem EncPost.hit {q : Option (List Int)} {w w' : World} {e : Ending} {out : List Int} {g c : Nat} (hq : q = some out) (h : Ext [] w w') (he : e = .returned (.tuple #[.slice (some ⟨g, 0, none⟩) out.length c, .int .i64 0])) (ho : w'.ownsRow w.heap.size 5 1 (.slice (some ⟨g, 0, none⟩) out.length c) out.length (out.map (.int .u8))) : EncPost q w e w' := by
  subst hq
  refine ⟨h, g, c, he, ho, (ho.lt g rfl).2, ?_⟩
  rcases ho.2 with ⟨h2, _⟩ | ⟨g', c', cur, hv, _, _, hn, _⟩
  · cases h2
  · injection hv with _ _ hv
    subst hv; exact hn

set_option maxHeartbeats 8000000 in
theorem enc_bad (s : Su) (hd : -9223372036854775808 ≤ s.d ∧ s.d ≤ 9223372036854775807) (l : List St) (v : Value) (w : World) (h : ¬ s.ok) : Calls Try.prog 11 #[.agg s.cells.toArray, v] w (EncPost (encA s l) w) := by
  have hq : encA s l = none := by unfold encA; rw [if_neg h]
  generalize encA s l = q at *
  have HQ := Lib.hid hq
  unfold Su.ok at h
  obtain ⟨a, b, c, d, f, g⟩ := s
  simp only at h hd
  simp only [Su.cells]
  clear hq
  by_cases h1 : a < 1
  · clear h
    go_enter Try.func11, Try.ntmps11
    go_wp2
    go_ret2
    exact EncPost.miss HQ.out ((Ext.refl _ _).alloc _) rfl
  by_cases h2 : 8 < a
  · clear h
    go_enter Try.func11, Try.ntmps11
    go_wp2
    go_ret2
    exact EncPost.miss HQ.out ((Ext.refl _ _).alloc _) rfl
  by_cases h3 : b < 1
  · clear h
    go_enter Try.func11, Try.ntmps11
    go_wp2
    go_ret2
    exact EncPost.miss HQ.out ((Ext.refl _ _).alloc _) rfl
  by_cases h4 : 32 < b
  · clear h
    go_enter Try.func11, Try.ntmps11
    go_wp2
    go_ret2
    exact EncPost.miss HQ.out ((Ext.refl _ _).alloc _) rfl
  by_cases h5 : c < 1
  · clear h
    go_enter Try.func11, Try.ntmps11
    go_wp2
    go_ret2
    exact EncPost.miss HQ.out ((Ext.refl _ _).alloc _) rfl
  by_cases h6 : 16 < c
  · clear h
    go_enter Try.func11, Try.ntmps11
    go_wp2
    go_ret2
    exact EncPost.miss HQ.out ((Ext.refl _ _).alloc _) rfl
  by_cases h7 : g = 0
  · subst h7
    by_cases h8 : d < 256
    · clear h
      go_enter Try.func11, Try.ntmps11
      go_wp2
      go_ret2
      exact EncPost.miss HQ.out ((Ext.refl _ _).alloc _) rfl
    by_cases h9 : 65281 < d
    · clear h
      have h10 : 65025 < d - 256 := by omega
      go_enter Try.func11, Try.ntmps11
      go_wp2
      go_ret2
      exact EncPost.miss HQ.out ((Ext.refl _ _).alloc _) rfl
    · have h10 : (d - 256) % 255 ≠ 0 := by omega
      have h11 : ((d - 256) % 255 == 0) = false := by simpa using h10
      have h12 : ((d - 256) % 255 != 0) = true := by simpa using h10
      clear h h10
      go_enter Try.func11, Try.ntmps11
      go_wp2
      go_ret2
      exact EncPost.miss HQ.out ((Ext.refl _ _).alloc _) rfl
  · have h8 : (g == 0) = false := by simpa using h7
    have h9 : (g != 0) = true := by simpa using h7
    clear h h7
    go_enter Try.func11, Try.ntmps11
    go_wp2
    go_ret2
    exact EncPost.miss HQ.out ((Ext.refl _ _).alloc _) rfl


end Go.Proofs.Ythedllndcibkcaa
