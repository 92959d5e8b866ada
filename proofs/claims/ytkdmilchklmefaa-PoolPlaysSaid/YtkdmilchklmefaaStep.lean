/- What a call makes of the frames: plain lists. -/
import Derived.Test.YtkdmilchklmefaaPure
namespace Go.Proofs.Ytkdmilchklmefaa
open Go.RowKit
set_option linter.unusedVariables false
set_option linter.unusedSimpArgs false

def frOf {X : Type} (F : List (Fr X)) (id : Int) : Option (Fr X) := match find F id with | none => none | some i => F[i]?
def upd {X : Type} (F : List (Fr X)) (id : Int) (u : Fr X → Fr X) : List (Fr X) :=
  match find F id with
  | none => F
  | some i => match F[i]? with | none => F | some f => F.set i (u f)
def ans {X : Type} (F : List (Fr X)) (id : Int) (k : Fr X → Int) : Int := match frOf F id with | none => 5 | some f => k f
section
variable {X : Type} {F : List (Fr X)} {id : Int} {i : Nat} {f : Fr X}
theorem frOf_hit (hf : find F id = some i) (hi : F[i]? = some f) : frOf F id = some f := by unfold frOf; rw [hf]; exact hi
theorem frOf_miss (hf : find F id = none) : frOf F id = none := by unfold frOf; rw [hf]
theorem upd_hit (u : Fr X → Fr X) (hf : find F id = some i) (hi : F[i]? = some f) : upd F id u = F.set i (u f) := by unfold upd; rw [hf]; simp only [hi]
theorem upd_miss (u : Fr X → Fr X) (hf : find F id = none) : upd F id u = F := by unfold upd; rw [hf]
theorem ans_hit (k : Fr X → Int) (hf : find F id = some i) (hi : F[i]? = some f) : ans F id k = k f := by unfold ans; rw [frOf_hit hf hi]
theorem ans_miss (k : Fr X → Int) (hf : find F id = none) : ans F id k = 5 := by unfold ans; rw [frOf_miss hf]
theorem find_get (hf : find F id = some i) : ∃ f, F[i]? = some f ∧ f.there = true ∧ f.id = id := by
  obtain ⟨⟨f, hi, hh⟩, _⟩ := find_hit hf
  simp only [hitB, Bool.and_eq_true, beq_iff_eq] at hh
  exact ⟨f, hi, hh⟩
theorem set_same (hi : F[i]? = some f) : F.set i f = F := by
  obtain ⟨hl, rfl⟩ := List.getElem?_eq_some_iff.1 hi
  exact List.set_getElem_self hl
end
def mrkU {X : Type} (f : Fr X) : Fr X := { f with mark := true }
def setU {X : Type} (x : X) (r : Int) (f : Fr X) : Fr X := if ((r != 0) && !f.dirty) = true then { f with x := x, dirty := true, rc := r } else { f with x := x }
def clnU {X : Type} (f : Fr X) : Fr X := { f with dirty := false, rc := 0 }
def fixU {X : Type} (f : Fr X) : Fr X := { f with fixes := f.fixes + 1 }
def unfU {X : Type} (f : Fr X) : Fr X := if f.fixes = 0 then f else { f with fixes := f.fixes - 1 }
def drpU {X : Type} (z : X) (f : Fr X) : Fr X := if 0 < f.fixes then f else ⟨false, 0, z, false, 0, false, 0⟩
def unfK {X : Type} (f : Fr X) : Int := if f.fixes = 0 then 13 else 0
def drpK {X : Type} (f : Fr X) : Int := if 0 < f.fixes then 13 else 0
def putE {X : Type} (F : List (Fr X)) (id : Int) : Int := if 0 ≤ id ∧ id < 32 then (match find F id with | some _ => 6 | none => match empty F with | none => 8 | some _ => 0) else 1
def putL {X : Type} (F : List (Fr X)) (id : Int) (x : X) : List (Fr X) :=
  if 0 ≤ id ∧ id < 32 then (match find F id with | some _ => F | none => match empty F with | none => F | some i => F.set i ⟨true, id, x, true, 0, false, 0⟩) else F
/-- The clock: page, error, frames, hand. -/
def vic {X : Type} (F : List (Fr X)) (h : Nat) : Int × Int × List (Fr X) × Nat :=
  if F.any cand = true then (match vict (2 * F.length + 1) F h with | some (id, F', h') => (id, 0, F', h') | none => (0, 8, F, h)) else (0, 8, F, h)
/-- What is held of a page. -/
def xOf {X : Type} (z : X) (F : List (Fr X)) (id : Int) : X := match frOf F id with | none => z | some f => f.x

/-- Fixes are few. -/
def Few {X : Type} (K : Int) (F : List (Fr X)) : Prop := ∀ f ∈ F, 0 ≤ f.fixes ∧ f.fixes ≤ K
section
variable {X : Type} {F : List (Fr X)} {K L : Int}
theorem Few.mono (h : Few K F) (hk : K ≤ L) : Few L F := fun f hf => ⟨(h f hf).1, Int.le_trans (h f hf).2 hk⟩
theorem Few.set (h : Few K F) (i : Nat) {f : Fr X} (hf : 0 ≤ f.fixes ∧ f.fixes ≤ K) : Few K (F.set i f) := by
  intro q hq
  rcases List.mem_or_eq_of_mem_set hq with h1 | h1
  · exact h q h1
  · subst h1; exact hf
theorem Few.upd (h : Few K F) (id : Int) {u : Fr X → Fr X} (hu : ∀ f : Fr X, 0 ≤ f.fixes ∧ f.fixes ≤ K → 0 ≤ (u f).fixes ∧ (u f).fixes ≤ L) (hk : K ≤ L) : Few L (upd F id u) := by
  unfold Proofs.Ytkdmilchklmefaa.upd
  split
  · exact h.mono hk
  · split
    · exact h.mono hk
    · rename_i f hf
      exact (h.mono hk).set _ (hu f (h f (List.mem_of_getElem? hf)))
theorem Few.put (h : Few K F) (hk : 0 ≤ K) (id : Int) (x : X) : Few K (putL F id x) := by
  unfold putL
  split
  · split
    · exact h
    · split
      · exact h
      · exact h.set _ ⟨by simp, by simpa using hk⟩
  · exact h
theorem Few.vict (k : Nat) : ∀ (F : List (Fr X)) (h : Nat) (r : Int × List (Fr X) × Nat), Few K F → vict k F h = some r → Few K r.2.1 := by
  induction k with
  | zero => intro F h r _ hv; simp [Proofs.Ytkdmilchklmefaa.vict] at hv
  | succ k ih =>
    intro F h r hF hv
    unfold Proofs.Ytkdmilchklmefaa.vict at hv
    split at hv
    · exact nomatch hv
    · rename_i f hf
      split at hv
      · split at hv
        · exact ih _ _ r (hF.set (f := { f with mark := false }) _ (hF f (List.mem_of_getElem? hf))) hv
        · injection hv with hv; subst hv; exact hF
      · exact ih _ _ r hF hv
theorem Few.vic (h : Nat) (hF : Few K F) : Few K (vic F h).2.2.1 := by
  unfold Proofs.Ytkdmilchklmefaa.vic
  split
  · split
    · rename_i e
      have := Few.vict _ _ _ _ hF e
      exact this
    · exact hF
  · exact hF
theorem Few.rep (n : Nat) (z : Fr X) (hz : z.fixes = 0) (hk : 0 ≤ K) : Few K (List.replicate n z) := by
  intro f hf
  have := List.eq_of_mem_replicate hf
  subst this
  rw [hz]; exact ⟨Int.le_refl _, hk⟩
theorem mrk_few (f : Fr X) (h : 0 ≤ f.fixes ∧ f.fixes ≤ K) : 0 ≤ (mrkU f).fixes ∧ (mrkU f).fixes ≤ K := h
theorem set_few (x : X) (r : Int) (f : Fr X) (h : 0 ≤ f.fixes ∧ f.fixes ≤ K) : 0 ≤ (setU x r f).fixes ∧ (setU x r f).fixes ≤ K := by unfold setU; split <;> exact h
theorem cln_few (f : Fr X) (h : 0 ≤ f.fixes ∧ f.fixes ≤ K) : 0 ≤ (clnU f).fixes ∧ (clnU f).fixes ≤ K := h
theorem fix_few (f : Fr X) (h : 0 ≤ f.fixes ∧ f.fixes ≤ K) : 0 ≤ (fixU f).fixes ∧ (fixU f).fixes ≤ K + 1 := by unfold fixU; simp only []; omega
theorem unf_few (f : Fr X) (h : 0 ≤ f.fixes ∧ f.fixes ≤ K) : 0 ≤ (unfU f).fixes ∧ (unfU f).fixes ≤ K := by unfold unfU; split; exact h; simp only []; omega
theorem drp_few (z : X) (hk : 0 ≤ K) (f : Fr X) (h : 0 ≤ f.fixes ∧ f.fixes ≤ K) : 0 ≤ (drpU z f).fixes ∧ (drpU z f).fixes ≤ K := by unfold drpU; split; exact h; exact ⟨Int.le_refl _, hk⟩
end

/-- A call of a script: what it answers; frames and hand. -/
def step {X : Type} (z v : X) (F : List (Fr X)) (h : Nat) (k id n : Int) : (Int × Int) × List (Fr X) × Nat :=
  if k = 1 then ((0, 0), upd F id mrkU, h)
  else if k = 2 then ((0, putE F id), putL F id v, h)
  else if k = 3 then ((0, ans F id fun _ => 0), upd F id (setU v n), h)
  else if k = 4 then ((0, ans F id fun _ => 0), upd F id clnU, h)
  else if k = 5 then ((0, ans F id fun _ => 0), upd F id fixU, h)
  else if k = 6 then ((0, ans F id unfK), upd F id unfU, h)
  else if k = 7 then (((vic F h).1, (vic F h).2.1), (vic F h).2.2)
  else if k = 8 then ((0, ans F id drpK), upd F id (drpU z), h)
  else ((0, 0), F, h)
theorem step_few {X : Type} (z v : X) (F : List (Fr X)) (h : Nat) (k id n : Int) {K : Int} (hF : Few K F) (hk : 0 ≤ K) : Few (K + 1) (step z v F h k id n).2.1 := by
  unfold step
  split
  · exact (hF.upd id mrk_few (Int.le_refl _)).mono (by omega)
  split
  · exact (hF.put hk id v).mono (by omega)
  split
  · exact (hF.upd id (set_few v n) (Int.le_refl _)).mono (by omega)
  split
  · exact (hF.upd id cln_few (Int.le_refl _)).mono (by omega)
  split
  · exact hF.upd id fix_few (by omega)
  split
  · exact (hF.upd id unf_few (Int.le_refl _)).mono (by omega)
  split
  · exact (hF.vic h).mono (by omega)
  split
  · exact (hF.upd id (drp_few z hk) (Int.le_refl _)).mono (by omega)
  · exact hF.mono (by omega)

end Go.Proofs.Ytkdmilchklmefaa
