/- The clock: who goes; a page is in one frame. -/
import Derived.Test.YtkdmilchklmefaaScript
namespace Go.Proofs.Ytkdmilchklmefaa
open Go.RowKit
set_option linter.unusedVariables false
set_option linter.unusedSimpArgs false

/-- A page is in one frame. -/
def Uniq {X : Type} (F : List (Fr X)) : Prop := ∀ (i j : Nat) (f q : Fr X), F[i]? = some f → F[j]? = some q → f.there = true → q.there = true → f.id = q.id → i = j
section
variable {X : Type} {F F' : List (Fr X)} {id : Int} {i : Nat} {f f' : Fr X}
theorem Uniq.set (hu : Uniq F) (hi : F[i]? = some f) (hf : f'.there = true → f.there = true ∧ f'.id = f.id) : Uniq (F.set i f') := by
  have hl := (List.getElem?_eq_some_iff.1 hi).1
  intro a b p q ha hb hp hq he
  rw [List.getElem?_set] at ha hb
  by_cases h1 : i = a
  · by_cases h2 : i = b
    · omega
    · subst h1
      rw [if_pos rfl, if_pos hl] at ha
      rw [if_neg h2] at hb
      injection ha with ha; subst ha
      exact hu _ _ f q hi hb (hf hp).1 hq ((hf hp).2.symm.trans he)
  · rw [if_neg h1] at ha
    by_cases h2 : i = b
    · subst h2
      rw [if_pos rfl, if_pos hl] at hb
      injection hb with hb; subst hb
      exact hu _ _ p f ha hi hp (hf hq).1 (he.trans (hf hq).2)
    · rw [if_neg h2] at hb
      exact hu _ _ p q ha hb hp hq he
theorem Uniq.upd (hu : Uniq F) (id : Int) (u : Fr X → Fr X) (h : ∀ f, (u f).there = true → f.there = true ∧ (u f).id = f.id) : Uniq (upd F id u) := by
  unfold Ytkdmilchklmefaa.upd
  split
  · exact hu
  · split
    · exact hu
    · rename_i f hf
      exact hu.set hf (h f)
theorem Uniq.put (hu : Uniq F) (id : Int) (x : X) : Uniq (putL F id x) := by
  unfold putL
  split
  · split
    · exact hu
    · rename_i hf
      split
      · exact hu
      · rename_i i he
        obtain ⟨⟨f0, hi, ht⟩, _⟩ := empty_hit he
        have hl := (List.getElem?_eq_some_iff.1 hi).1
        have hm := find_miss hf
        intro a b p q ha hb hp hq he
        rw [List.getElem?_set] at ha hb
        by_cases h1 : i = a
        · by_cases h2 : i = b
          · omega
          · subst h1
            rw [if_pos rfl, if_pos hl] at ha
            rw [if_neg h2] at hb
            injection ha with ha; subst ha
            have := hm b q hb
            simp only [hitB, hq, Bool.true_and, beq_eq_false_iff_ne] at this
            exact absurd he.symm this
        · rw [if_neg h1] at ha
          by_cases h2 : i = b
          · subst h2
            rw [if_pos rfl, if_pos hl] at hb
            injection hb with hb; subst hb
            have := hm a p ha
            simp only [hitB, hp, Bool.true_and, beq_eq_false_iff_ne] at this
            exact absurd he this
          · rw [if_neg h2] at hb
            exact hu _ _ p q ha hb hp hq he
  · exact hu
theorem Uniq.rep (n : Nat) (z : Fr X) (hz : z.there = false) : Uniq (List.replicate n z) := by
  intro a b p q ha hb hp hq he
  have := List.eq_of_mem_replicate (List.mem_of_getElem? ha)
  subst this
  rw [hz] at hp; exact nomatch hp
theorem Uniq.found (hu : Uniq F) (hi : F[i]? = some f) (ht : f.there = true) (he : f.id = id) : find F id = some i := by
  cases hf : find F id with
  | none =>
    have := find_miss hf i f hi
    simp [hitB, ht, he] at this
  | some j =>
    obtain ⟨q, hj, hq, hqi⟩ := find_get hf
    rw [hu j i q f hj hi hq ht (hqi.trans he.symm)]
end

/-- A frame without its mark. -/
def strip {X : Type} (f : Fr X) : Fr X := { f with mark := false }
/-- The same frames but for marks. -/
def Alike {X : Type} (F F' : List (Fr X)) : Prop := F'.map strip = F.map strip
section
variable {X : Type} {F F' F'' : List (Fr X)}
theorem Alike.refl (F : List (Fr X)) : Alike F F := rfl
theorem Alike.trans (h : Alike F F') (k : Alike F' F'') : Alike F F'' := Eq.trans k h
theorem Alike.set {i : Nat} {f : Fr X} (hi : F[i]? = some f) (b : Bool) : Alike F (F.set i { f with mark := b }) := by
  unfold Alike
  rw [List.map_set]
  have hl : i < (F.map strip).length := by simpa using (List.getElem?_eq_some_iff.1 hi).1
  exact set_same (by rw [List.getElem?_map, hi]; rfl)
theorem Alike.get (h : Alike F F') {i : Nat} {f' : Fr X} (hi : F'[i]? = some f') : ∃ f, F[i]? = some f ∧ strip f = strip f' := by
  have e : (F'.map strip)[i]? = (F.map strip)[i]? := by rw [h]
  rw [List.getElem?_map, List.getElem?_map, hi] at e
  cases hf : F[i]? with
  | none => rw [hf] at e; exact nomatch e
  | some f => rw [hf] at e; injection e with e; exact ⟨f, rfl, e.symm⟩
theorem strip_there {f q : Fr X} (h : strip f = strip q) : f.there = q.there := (congrArg Fr.there h : (strip f).there = (strip q).there)
theorem strip_id {f q : Fr X} (h : strip f = strip q) : f.id = q.id := (congrArg Fr.id h : (strip f).id = (strip q).id)
theorem strip_fixes {f q : Fr X} (h : strip f = strip q) : f.fixes = q.fixes := (congrArg Fr.fixes h : (strip f).fixes = (strip q).fixes)
theorem strip_cand {f q : Fr X} (h : strip f = strip q) : cand f = cand q := by unfold cand; rw [strip_there h, strip_fixes h]
theorem Alike.uniq (h : Alike F F') (hu : Uniq F) : Uniq F' := by
  intro i j f q hi hj hf hq he
  obtain ⟨f0, h0, e0⟩ := h.get hi
  obtain ⟨q0, h1, e1⟩ := h.get hj
  exact hu i j f0 q0 h0 h1 ((strip_there e0).trans hf) ((strip_there e1).trans hq) ((strip_id e0).trans (he.trans (strip_id e1).symm))
theorem Alike.few {K : Int} (h : Alike F F') (hk : Few K F) : Few K F' := by
  intro f hf
  obtain ⟨i, hl, rfl⟩ := List.getElem_of_mem hf
  obtain ⟨f0, h0, e0⟩ := h.get (List.getElem?_eq_getElem hl)
  have := hk f0 (List.mem_of_getElem? h0)
  rw [strip_fixes e0] at this; exact this
theorem Alike.length (h : Alike F F') : F'.length = F.length := by
  have := congrArg List.length h
  simpa using this
theorem strip_cand' (f : Fr X) : cand (strip f) = cand f := rfl
theorem Alike.count (h : Alike F F') : F'.countP cand = F.countP cand := by
  have e : ∀ L : List (Fr X), L.countP cand = (L.map strip).countP cand := by
    intro L; rw [List.countP_map]; rfl
  rw [e F', e F, h]
theorem Alike.any (h : Alike F F') : F'.any cand = F.any cand := by
  have e : ∀ L : List (Fr X), L.any cand = (L.map strip).any cand := by
    intro L; rw [List.any_map]; rfl
  rw [e F', e F, h]
end

/-- Who goes: a frame that may, unmarked. -/
theorem vict_spec {X : Type} (k : Nat) : ∀ (F : List (Fr X)) (h : Nat) (r : Int × List (Fr X) × Nat), vict k F h = some r → Alike F r.2.1 ∧ ∃ (i : Nat) (f : Fr X), r.2.1[i]? = some f ∧ cand f = true ∧ f.mark = false ∧ f.id = r.1 := by
  induction k with
  | zero => intro F h r hv; simp [vict] at hv
  | succ k ih =>
    intro F h r hv
    unfold vict at hv
    split at hv
    · exact nomatch hv
    · rename_i f hf
      split at hv
      · rename_i hc
        split at hv
        · obtain ⟨h1, h2⟩ := ih _ _ r hv
          exact ⟨(Alike.set hf false).trans h1, h2⟩
        · rename_i hm
          injection hv with hv; subst hv
          exact ⟨Alike.refl _, h, f, hf, hc, by simpa using hm, rfl⟩
      · exact ih _ _ r hv

/-- Who is marked, or far behind one that may go, doesn't go. -/
theorem vict_second {X : Type} (k : Nat) : ∀ (F : List (Fr X)) (h i j : Nat) (fi fj : Fr X) (r : Int × List (Fr X) × Nat), h < F.length → i ≠ j → F[i]? = some fi → F[j]? = some fj → cand fj = true → fj.mark = false →
    (fi.mark = true ∨ dist F.length h j < dist F.length h i) → vict k F h = some r → ∃ (m : Nat) (f : Fr X), m ≠ i ∧ F[m]? = some f ∧ f.there = true ∧ f.id = r.1 := by
  induction k with
  | zero => intro F h i j fi fj r _ _ _ _ _ _ _ hv; simp [vict] at hv
  | succ k ih =>
    intro F h i j fi fj r hh hij hi hj hc hm ho hv
    have hil := (List.getElem?_eq_some_iff.1 hi).1
    have hjl := (List.getElem?_eq_some_iff.1 hj).1
    have step : ∀ m, m < F.length → h ≠ m → dist F.length (nxt F.length h) m + 1 = dist F.length h m := by
      intro m hml hne
      unfold dist nxt
      split <;> split <;> split <;> omega
    have wrap : h = i → dist F.length (nxt F.length h) i + 1 = F.length := by
      intro he
      unfold dist nxt
      split <;> split <;> omega
    have low : ∀ m, m < F.length → dist F.length (nxt F.length h) m < F.length := by
      intro m hml
      unfold dist nxt
      split <;> split <;> omega
    have inj : dist F.length (nxt F.length h) i ≠ dist F.length (nxt F.length h) j := by
      unfold dist nxt
      split <;> split <;> split <;> omega
    unfold vict at hv
    split at hv
    · exact nomatch hv
    · rename_i f hf
      split at hv
      · rename_i hcf
        split at hv
        · rename_i hmf
          have hjh : h ≠ j := by
            rintro rfl
            rw [hj] at hf; injection hf with hf; subst hf
            rw [hm] at hmf; exact nomatch hmf
          have back : ∀ (m : Nat) (q : Fr X), (F.set h { f with mark := false })[m]? = some q → ∃ q0 : Fr X, F[m]? = some q0 ∧ q0.there = q.there ∧ q0.id = q.id := by
            intro m q hq
            by_cases e : h = m
            · subst e
              rw [List.getElem?_set_self hh] at hq
              injection hq with hq; subst hq
              exact ⟨f, hf, rfl, rfl⟩
            · rw [List.getElem?_set_ne e] at hq
              exact ⟨q, hq, rfl, rfl⟩
          by_cases e : h = i
          · have e2 := e
            subst e
            have := ih _ _ h j { f with mark := false } fj r (by rw [List.length_set]; exact nxt_lt hh) hij (List.getElem?_set_self hh) (by rw [List.getElem?_set_ne hjh]; exact hj) hc hm (.inr (by
              simp only [List.length_set]
              have h1 := wrap rfl
              have h2 := low j hjl
              omega)) hv
            obtain ⟨m, q, h1, h2, h3, h4⟩ := this
            obtain ⟨q0, g1, g2, g3⟩ := back m q h2
            exact ⟨m, q0, h1, g1, g2.trans h3, g3.trans h4⟩
          · have := ih _ _ i j fi fj r (by rw [List.length_set]; exact nxt_lt hh) hij (by rw [List.getElem?_set_ne e]; exact hi) (by rw [List.getElem?_set_ne hjh]; exact hj) hc hm (by
              simp only [List.length_set]
              rcases ho with ho | ho
              · exact .inl ho
              · right
                have h1 := step i hil e
                have h2 := step j hjl hjh
                omega) hv
            obtain ⟨m, q, h1, h2, h3, h4⟩ := this
            obtain ⟨q0, g1, g2, g3⟩ := back m q h2
            exact ⟨m, q0, h1, g1, g2.trans h3, g3.trans h4⟩
        · rename_i hmf
          injection hv with hv; subst hv
          refine ⟨h, f, ?_, hf, ?_, rfl⟩
          · rintro rfl
            rw [hi] at hf; injection hf with hf; subst hf
            rcases ho with ho | ho
            · exact hmf ho
            · have : dist F.length h h = 0 := by unfold dist; simp
              omega
          · unfold cand at hcf
            rw [Bool.and_eq_true] at hcf
            exact hcf.1
      · rename_i hcf
        have hjh : h ≠ j := by
          rintro rfl
          rw [hj] at hf; injection hf with hf; subst hf
          exact hcf hc
        refine ih _ _ i j fi fj r (nxt_lt hh) hij hi hj hc hm ?_ hv
        rcases ho with ho | ho
        · exact .inl ho
        · right
          have hih : h ≠ i := by
            rintro rfl
            have : dist F.length h h = 0 := by unfold dist; simp
            omega
          have h1 := step i hil hih
          have h2 := step j hjl hjh
          omega

section
variable {F : List (Fr ByteArray)} {h : Nat}
theorem vic_none (ha : F.any cand = false) : vic F h = (0, 8, F, h) := by unfold vic; rw [if_neg (by simp [ha])]
theorem vic_some (ha : F.any cand = true) (hh : h < F.length) : ∃ id F' h', vic F h = (id, 0, F', h') ∧ vict (2 * F.length + 1) F h = some (id, F', h') := by
  obtain ⟨⟨id, F', h'⟩, hv⟩ := vict_any hh ha
  refine ⟨id, F', h', ?_, hv⟩
  unfold vic; rw [if_pos ha, hv]
theorem vic_alike : Alike F (vic F h).2.2.1 := by
  unfold vic
  split
  · split
    · rename_i e; exact (vict_spec _ _ _ _ e).1
    · exact Alike.refl _
  · exact Alike.refl _
end
theorem mrk_same {X : Type} (f : Fr X) (h : (mrkU f).there = true) : f.there = true ∧ (mrkU f).id = f.id := ⟨h, rfl⟩
theorem setU_same {X : Type} (x : X) (n : Int) (f : Fr X) : (setU x n f).there = f.there ∧ (setU x n f).id = f.id := by unfold setU; split <;> exact ⟨rfl, rfl⟩
theorem unfU_same {X : Type} (f : Fr X) : (unfU f).there = f.there ∧ (unfU f).id = f.id := by unfold unfU; split <;> exact ⟨rfl, rfl⟩
theorem drpU_same {X : Type} (z : X) (f : Fr X) (h : (drpU z f).there = true) : f.there = true ∧ (drpU z f).id = f.id := by
  unfold drpU at h ⊢
  by_cases h0 : 0 < f.fixes
  · rw [if_pos h0] at h ⊢; exact ⟨h, rfl⟩
  · rw [if_neg h0] at h; exact nomatch h
theorem step_uniq (x : ByteArray) (F : List (Fr ByteArray)) (h : Nat) (k id n : Int) (hu : Uniq F) : Uniq (step ByteArray.empty x F h k id n).2.1 := by
  unfold step
  split
  · exact hu.upd id _ mrk_same
  split
  · exact hu.put id x
  split
  · exact hu.upd id _ fun f hf => ⟨(setU_same x n f).1.symm.trans hf, (setU_same x n f).2⟩
  split
  · exact hu.upd id _ fun f hf => ⟨hf, rfl⟩
  split
  · exact hu.upd id _ fun f hf => ⟨hf, rfl⟩
  split
  · exact hu.upd id _ fun f hf => ⟨(unfU_same f).1.symm.trans hf, (unfU_same f).2⟩
  split
  · exact vic_alike.uniq hu
  split
  · exact hu.upd id _ (drpU_same _)
  · exact hu
theorem playF_uniq (l : List Op) : ∀ s : List (Fr ByteArray) × Nat, Uniq s.1 → Uniq (playF l s).1 := by
  induction l with
  | nil => intro s h; exact h
  | cons q l ih => intro s h; exact ih _ (step_uniq q.x s.1 s.2 q.k q.p q.n h)

end Go.Proofs.Ytkdmilchklmefaa
