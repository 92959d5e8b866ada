/- Steps among the arguments, opened; a setup among them. -/
import Derived.Test.YthedllndcibkcaaEncodes
import Derived.Deep.Slices
import Derived.ChangeSame
import Derived.Lib.SmallJoins
namespace Go.Proofs.Ythedllndcibkcaa
open Go.RowKit Go.Deep Go.ChangeShapes Go.WideShapes Go.Joins
set_option linter.unusedVariables false
set_option linter.unusedSimpArgs false

theorem open_steps {H : Type} {enc : TypeId × Value → H} {W : World} {A : Option Addr} {len cap : Nat} {d : DataW H} {p : List MemPlace}
    (h : DataW.Trod enc Try.prog W 0 (fun _ => true) true 26 (.slice A len cap) d p) : ∃ l : List St, l.length = len ∧ StC W A l := by
  obtain ⟨fuel, hf⟩ := h
  rcases open_slice Try.underlying26 hf with ⟨hcs, _⟩ | ⟨a, n, c, m, k, D, Pl, hcs, _, hl, _, hm, _, hx⟩
  · simp [Value.cells] at hcs
    obtain ⟨rfl, rfl, rfl⟩ := hcs
    exact ⟨[], rfl, .inl rfl⟩
  · simp [Value.cells] at hcs
    obtain ⟨rfl, rfl, rfl⟩ := hcs
    have hlm : len ≤ m := by rw [hm]; simpa using hl
    have ce : Try.prog.cellsOf 38 = 9 := by kernel_rfl
    have ci : Try.prog.cellsOf 3 = 1 := by kernel_rfl
    have cj : Try.prog.cellsOf 9 = 1 := by kernel_rfl
    have each : ∀ i, i < len → ∃ x : St, ∀ (t : Nat) (v : Value), x.cells[t]? = some v → W.cell? (a.add (i * 9 + t)) = some v := by
      intro i hi
      obtain ⟨cs', h1, h2⟩ := hx i (by omega)
      rw [ce] at h1
      obtain ⟨_, hlen, hcell⟩ := World.cells?_some h1
      obtain ⟨xs, k', hk, hxy, _, hxl, hf'⟩ := DataW.trod_struct Try.underlying38 h2
      match xs, hxl, cs', hlen with
      | [y0, y1, y2, y3, y4, y5, y6, y7, y8], _, [v0, v1, v2, v3, v4, v5, v6, v7, v8], _ =>
        have g0 := hf' 0 _ rfl
        have g1 := hf' 1 _ rfl
        have g2 := hf' 2 _ rfl
        have g3 := hf' 3 _ rfl
        have g4 := hf' 4 _ rfl
        have g5 := hf' 5 _ rfl
        have g6 := hf' 6 _ rfl
        have g7 := hf' 7 _ rfl
        have g8 := hf' 8 _ rfl
        simp [ci, cj] at g0 g1 g2 g3 g4 g5 g6 g7 g8
        obtain ⟨n0, e0, _, _⟩ := DataW.trod_int Try.underlying3 g0
        obtain ⟨n1, e1, _, _⟩ := DataW.trod_int Try.underlying3 g1
        obtain ⟨n2, e2, _, _⟩ := DataW.trod_int Try.underlying3 g2
        obtain ⟨n3, e3, _, _⟩ := DataW.trod_int Try.underlying3 g3
        obtain ⟨n4, e4, _, _⟩ := DataW.trod_int Try.underlying3 g4
        obtain ⟨n5, e5, _, _⟩ := DataW.trod_int Try.underlying3 g5
        obtain ⟨n6, e6, _, _⟩ := DataW.trod_int Try.underlying3 g6
        obtain ⟨n7, e7, _, _⟩ := DataW.trod_int Try.underlying3 g7
        obtain ⟨n8, e8, _, _⟩ := DataW.trod_string Try.underlying9 g8
        simp at e0 e1 e2 e3 e4 e5 e6 e7 e8
        subst e0 e1 e2 e3 e4 e5 e6 e7 e8
        refine ⟨⟨n0, n1, n2, n3, n4, n5, n6, n7, n8⟩, fun t v hv => ?_⟩
        have ht : t < 9 := (List.getElem?_eq_some_iff.1 hv).1
        have hc := hcell t ht
        rw [add_add] at hc
        rw [hc]
        exact hv
    rcases Nat.eq_zero_or_pos len with h0 | hpos
    · subst h0; exact ⟨[], rfl, .inl rfl⟩
    · have hspot : a.spot = none ∧ a.block < W.heap.size := by
        obtain ⟨q, hq⟩ := each 0 hpos
        have c0 := hq 0 _ rfl
        refine ⟨?_, ?_⟩
        · cases hs : a.spot with
          | none => rfl
          | some s =>
            exfalso
            simp [Addr.add, World.cell?, hs] at c0
            split at c0 <;> simp at c0
        · have := World.block_lt_of_cell? W _ c0
          simpa [Addr.add] using this
      obtain ⟨ab, off, sp⟩ := a
      obtain ⟨rfl, hab⟩ := hspot
      have hadd : ∀ j, (⟨ab, off, none⟩ : Addr).add j = ⟨ab, off + j, none⟩ := fun j => by unfold Addr.add; split <;> simp_all
      have : Inhabited St := ⟨st0 0⟩
      obtain ⟨f, hf2⟩ := choose_lt each
      refine ⟨(List.range len).map f, by simp, .inr ⟨ab, off, rfl, hab, fun j q hq t v hv => ?_⟩⟩
      have hj : j < len := by have := (List.getElem?_eq_some_iff.1 hq).1; simpa using this
      have e : q = f j := by simp [hj] at hq; exact hq.symm
      subst e
      have := hf2 j hj t v hv
      simp only [hadd] at this
      simpa [Nat.add_assoc] using this

section
variable {H : Type} {enc : TypeId × Value → H} {P : Program} {w : World} {base : Nat} {spare : Nat → Bool} {held : Bool}
/-- A struct of six fields, by value. -/
theorem open_six {r : Reach} {b0 : Nat} {t : TypeId} {f0 f1 f2 f3 f4 f5 : Field} {v : Value} {d : DataW H} {p : List MemPlace} (hs : P.underlying t = some (.struct #[f0, f1, f2, f3, f4, f5])) (hone : oneCellFields P #[f0, f1, f2, f3, f4, f5] = true) (hC : P.cellsOf t = 6)
    (hv : Value.okWide P w r b0 t v) (h : DataW.Trod enc P w base spare held t v d p) :
    ∃ (v0 v1 v2 v3 v4 v5 : Value) (y0 y1 y2 y3 y4 y5 : DataW H × List MemPlace) (n : Nat), v = .agg #[v0, v1, v2, v3, v4, v5] ∧
      DataW.trod enc P w base spare held n f0.type [v0] = some y0 ∧ DataW.trod enc P w base spare held n f1.type [v1] = some y1 ∧ DataW.trod enc P w base spare held n f2.type [v2] = some y2 ∧ DataW.trod enc P w base spare held n f3.type [v3] = some y3 ∧ DataW.trod enc P w base spare held n f4.type [v4] = some y4 ∧ DataW.trod enc P w base spare held n f5.type [v5] = some y5 := by
  obtain ⟨cs, rfl, hsz⟩ := okWide_struct hs hv
  obtain ⟨l⟩ := cs
  match l, hsz.trans hC with
  | [c0, c1, c2, c3, c4, c5], _ =>
    obtain ⟨fuel, hf⟩ := h
    obtain ⟨xs, n, _, hx, _, hlen, hg⟩ := DataW.trod_struct hs hf
    obtain ⟨o0, k0⟩ := hone_of hone 0 f0 rfl
    obtain ⟨o1, k1⟩ := hone_of hone 1 f1 rfl
    obtain ⟨o2, k2⟩ := hone_of hone 2 f2 rfl
    obtain ⟨o3, k3⟩ := hone_of hone 3 f3 rfl
    obtain ⟨o4, k4⟩ := hone_of hone 4 f4 rfl
    obtain ⟨o5, k5⟩ := hone_of hone 5 f5 rfl
    match xs, hlen with
    | [y0, y1, y2, y3, y4, y5], _ =>
      exact ⟨c0, c1, c2, c3, c4, c5, y0, y1, y2, y3, y4, y5, n, rfl, by simpa [Value.cells, o0, k0] using hg 0 f0 rfl, by simpa [Value.cells, o1, k1] using hg 1 f1 rfl, by simpa [Value.cells, o2, k2] using hg 2 f2 rfl, by simpa [Value.cells, o3, k3] using hg 3 f3 rfl, by simpa [Value.cells, o4, k4] using hg 4 f4 rfl, by simpa [Value.cells, o5, k5] using hg 5 f5 rfl⟩
end
theorem open_setup {H : Type} {enc : TypeId × Value → H} {W : World} {b0 : Nat} {v : Value} {d : DataW H} {p : List MemPlace} (hv : Value.okWide Try.prog W .any b0 25 v)
    (h : DataW.Trod enc Try.prog W 0 (fun _ => true) true 25 v d p) : ∃ s : Su, v = .agg s.cells.toArray ∧ -9223372036854775808 ≤ s.d ∧ s.d ≤ 9223372036854775807 := by
  obtain ⟨v0, v1, v2, v3, v4, v5, y0, y1, y2, y3, y4, y5, n, rfl, g0, g1, g2, g3, g4, g5⟩ := open_six Try.underlying25 (by kernel_rfl) (by kernel_rfl) hv h
  obtain ⟨n0, e0, _, _⟩ := DataW.trod_int Try.underlying3 g0
  obtain ⟨n1, e1, _, _⟩ := DataW.trod_int Try.underlying3 g1
  obtain ⟨n2, e2, _, _⟩ := DataW.trod_int Try.underlying3 g2
  obtain ⟨n3, e3, _, hw⟩ := DataW.trod_int Try.underlying3 g3
  obtain ⟨n4, e4, _⟩ := DataW.trod_bool Try.underlying4 g4
  obtain ⟨n5, e5, _, _⟩ := DataW.trod_int Try.underlying23 g5
  simp only [List.cons.injEq, and_true] at e0 e1 e2 e3 e4 e5
  subst e0 e1 e2 e3 e4 e5
  refine ⟨⟨n0, n1, n2, n3, n4, n5⟩, rfl, ?_⟩
  simp [Lit.wf, IntKind.min, IntKind.max, IntKind.signed, IntKind.bits] at hw
  simp only
  omega

end Go.Proofs.Ythedllndcibkcaa
