/- A script among the arguments, opened. -/
import Derived.Test.YtkdmilchklmefaaScript
import Derived.Deep.Slices
import Derived.ChangeSame
namespace Go.Proofs.Ytkdmilchklmefaa
open Go.RowKit Go.Deep Go.ChangeShapes Go.WideShapes
set_option linter.unusedVariables false
set_option linter.unusedSimpArgs false

theorem open_ops {H : Type} {enc : TypeId × Value → H} {W : World} {A : Option Addr} {len cap : Nat} {d : DataW H} {p : List MemPlace}
    (h : DataW.Trod enc Try.prog W 0 (fun _ => true) true 39 (.slice A len cap) d p) : ∃ l : List Op, l.length = len ∧ Ops W A l := by
  obtain ⟨fuel, hf⟩ := h
  rcases open_slice Try.underlying39 hf with ⟨hcs, _⟩ | ⟨a, n, c, m, k, D, Pl, hcs, _, hl, _, hm, _, hx⟩
  · simp [Value.cells] at hcs
    obtain ⟨rfl, rfl, rfl⟩ := hcs
    exact ⟨[], rfl, .inl rfl⟩
  · simp [Value.cells] at hcs
    obtain ⟨rfl, rfl, rfl⟩ := hcs
    have hlm : len ≤ m := by rw [hm]; simpa using hl
    have ce : Try.prog.cellsOf 53 = 4 := by kernel_rfl
    have ci : Try.prog.cellsOf 3 = 1 := by kernel_rfl
    have cs9 : Try.prog.cellsOf 9 = 1 := by kernel_rfl
    have cu : Try.prog.cellsOf 29 = 1 := by kernel_rfl
    have each : ∀ i, i < len → ∃ q : Op, W.cell? (a.add (i * 4)) = some (.int .i64 q.k) ∧ W.cell? (a.add (i * 4 + 1)) = some (.int .i64 q.p) ∧ W.cell? (a.add (i * 4 + 2)) = some (.string q.x) ∧ W.cell? (a.add (i * 4 + 3)) = some (.int .u64 q.n) := by
      intro i hi
      obtain ⟨cs', h1, h2⟩ := hx i (by omega)
      rw [ce] at h1
      obtain ⟨_, hlen, hcell⟩ := World.cells?_some h1
      obtain ⟨xs, k', hk, hxy, _, hxl, hf'⟩ := DataW.trod_struct Try.underlying53 h2
      match xs, hxl, cs', hlen with
      | [y0, y1, y2, y3], _, [v0, v1, v2, v3], _ =>
        have g0 := hf' 0 _ rfl
        have g1 := hf' 1 _ rfl
        have g2 := hf' 2 _ rfl
        have g3 := hf' 3 _ rfl
        simp [ci, cs9, cu] at g0 g1 g2 g3
        obtain ⟨n0, e0, _, _⟩ := DataW.trod_int Try.underlying3 g0
        obtain ⟨n1, e1, _, _⟩ := DataW.trod_int Try.underlying3 g1
        obtain ⟨n2, e2, _, _⟩ := DataW.trod_string Try.underlying9 g2
        obtain ⟨n3, e3, _, _⟩ := DataW.trod_int Try.underlying29 g3
        simp at e0 e1 e2 e3
        subst e0 e1 e2 e3
        have c0 := hcell 0 (by omega)
        have c1 := hcell 1 (by omega)
        have c2 := hcell 2 (by omega)
        have c3 := hcell 3 (by omega)
        rw [add_add] at c0 c1 c2 c3
        exact ⟨⟨n0, n1, n2, n3⟩, by simpa using c0, by simpa using c1, by simpa using c2, by simpa using c3⟩
    rcases Nat.eq_zero_or_pos len with h0 | hpos
    · subst h0; exact ⟨[], rfl, .inl rfl⟩
    · have hspot : a.spot = none ∧ a.block < W.heap.size := by
        obtain ⟨q, c0, _⟩ := each 0 hpos
        refine ⟨?_, ?_⟩
        · cases hs : a.spot with
          | none => rfl
          | some s =>
            exfalso
            simp [Addr.add, World.cell?, hs] at c0
            split at c0 <;> simp at c0
        · have := World.block_lt_of_cell? W _ c0
          simpa [Addr.add] using this
      obtain ⟨ab, off, sp⟩ := a
      obtain ⟨rfl, hab⟩ := hspot
      have hadd : ∀ j, (⟨ab, off, none⟩ : Addr).add j = ⟨ab, off + j, none⟩ := fun j => by unfold Addr.add; split <;> simp_all
      have : Inhabited Op := ⟨⟨0, 0, ByteArray.empty, 0⟩⟩
      obtain ⟨f, hf2⟩ := choose_lt each
      refine ⟨(List.range len).map f, by simp, .inr ⟨ab, off, rfl, hab, fun j q hq => ?_⟩⟩
      have hj : j < len := by have := (List.getElem?_eq_some_iff.1 hq).1; simpa using this
      have e : q = f j := by simp [hj] at hq; exact hq.symm
      subst e
      have := hf2 j hj
      simp only [hadd] at this
      simpa [Nat.add_assoc] using this

end Go.Proofs.Ytkdmilchklmefaa
