/- The document's bytes of a step. -/
import Derived.Test.YthedllndcibkcaaBytesP
namespace Go.Proofs.Ythedllndcibkcaa
open Go.RowKit
set_option linter.unusedVariables false
set_option linter.unusedSimpArgs false

set_option maxHeartbeats 4000000 in
theorem part_any (x : St) (hv : x.v.size ≤ 1000) (c : UInt8) (hc : c ∈ rletters) (w : World) : Calls Try.prog 24 #[.agg x.cells.toArray, .int .u8 (c.toNat : Int)] w fun e w' => e = .returned (.int .i64 (partV c x)) ∧ Ext [] w w' := by
  obtain ⟨k, n, t, p, s, o, c', m, v⟩ := x
  simp only at hv
  simp only [St.cells]
  simp only [rletters, List.mem_cons, List.not_mem_nil, or_false] at hc
  rcases hc with rfl | rfl | rfl | rfl | rfl | rfl | rfl | rfl | rfl | rfl
  all_goals
    go_enter Try.func24, Try.ntmps24
    go_wp2
    go_ret
    exact ⟨rfl, (Ext.refl _ _).alloc _⟩

/-- What is handed back. -/
def RBPost (x : St) (w : World) (e : Ending) (w' : World) : Prop :=
  Ext [] w w' ∧ ∃ s : ByteArray, e = .returned (.tuple #[.string s, .bool (pOk x)]) ∧ (pOk x = true → nums s = pOut x)

set_option maxHeartbeats 1000000 in
theorem rbytes_none (x : St) (w : World) (h : kindB x.k = false) : Calls Try.prog 22 #[.agg x.cells.toArray] w (RBPost x w) := by
  obtain ⟨k, n, t, p, s, o, c, m, v⟩ := x
  simp only at h
  have hok : pOk ⟨k, n, t, p, s, o, c, m, v⟩ = false := by simp [pOk, h]
  have hF0 : formS k = ⟨#[]⟩ := by unfold formS; rw [formL_none k h]
  have HF := Lib.hid hF0
  have HOK := Lib.hid hok
  simp only [St.cells]
  clear h hok hF0
  go_enter Try.func22, Try.ntmps22
  go_wp2_with (go_at_call 19; refine (form_is k ⟨#[]⟩ HF.out _).mono ?_; rintro e w' ⟨rfl, rfl⟩)
  go_ret2
  exact ⟨(Ext.refl _ _).alloc _, ⟨#[]⟩, by rw [HOK.out]; rfl, fun hh => by rw [HOK.out] at hh; cases hh⟩

end Go.Proofs.Ythedllndcibkcaa
