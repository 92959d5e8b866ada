/- ints, rows: two slices of the same are alike. -/
import Derived.Test.YtkdmilchklmefaaPure
namespace Go.Proofs.Ytkdmilchklmefaa
open Go.RowKit
set_option linter.unusedVariables false
set_option linter.unusedSimpArgs false

set_option maxHeartbeats 1000000 in
theorem ints_same (w : World) (base1 base2 : Nat) (A1 A2 : Option Addr) (c1 c2 : Nat) (l : List Int) (h1 : w.ownsRow base1 3 1 (.slice A1 l.length c1) l.length (l.map (Value.int .i64)))
    (h2 : w.ownsRow base2 3 1 (.slice A2 l.length c2) l.length (l.map (Value.int .i64))) (hl : l.length ≤ 1000000) :
    Calls Try.prog 30 #[.slice A1 l.length c1, .slice A2 l.length c2] w fun e w' => e = .returned (.bool true) ∧ Ext [] w w' := by
  have H1 := Lib.hid h1
  have H2 := Lib.hid h2
  clear h1 h2
  go_enter Try.func30, Try.ntmps30
  go_wp2
  go_loopw [13] (fun i wr => ∃ j : Nat, j ≤ l.length ∧ i = .int .i64 j ∧ Ext [] w wr) (fun i _ => l.length - (intOf i).toNat)
  case atStart => exact ⟨0, Nat.zero_le _, rfl, Ext.refl _ _⟩
  case round =>
    obtain ⟨j, hj, rfl, hext⟩ := hrel
    have HE := Lib.hid hext
    clear hext
    by_cases hlt : j < l.length
    · obtain ⟨x, hx⟩ : ∃ x, l[j]? = some x := ⟨l[j], by simp [hlt]⟩
      obtain ⟨g1, rfl, _⟩ := own_some H1.out (by omega)
      obtain ⟨g2, rfl, _⟩ := own_some H2.out (by omega)
      have k1 := own_cell (own_ext H1.out HE.out (by simp)) (j := j) (v := .int .i64 x) (by rw [List.getElem?_map, hx]; rfl)
      have k2 := own_cell (own_ext H2.out HE.out (by simp)) (j := j) (v := .int .i64 x) (by rw [List.getElem?_map, hx]; rfl)
      have b0 : (0 : Int) ≤ (j : Int) := by omega
      have b1 : (j : Int) < (l.length : Int) := by omega
      have HX := Lib.hid hx
      clear hx
      go_wp2
      go_quiet (fail)
      go_wp2
      go_roundw
      case rel => exact ⟨j + 1, by omega, by go_num, HE.out.drewN _⟩
      case measure => simp [intOf]; omega
    · go_wp2
      go_ret
      exact ⟨rfl, HE.out⟩

set_option maxHeartbeats 1000000 in
theorem rows_same (w : World) (base1 base2 : Nat) (A1 A2 : Option Addr) (c1 c2 : Nat) (l : List (Int × Int)) (h1 : w.ownsRow base1 37 2 (.slice A1 l.length c1) l.length (encs encD l))
    (h2 : w.ownsRow base2 37 2 (.slice A2 l.length c2) l.length (encs encD l)) (hl : l.length ≤ 1000000) :
    Calls Try.prog 32 #[.slice A1 l.length c1, .slice A2 l.length c2] w fun e w' => e = .returned (.bool true) ∧ Ext [] w w' := by
  have H1 := Lib.hid h1
  have H2 := Lib.hid h2
  clear h1 h2
  go_enter Try.func32, Try.ntmps32
  go_wp2
  go_loopw [13] (fun i wr => ∃ j : Nat, j ≤ l.length ∧ i = .int .i64 j ∧ Ext [] w wr) (fun i _ => l.length - (intOf i).toNat)
  case atStart => exact ⟨0, Nat.zero_le _, rfl, Ext.refl _ _⟩
  case round =>
    obtain ⟨j, hj, rfl, hext⟩ := hrel
    have HE := Lib.hid hext
    clear hext
    by_cases hlt : j < l.length
    · obtain ⟨x, hx⟩ : ∃ x, l[j]? = some x := ⟨l[j], by simp [hlt]⟩
      obtain ⟨g1, rfl, _⟩ := own_some H1.out (by omega)
      obtain ⟨g2, rfl, _⟩ := own_some H2.out (by omega)
      have e0 := encs_get (f := encD) (s := 2) (fun _ => rfl) hx (j := 0) (by omega)
      have e1 := encs_get (f := encD) (s := 2) (fun _ => rfl) hx (j := 1) (by omega)
      obtain ⟨xi, xr⟩ := x
      have k1 := own_cell (own_ext H1.out HE.out (by simp)) (j := j * 2) (v := .int .i64 xi) (by simpa [encD] using e0)
      have k1' := own_cell (own_ext H1.out HE.out (by simp)) (j := j * 2 + 1) (v := .int .u64 xr) (by simpa [encD] using e1)
      have k2 := own_cell (own_ext H2.out HE.out (by simp)) (j := j * 2) (v := .int .i64 xi) (by simpa [encD] using e0)
      have k2' := own_cell (own_ext H2.out HE.out (by simp)) (j := j * 2 + 1) (v := .int .u64 xr) (by simpa [encD] using e1)
      clear e0 e1
      have b0 : (0 : Int) ≤ (j : Int) := by omega
      have b1 : (j : Int) < (l.length : Int) := by omega
      have HX := Lib.hid hx
      clear hx
      go_wp2
      go_quiet (fail)
      go_wp2
      go_roundw
      case rel => exact ⟨j + 1, by omega, by go_num, HE.out.drewN _⟩
      case measure => simp [intOf]; omega
    · go_wp2
      go_ret
      exact ⟨rfl, HE.out⟩

end Go.Proofs.Ytkdmilchklmefaa
