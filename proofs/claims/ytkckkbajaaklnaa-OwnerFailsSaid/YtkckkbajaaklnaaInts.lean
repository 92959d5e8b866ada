/- ints: two slices of the same numbers are alike. -/
import Derived.Test.YtkckkbajaaklnaaOwn
namespace Go.Proofs.Ytkckkbajaaklnaa
open Go.RowKit
set_option linter.unusedVariables false
set_option linter.unusedSimpArgs false

set_option maxHeartbeats 1000000 in
theorem ints_same (w : World) (base1 base2 : Nat) (A1 A2 : Option Addr) (c1 c2 : Nat) (l : List Int) (h1 : w.ownsRow base1 3 1 (.slice A1 l.length c1) l.length (l.map (Value.int .i64)))
    (h2 : w.ownsRow base2 3 1 (.slice A2 l.length c2) l.length (l.map (Value.int .i64))) (hl : l.length ≤ 1000000) :
    Calls Try.prog 28 #[.slice A1 l.length c1, .slice A2 l.length c2] w fun e w' => e = .returned (.bool true) ∧ Ext [] w w' := by
  have H1 := Lib.hid h1
  have H2 := Lib.hid h2
  clear h1 h2
  go_enter Try.func28, Try.ntmps28
  go_wp2
  go_loopw [13] (fun i wr => ∃ j : Nat, j ≤ l.length ∧ i = .int .i64 j ∧ Ext [] w wr) (fun i _ => l.length - (intOf i).toNat)
  case atStart => exact ⟨0, Nat.zero_le _, rfl, Ext.refl _ _⟩
  case round =>
    obtain ⟨j, hj, rfl, hext⟩ := hrel
    have HE := Lib.hid hext
    clear hext
    by_cases hlt : j < l.length
    · obtain ⟨x, hx⟩ : ∃ x, l[j]? = some x := ⟨l[j], by simp [hlt]⟩
      obtain ⟨g1, rfl⟩ : ∃ g, A1 = some ⟨g, 0, none⟩ := by
        rcases own_form H1.out with ⟨_, h⟩ | ⟨g, cap, h⟩
        · omega
        · injection h with h _ _; exact ⟨g, h⟩
      obtain ⟨g2, rfl⟩ : ∃ g, A2 = some ⟨g, 0, none⟩ := by
        rcases own_form H2.out with ⟨_, h⟩ | ⟨g, cap, h⟩
        · omega
        · injection h with h _ _; exact ⟨g, h⟩
      have k1 := Ints.cell (own_ext H1.out HE.out (by simp)) hx
      have k2 := Ints.cell (own_ext H2.out HE.out (by simp)) hx
      have b0 : (0 : Int) ≤ (j : Int) := by omega
      have b1 : (j : Int) < (l.length : Int) := by omega
      have HX := Lib.hid hx
      clear hx
      go_wp2
      go_quiet (fail)
      go_wp2
      go_roundw
      case rel => exact ⟨j + 1, by omega, by go_num, HE.out.drewN _⟩
      case measure => simp [intOf]; omega
    · go_wp2
      go_ret
      exact ⟨rfl, HE.out⟩

end Go.Proofs.Ytkckkbajaaklnaa
