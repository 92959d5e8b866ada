/- find: a page's frame. -/
import Derived.Test.YtkdmilchklmefaaModel
namespace Go.Proofs.Ytkdmilchklmefaa
open Go.RowKit
set_option linter.unusedVariables false
set_option linter.unusedSimpArgs false


/-- The frames of a pool, as they lie in memory. -/
abbrev sPool (w : World) (b g : Nat) (F : List (Fr ByteArray)) (h : Nat) : Prop := Pool Value.string 66 71 w b g F h

set_option maxHeartbeats 1000000 in
theorem sfind_hit (w : World) (b g h : Nat) (F : List (Fr ByteArray)) (hp : sPool w b g F h) (id : Int) (i : Nat) (hf : find F id = some i) :
    Calls Try.prog 36 #[.pointer (some ⟨b, 0, none⟩), .int .i64 id] w fun e w' => e = .returned (.pointer (some ⟨g, i * 7, none⟩)) ∧ w = w' := by
  have hfew := hp.few
  have c0 := hp.frames
  have HP := Lib.hid hp
  have HI := Lib.hid (find_hit hf)
  clear hp hf
  go_enter Try.func36, Try.ntmps36
  go_wp2
  go_loop [14] (fun k => ∃ j : Nat, j ≤ i ∧ k = .int .i64 j) (fun k => i + 1 - (intOf k).toNat)
  case atStart => exact ⟨0, Nat.zero_le _, rfl⟩
  case round =>
    obtain ⟨j, hj, rfl⟩ := hrel
    obtain ⟨f, hfi, hh⟩ := HI.out.1
    have hil : i < F.length := (List.getElem?_eq_some_iff.1 hfi).1
    by_cases hlt : j < i
    · obtain ⟨q, hq⟩ : ∃ q, F[j]? = some q := ⟨F[j]'(by omega), by rw [List.getElem?_eq_getElem (by omega)]⟩
      have hn := HI.out.2 j hlt q hq
      obtain ⟨k0, k1, _⟩ := HP.out.cells hq
      obtain ⟨th, qi, qx, qm, qf, qd, qr⟩ := q
      simp only [hitB] at hn k0 k1
      have hlen : j < F.length := by omega
      clear hq hfi hh
      cases th with
      | false =>
        clear hn
        go_wp2
        go_round
        case rel => exact ⟨j + 1, by omega, by go_num⟩
        case measure => simp [intOf]; omega
      | true =>
        have hb : (qi == id) = false := by simpa using hn
        clear hn
        go_wp2
        go_round
        case rel => exact ⟨j + 1, by omega, by go_num⟩
        case measure => simp [intOf]; omega
    · have e : j = i := by omega
      subst e
      obtain ⟨k0, k1, _⟩ := HP.out.cells hfi
      obtain ⟨th, qi, qx, qm, qf, qd, qr⟩ := f
      simp only [hitB, Bool.and_eq_true, beq_iff_eq] at hh k0 k1
      obtain ⟨rfl, rfl⟩ := hh
      clear hfi
      go_wp2
      go_ret
      exact ⟨rfl, rfl⟩

set_option maxHeartbeats 1000000 in
theorem sfind_miss (w : World) (b g h : Nat) (F : List (Fr ByteArray)) (hp : sPool w b g F h) (id : Int) (hf : find F id = none) :
    Calls Try.prog 36 #[.pointer (some ⟨b, 0, none⟩), .int .i64 id] w fun e w' => e = .returned (.pointer none) ∧ w = w' := by
  have hfew := hp.few
  have c0 := hp.frames
  have HP := Lib.hid hp
  have HI := Lib.hid (find_miss hf)
  clear hp hf
  go_enter Try.func36, Try.ntmps36
  go_wp2
  go_loop [14] (fun k => ∃ j : Nat, j ≤ F.length ∧ k = .int .i64 j) (fun k => F.length - (intOf k).toNat)
  case atStart => exact ⟨0, Nat.zero_le _, rfl⟩
  case round =>
    obtain ⟨j, hj, rfl⟩ := hrel
    by_cases hlt : j < F.length
    · obtain ⟨q, hq⟩ : ∃ q, F[j]? = some q := ⟨F[j], by simp [hlt]⟩
      have hn := HI.out j q hq
      obtain ⟨k0, k1, _⟩ := HP.out.cells hq
      obtain ⟨th, qi, qx, qm, qf, qd, qr⟩ := q
      simp only [hitB] at hn k0 k1
      clear hq
      cases th with
      | false =>
        clear hn
        go_wp2
        go_round
        case rel => exact ⟨j + 1, by omega, by go_num⟩
        case measure => simp [intOf]; omega
      | true =>
        have hb : (qi == id) = false := by simpa using hn
        clear hn
        go_wp2
        go_round
        case rel => exact ⟨j + 1, by omega, by go_num⟩
        case measure => simp [intOf]; omega
    · go_wp2
      go_ret
      exact ⟨rfl, rfl⟩

end Go.Proofs.Ytkdmilchklmefaa
