/- The reference's Put and Full. -/
import Derived.Test.YtkdmilchklmefaaRMeth
namespace Go.Proofs.Ytkdmilchklmefaa
open Go.RowKit
set_option linter.unusedVariables false
set_option linter.unusedSimpArgs false

theorem pg_there {f : Fr ByteArray} (hv : (f.there = true → 0 ≤ f.id ∧ f.id < 32) ∧ 0 ≤ f.fixes) (h : f.there = true) : ¬ pg f < 0 := by
  unfold pg; rw [if_pos h]; have := hv.1 h; omega
theorem pg_away {f : Fr ByteArray} (h : f.there = false) : pg f = -1 := by unfold pg; rw [h]; rfl

set_option maxHeartbeats 1000000 in
theorem rput_bad (d : Value) (w : World) (id : Int) (x : ByteArray) (hid : ¬ (0 ≤ id ∧ id < 32)) :
    Calls Try.prog 38 #[d, .int .i64 id, Value.string x] w fun e w' => e = .returned (.int .i64 1) ∧ w = w' := by
  by_cases h0 : id < 0
  · clear hid
    go_enter Try.func38, Try.ntmps38
    go_wp2
    go_ret
    exact ⟨rfl, rfl⟩
  · have h1 : (31 : Int) < id := by omega
    clear hid
    go_enter Try.func38, Try.ntmps38
    go_wp2
    go_ret
    exact ⟨rfl, rfl⟩

set_option maxHeartbeats 1000000 in
theorem rput_exists (w : World) (b g cap h : Nat) (tl : List Value) (F : List (Fr ByteArray)) (hp : RPool w b g cap tl F h) (id : Int) (x : ByteArray) (h0 : 0 ≤ id) (h1 : id < 32) (i : Nat) (hf : find F id = some i) :
    Calls Try.prog 38 #[.pointer (some ⟨b, 0, none⟩), .int .i64 id, Value.string x] w fun e w' => e = .returned (.int .i64 6) ∧ w = w' := by
  have h2 : ¬ 31 < id := by omega
  have HP := Lib.hid hp
  have HI := Lib.hid hf
  clear hp hf
  go_enter Try.func38, Try.ntmps38
  go_wp2_with (go_at_call 57; refine (rat_hit _ b g cap h tl F HP.out id i HI.out).mono ?_; rintro e w' ⟨rfl, rfl⟩)
  go_ret
  exact ⟨rfl, rfl⟩

set_option maxHeartbeats 1000000 in
theorem rput_first (w : World) (b g cap h : Nat) (tl : List Value) (F : List (Fr ByteArray)) (hp : RPool w b g cap tl F h) (id : Int) (x : ByteArray) (h0 : 0 ≤ id) (h1 : id < 32) (hf : find F id = none) (i : Nat) (he : empty F = some i) :
    Calls Try.prog 38 #[.pointer (some ⟨b, 0, none⟩), .int .i64 id, Value.string x] w fun e w' => e = .returned (.int .i64 0) ∧ RU w w' b g cap tl (F.set i ⟨true, id, x, true, 0, false, 0⟩) h := by
  have hfew := hp.few
  have c0 := hp.frames
  have hgn : g ≠ b := fun e => hp.ne e.symm
  have h2 : ¬ 31 < id := by omega
  have HID := Lib.hid (And.intro h0 h1)
  have HP := Lib.hid hp
  have HI := Lib.hid hf
  have HE := Lib.hid (empty_hit he)
  clear hp hf he
  go_enter Try.func38, Try.ntmps38
  go_wp2_with (go_at_call 57; refine (rat_miss _ b g cap h tl F HP.out id HI.out).mono ?_; rintro e w' ⟨rfl, rfl⟩)
  go_loop [23] (fun k => ∃ j : Nat, j ≤ i ∧ k = .int .i64 j) (fun k => i + 1 - (intOf k).toNat)
  case atStart => exact ⟨0, Nat.zero_le _, rfl⟩
  case round =>
    obtain ⟨j, hj, rfl⟩ := hrel
    obtain ⟨f, hfi, hh⟩ := HE.out.1
    have hil : i < F.length := (List.getElem?_eq_some_iff.1 hfi).1
    by_cases hlt : j < i
    · obtain ⟨q, hq⟩ : ∃ q, F[j]? = some q := ⟨F[j]'(by omega), by rw [List.getElem?_eq_getElem (by omega)]⟩
      have hn := pg_there (HP.out.val q (List.mem_of_getElem? hq)) (HE.out.2 j hlt q hq)
      obtain ⟨k0, _⟩ := HP.out.cells hq
      have hlen : j < F.length := by omega
      clear hq hfi hh
      generalize pg q = pq at *
      go_wp2
      go_round
      case rel => exact ⟨j + 1, by omega, by go_num⟩
      case measure => simp [intOf]; omega
    · have e : j = i := by omega
      subst e
      obtain ⟨k0, k1, k2, k3, k4, k5⟩ := HP.out.cells hfi
      rw [pg_away hh] at k0
      have f0 := HP.out.free (j * 6)
      have f1 := HP.out.free (j * 6 + 1)
      have f2 := HP.out.free (j * 6 + 2)
      have f3 := HP.out.free (j * 6 + 3)
      have f4 := HP.out.free (j * 6 + 4)
      have f5 := HP.out.free (j * 6 + 5)
      have HF := Lib.hid hfi
      clear hfi hh
      go_wp2
      go_ret
      exact ⟨rfl, HP.out.store ⟨true, id, x, true, 0, false, 0⟩ HF.out ⟨fun _ => HID.out, by simp⟩, (((((((Ext.refl _ _).setCell (.inl (by simp)) _).setCell (.inl (by simp)) _).setCell (.inl (by simp)) _).setCell (.inl (by simp)) _).setCell (.inl (by simp)) _).setCell (.inl (by simp)) _)⟩

set_option maxHeartbeats 1000000 in
theorem rput_full (w : World) (b g cap h : Nat) (tl : List Value) (F : List (Fr ByteArray)) (hp : RPool w b g cap tl F h) (id : Int) (x : ByteArray) (h0 : 0 ≤ id) (h1 : id < 32) (hf : find F id = none) (he : empty F = none) :
    Calls Try.prog 38 #[.pointer (some ⟨b, 0, none⟩), .int .i64 id, Value.string x] w fun e w' => e = .returned (.int .i64 8) ∧ w = w' := by
  have hfew := hp.few
  have c0 := hp.frames
  have h2 : ¬ 31 < id := by omega
  have HP := Lib.hid hp
  have HI := Lib.hid hf
  have HE := Lib.hid (empty_miss he)
  clear hp hf he
  go_enter Try.func38, Try.ntmps38
  go_wp2_with (go_at_call 57; refine (rat_miss _ b g cap h tl F HP.out id HI.out).mono ?_; rintro e w' ⟨rfl, rfl⟩)
  go_loop [23] (fun k => ∃ j : Nat, j ≤ F.length ∧ k = .int .i64 j) (fun k => F.length - (intOf k).toNat)
  case atStart => exact ⟨0, Nat.zero_le _, rfl⟩
  case round =>
    obtain ⟨j, hj, rfl⟩ := hrel
    by_cases hlt : j < F.length
    · obtain ⟨q, hq⟩ : ∃ q, F[j]? = some q := ⟨F[j], by simp [hlt]⟩
      have hn := pg_there (HP.out.val q (List.mem_of_getElem? hq)) (HE.out j q hq)
      obtain ⟨k0, _⟩ := HP.out.cells hq
      clear hq
      generalize pg q = pq at *
      go_wp2
      go_round
      case rel => exact ⟨j + 1, by omega, by go_num⟩
      case measure => simp [intOf]; omega
    · go_wp2
      go_ret
      exact ⟨rfl, rfl⟩

set_option maxHeartbeats 1000000 in
theorem rfull_yes (w : World) (b g cap h : Nat) (tl : List Value) (F : List (Fr ByteArray)) (hp : RPool w b g cap tl F h) (he : empty F = none) :
    Calls Try.prog 47 #[.pointer (some ⟨b, 0, none⟩)] w fun e w' => e = .returned (.bool true) ∧ w = w' := by
  have hfew := hp.few
  have c0 := hp.frames
  have HP := Lib.hid hp
  have HE := Lib.hid (empty_miss he)
  clear hp he
  go_enter Try.func47, Try.ntmps47
  go_wp2
  go_loop [9] (fun k => ∃ j : Nat, j ≤ F.length ∧ k = .int .i64 j) (fun k => F.length - (intOf k).toNat)
  case atStart => exact ⟨0, Nat.zero_le _, rfl⟩
  case round =>
    obtain ⟨j, hj, rfl⟩ := hrel
    by_cases hlt : j < F.length
    · obtain ⟨q, hq⟩ : ∃ q, F[j]? = some q := ⟨F[j], by simp [hlt]⟩
      have hn := pg_there (HP.out.val q (List.mem_of_getElem? hq)) (HE.out j q hq)
      obtain ⟨k0, _⟩ := HP.out.cells hq
      clear hq
      generalize pg q = pq at *
      go_wp2
      go_round
      case rel => exact ⟨j + 1, by omega, by go_num⟩
      case measure => simp [intOf]; omega
    · go_wp2
      go_ret
      exact ⟨rfl, rfl⟩

set_option maxHeartbeats 1000000 in
theorem rfull_no (w : World) (b g cap h : Nat) (tl : List Value) (F : List (Fr ByteArray)) (hp : RPool w b g cap tl F h) (i : Nat) (he : empty F = some i) :
    Calls Try.prog 47 #[.pointer (some ⟨b, 0, none⟩)] w fun e w' => e = .returned (.bool false) ∧ w = w' := by
  have hfew := hp.few
  have c0 := hp.frames
  have HP := Lib.hid hp
  have HE := Lib.hid (empty_hit he)
  clear hp he
  go_enter Try.func47, Try.ntmps47
  go_wp2
  go_loop [9] (fun k => ∃ j : Nat, j ≤ i ∧ k = .int .i64 j) (fun k => i + 1 - (intOf k).toNat)
  case atStart => exact ⟨0, Nat.zero_le _, rfl⟩
  case round =>
    obtain ⟨j, hj, rfl⟩ := hrel
    obtain ⟨f, hfi, hh⟩ := HE.out.1
    have hil : i < F.length := (List.getElem?_eq_some_iff.1 hfi).1
    by_cases hlt : j < i
    · obtain ⟨q, hq⟩ : ∃ q, F[j]? = some q := ⟨F[j]'(by omega), by rw [List.getElem?_eq_getElem (by omega)]⟩
      have hn := pg_there (HP.out.val q (List.mem_of_getElem? hq)) (HE.out.2 j hlt q hq)
      obtain ⟨k0, _⟩ := HP.out.cells hq
      have hlen : j < F.length := by omega
      clear hq hfi hh
      generalize pg q = pq at *
      go_wp2
      go_round
      case rel => exact ⟨j + 1, by omega, by go_num⟩
      case measure => simp [intOf]; omega
    · have e : j = i := by omega
      subst e
      obtain ⟨k0, _⟩ := HP.out.cells hfi
      rw [pg_away hh] at k0
      clear hfi hh
      go_wp2
      go_ret
      exact ⟨rfl, rfl⟩

theorem rfull_any (w : World) (b g cap h : Nat) (tl : List Value) (F : List (Fr ByteArray)) (hp : RPool w b g cap tl F h) :
    Calls Try.prog 47 #[.pointer (some ⟨b, 0, none⟩)] w fun e w' => e = .returned (.bool (empty F).isNone) ∧ w = w' := by
  cases he : empty F with
  | none => exact rfull_yes w b g cap h tl F hp he
  | some i => exact rfull_no w b g cap h tl F hp i he

end Go.Proofs.Ytkdmilchklmefaa
