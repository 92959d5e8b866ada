/- What each call of the reference answers, whatever the frames. -/
import Derived.Test.YtkdmilchklmefaaStep
import Derived.Test.YtkdmilchklmefaaRVic
import Derived.Test.YtkdmilchklmefaaRPut
namespace Go.Proofs.Ytkdmilchklmefaa
open Go.RowKit
set_option linter.unusedVariables false
set_option linter.unusedSimpArgs false

theorem rhere {w : World} {b g cap h : Nat} {tl : List Value} {F : List (Fr ByteArray)} (hp : RPool w b g cap tl F h) : RU w w b g cap tl F h := ⟨hp, Ext.refl _ _⟩
theorem rget_any (w : World) (b g cap h : Nat) (tl : List Value) (F : List (Fr ByteArray)) (hp : RPool w b g cap tl F h) (id : Int) :
    Calls Try.prog 37 #[.pointer (some ⟨b, 0, none⟩), .int .i64 id] w fun e w' => e = .returned (.tuple #[.string (xOf ByteArray.empty F id), .bool (find F id).isSome]) ∧ RU w w' b g cap tl (upd F id mrkU) h := by
  cases hf : find F id with
  | none =>
    rw [upd_miss _ hf, show xOf ByteArray.empty F id = ByteArray.empty by unfold xOf; rw [frOf_miss hf]]
    refine (rget_miss w b g cap h tl F hp id hf).mono ?_
    rintro e w' ⟨rfl, rfl⟩
    exact ⟨rfl, rhere hp⟩
  | some i =>
    obtain ⟨f, hi, _, _⟩ := find_get hf
    rw [upd_hit _ hf hi, show xOf ByteArray.empty F id = f.x by unfold xOf; rw [frOf_hit hf hi]]
    exact rget_hit w b g cap h tl F hp id i f hf hi
theorem rclean_any (w : World) (b g cap h : Nat) (tl : List Value) (F : List (Fr ByteArray)) (hp : RPool w b g cap tl F h) (id : Int) :
    Calls Try.prog 40 #[.pointer (some ⟨b, 0, none⟩), .int .i64 id] w fun e w' => e = .returned (.int .i64 (ans F id fun _ => 0)) ∧ RU w w' b g cap tl (upd F id clnU) h := by
  cases hf : find F id with
  | none =>
    rw [upd_miss _ hf, ans_miss _ hf]
    refine (rclean_miss w b g cap h tl F hp id hf).mono ?_
    rintro e w' ⟨rfl, rfl⟩
    exact ⟨rfl, rhere hp⟩
  | some i =>
    obtain ⟨f, hi, _, _⟩ := find_get hf
    rw [upd_hit _ hf hi, ans_hit _ hf hi]
    exact rclean_hit w b g cap h tl F hp id i f hf hi
theorem rset_any (w : World) (b g cap h : Nat) (tl : List Value) (F : List (Fr ByteArray)) (hp : RPool w b g cap tl F h) (id : Int) (x : ByteArray) (r : Int) :
    Calls Try.prog 39 #[.pointer (some ⟨b, 0, none⟩), .int .i64 id, .string x, .int .u64 r] w fun e w' => e = .returned (.int .i64 (ans F id fun _ => 0)) ∧ RU w w' b g cap tl (upd F id (setU x r)) h := by
  cases hf : find F id with
  | none =>
    rw [upd_miss _ hf, ans_miss _ hf]
    refine (rset_miss w b g cap h tl F hp id x r hf).mono ?_
    rintro e w' ⟨rfl, rfl⟩
    exact ⟨rfl, rhere hp⟩
  | some i =>
    obtain ⟨f, hi, _, _⟩ := find_get hf
    rw [upd_hit _ hf hi, ans_hit _ hf hi]
    unfold setU
    cases hr : (r != 0) with
    | false =>
      rw [if_neg (by simp)]
      exact rset_more w b g cap h tl F hp id x r i f hf hi (.inl hr)
    | true =>
      by_cases hd : f.dirty = true
      · rw [if_neg (by simp [hd])]
        exact rset_more w b g cap h tl F hp id x r i f hf hi (.inr ⟨hr, hd⟩)
      · rw [if_pos (by simp [hd])]
        exact rset_first w b g cap h tl F hp id x r i f hf hi hr (by simpa using hd)
theorem rfix_any (w : World) (b g cap h : Nat) (tl : List Value) (F : List (Fr ByteArray)) (hp : RPool w b g cap tl F h) (id : Int) (hF : Few 1000000 F) :
    Calls Try.prog 41 #[.pointer (some ⟨b, 0, none⟩), .int .i64 id, .int .i64 1] w fun e w' => e = .returned (.int .i64 (ans F id fun _ => 0)) ∧ RU w w' b g cap tl (upd F id fixU) h := by
  cases hf : find F id with
  | none =>
    rw [upd_miss _ hf, ans_miss _ hf]
    refine (rfix_miss w b g cap h tl F hp id 1 hf).mono ?_
    rintro e w' ⟨rfl, rfl⟩
    exact ⟨rfl, rhere hp⟩
  | some i =>
    obtain ⟨f, hi, _, _⟩ := find_get hf
    rw [upd_hit _ hf hi, ans_hit _ hf hi]
    have := hF f (List.mem_of_getElem? hi)
    exact rfix_hit w b g cap h tl F hp id 1 i f hf hi (by omega) this.2 (by omega) (by omega)
theorem runfix_any (w : World) (b g cap h : Nat) (tl : List Value) (F : List (Fr ByteArray)) (hp : RPool w b g cap tl F h) (id : Int) (hF : Few 1000000 F) :
    Calls Try.prog 41 #[.pointer (some ⟨b, 0, none⟩), .int .i64 id, .int .i64 (-1)] w fun e w' => e = .returned (.int .i64 (ans F id unfK)) ∧ RU w w' b g cap tl (upd F id unfU) h := by
  cases hf : find F id with
  | none =>
    rw [upd_miss _ hf, ans_miss _ hf]
    refine (rfix_miss w b g cap h tl F hp id (-1) hf).mono ?_
    rintro e w' ⟨rfl, rfl⟩
    exact ⟨rfl, rhere hp⟩
  | some i =>
    obtain ⟨f, hi, _, _⟩ := find_get hf
    rw [upd_hit _ hf hi, ans_hit _ hf hi]
    have := hF f (List.mem_of_getElem? hi)
    unfold unfU unfK
    by_cases h0 : f.fixes = 0
    · rw [if_pos h0, if_pos h0, set_same hi]
      refine (rfix_state w b g cap h tl F hp id (-1) i f hf hi h0 rfl).mono ?_
      rintro e w' ⟨rfl, rfl⟩
      exact ⟨rfl, rhere hp⟩
    · rw [if_neg h0, if_neg h0]
      exact rfix_hit w b g cap h tl F hp id (-1) i f hf hi (by omega) this.2 (by omega) (by omega)
theorem rdrop_any (w : World) (b g cap h : Nat) (tl : List Value) (F : List (Fr ByteArray)) (hp : RPool w b g cap tl F h) (id : Int) :
    Calls Try.prog 43 #[.pointer (some ⟨b, 0, none⟩), .int .i64 id] w fun e w' => e = .returned (.int .i64 (ans F id drpK)) ∧ RU w w' b g cap tl (upd F id (drpU ByteArray.empty)) h := by
  cases hf : find F id with
  | none =>
    rw [upd_miss _ hf, ans_miss _ hf]
    refine (rdrop_miss w b g cap h tl F hp id hf).mono ?_
    rintro e w' ⟨rfl, rfl⟩
    exact ⟨rfl, rhere hp⟩
  | some i =>
    obtain ⟨f, hi, _, _⟩ := find_get hf
    rw [upd_hit _ hf hi, ans_hit _ hf hi]
    unfold drpU drpK
    by_cases h0 : 0 < f.fixes
    · rw [if_pos h0, if_pos h0, set_same hi]
      refine (rdrop_state w b g cap h tl F hp id i f hf hi h0).mono ?_
      rintro e w' ⟨rfl, rfl⟩
      exact ⟨rfl, rhere hp⟩
    · rw [if_neg h0, if_neg h0]
      exact rdrop_hit w b g cap h tl F hp id i f hf hi h0
theorem rput_any (w : World) (b g cap h : Nat) (tl : List Value) (F : List (Fr ByteArray)) (hp : RPool w b g cap tl F h) (id : Int) (x : ByteArray) :
    Calls Try.prog 38 #[.pointer (some ⟨b, 0, none⟩), .int .i64 id, .string x] w fun e w' => e = .returned (.int .i64 (putE F id)) ∧ RU w w' b g cap tl (putL F id x) h := by
  unfold putE putL
  by_cases hid : 0 ≤ id ∧ id < 32
  · rw [if_pos hid, if_pos hid]
    cases hf : find F id with
    | some i =>
      refine (rput_exists w b g cap h tl F hp id x hid.1 hid.2 i hf).mono ?_
      rintro e w' ⟨rfl, rfl⟩
      exact ⟨rfl, rhere hp⟩
    | none =>
      cases he : empty F with
      | none =>
        refine (rput_full w b g cap h tl F hp id x hid.1 hid.2 hf he).mono ?_
        rintro e w' ⟨rfl, rfl⟩
        exact ⟨rfl, rhere hp⟩
      | some i => exact rput_first w b g cap h tl F hp id x hid.1 hid.2 hf i he
  · rw [if_neg hid, if_neg hid]
    refine (rput_bad _ w id x hid).mono ?_
    rintro e w' ⟨rfl, rfl⟩
    exact ⟨rfl, rhere hp⟩
theorem rvictim_any (w : World) (b g cap h : Nat) (tl : List Value) (F : List (Fr ByteArray)) (hp : RPool w b g cap tl F h) :
    Calls Try.prog 42 #[.pointer (some ⟨b, 0, none⟩)] w fun e w' => e = .returned (.tuple #[.int .i64 (vic F h).1, .int .i64 (vic F h).2.1]) ∧ RU w w' b g cap tl (vic F h).2.2.1 (vic F h).2.2.2 := by
  unfold vic
  cases ha : F.any cand with
  | false =>
    rw [if_neg (by simp)]
    refine (rvictim_none w b g cap h tl F hp ha).mono ?_
    rintro e w' ⟨rfl, rfl⟩
    exact ⟨rfl, rhere hp⟩
  | true =>
    rw [if_pos rfl]
    obtain ⟨⟨id, F', h'⟩, hv⟩ := vict_any hp.hand ha
    rw [hv]
    exact rvictim_some w b g cap h tl F hp ha _ id F' h' hv

end Go.Proofs.Ytkdmilchklmefaa
