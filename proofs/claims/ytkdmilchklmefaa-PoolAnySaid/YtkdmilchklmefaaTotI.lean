/- What each call answers, whatever the frames. -/
import Derived.Test.YtkdmilchklmefaaStep
import Derived.Test.YtkdmilchklmefaaVicI
import Derived.Test.YtkdmilchklmefaaDirtI
namespace Go.Proofs.Ytkdmilchklmefaa
open Go.RowKit
set_option linter.unusedVariables false
set_option linter.unusedSimpArgs false


abbrev iPU (w w' : World) (b g : Nat) (F' : List (Fr Int)) (h' : Nat) : Prop := PU (Value.int .i64) 85 91 w w' b g F' h'
theorem ihere {w : World} {b g h : Nat} {F : List (Fr Int)} (hp : iPool w b g F h) : iPU w w b g F h := ⟨hp, Ext.refl _ _⟩
theorem iget_any (w : World) (b g h : Nat) (F : List (Fr Int)) (hp : iPool w b g F h) (id : Int) :
    Calls Try.prog 29 #[.pointer (some ⟨b, 0, none⟩), .int .i64 id] w fun e w' => e = .returned (.tuple #[(Value.int .i64) (xOf 0 F id), .bool (find F id).isSome]) ∧ iPU w w' b g (upd F id mrkU) h := by
  cases hf : find F id with
  | none =>
    rw [upd_miss _ hf, show xOf 0 F id = 0 by unfold xOf; rw [frOf_miss hf]]
    refine (iget_miss w b g h F hp id hf).mono ?_
    rintro e w' ⟨rfl, rfl⟩
    exact ⟨rfl, ihere hp⟩
  | some i =>
    obtain ⟨f, hi, _, _⟩ := find_get hf
    rw [upd_hit _ hf hi, show xOf 0 F id = f.x by unfold xOf; rw [frOf_hit hf hi]]
    exact iget_hit w b g h F hp id i f hf hi
theorem iput_any (w : World) (b g h : Nat) (F : List (Fr Int)) (hp : iPool w b g F h) (id : Int) (x : Int) :
    Calls Try.prog 48 #[.pointer (some ⟨b, 0, none⟩), .int .i64 id, (Value.int .i64) x] w fun e w' => e = .returned (.int .i64 (putE F id)) ∧ iPU w w' b g (putL F id x) h := by
  unfold putE putL
  by_cases hid : 0 ≤ id ∧ id < 32
  · rw [if_pos hid, if_pos hid]
    cases hf : find F id with
    | some i =>
      refine (iput_exists w b g h F hp id x hid.1 hid.2 i hf).mono ?_
      rintro e w' ⟨rfl, rfl⟩
      exact ⟨rfl, ihere hp⟩
    | none =>
      cases he : empty F with
      | none =>
        refine (iput_full w b g h F hp id x hid.1 hid.2 hf he).mono ?_
        rintro e w' ⟨rfl, rfl⟩
        exact ⟨rfl, ihere hp⟩
      | some i => exact iput_first w b g h F hp id x hid.1 hid.2 hf i he
  · rw [if_neg hid, if_neg hid]
    refine (iput_bad _ w id x hid).mono ?_
    rintro e w' ⟨rfl, rfl⟩
    exact ⟨rfl, ihere hp⟩
theorem iset_any (w : World) (b g h : Nat) (F : List (Fr Int)) (hp : iPool w b g F h) (id : Int) (x : Int) (r : Int) :
    Calls Try.prog 49 #[.pointer (some ⟨b, 0, none⟩), .int .i64 id, (Value.int .i64) x, .int .u64 r] w fun e w' => e = .returned (.int .i64 (ans F id fun _ => 0)) ∧ iPU w w' b g (upd F id (setU x r)) h := by
  cases hf : find F id with
  | none =>
    rw [upd_miss _ hf, ans_miss _ hf]
    refine (iset_miss w b g h F hp id x r hf).mono ?_
    rintro e w' ⟨rfl, rfl⟩
    exact ⟨rfl, ihere hp⟩
  | some i =>
    obtain ⟨f, hi, _, _⟩ := find_get hf
    rw [upd_hit _ hf hi, ans_hit _ hf hi]
    unfold setU
    cases hr : (r != 0) with
    | false =>
      rw [if_neg (by simp)]
      exact iset_more w b g h F hp id x r i f hf hi (.inl hr)
    | true =>
      by_cases hd : f.dirty = true
      · rw [if_neg (by simp [hd])]
        exact iset_more w b g h F hp id x r i f hf hi (.inr ⟨hr, hd⟩)
      · rw [if_pos (by simp [hd])]
        exact iset_first w b g h F hp id x r i f hf hi hr (by simpa using hd)
theorem iclean_any (w : World) (b g h : Nat) (F : List (Fr Int)) (hp : iPool w b g F h) (id : Int) :
    Calls Try.prog 50 #[.pointer (some ⟨b, 0, none⟩), .int .i64 id] w fun e w' => e = .returned (.int .i64 (ans F id fun _ => 0)) ∧ iPU w w' b g (upd F id clnU) h := by
  cases hf : find F id with
  | none =>
    rw [upd_miss _ hf, ans_miss _ hf]
    refine (iclean_miss w b g h F hp id hf).mono ?_
    rintro e w' ⟨rfl, rfl⟩
    exact ⟨rfl, ihere hp⟩
  | some i =>
    obtain ⟨f, hi, _, _⟩ := find_get hf
    rw [upd_hit _ hf hi, ans_hit _ hf hi]
    exact iclean_hit w b g h F hp id i f hf hi
theorem ifix_any (w : World) (b g h : Nat) (F : List (Fr Int)) (hp : iPool w b g F h) (hF : Few 1000000 F) (id : Int) :
    Calls Try.prog 51 #[.pointer (some ⟨b, 0, none⟩), .int .i64 id] w fun e w' => e = .returned (.int .i64 (ans F id fun _ => 0)) ∧ iPU w w' b g (upd F id fixU) h := by
  cases hf : find F id with
  | none =>
    rw [upd_miss _ hf, ans_miss _ hf]
    refine (ifix_miss w b g h F hp id hf).mono ?_
    rintro e w' ⟨rfl, rfl⟩
    exact ⟨rfl, ihere hp⟩
  | some i =>
    obtain ⟨f, hi, _, _⟩ := find_get hf
    have := hF f (List.mem_of_getElem? hi)
    rw [upd_hit _ hf hi, ans_hit _ hf hi]
    exact ifix_hit w b g h F hp id i f hf hi this.1 this.2
theorem iunfix_any (w : World) (b g h : Nat) (F : List (Fr Int)) (hp : iPool w b g F h) (hF : Few 1000000 F) (id : Int) :
    Calls Try.prog 52 #[.pointer (some ⟨b, 0, none⟩), .int .i64 id] w fun e w' => e = .returned (.int .i64 (ans F id unfK)) ∧ iPU w w' b g (upd F id unfU) h := by
  cases hf : find F id with
  | none =>
    rw [upd_miss _ hf, ans_miss _ hf]
    refine (iunfix_miss w b g h F hp id hf).mono ?_
    rintro e w' ⟨rfl, rfl⟩
    exact ⟨rfl, ihere hp⟩
  | some i =>
    obtain ⟨f, hi, _, _⟩ := find_get hf
    have := hF f (List.mem_of_getElem? hi)
    rw [upd_hit _ hf hi, ans_hit _ hf hi]
    unfold unfU unfK
    by_cases h0 : f.fixes = 0
    · rw [if_pos h0, if_pos h0, set_same hi]
      refine (iunfix_state w b g h F hp id i f hf hi h0).mono ?_
      rintro e w' ⟨rfl, rfl⟩
      exact ⟨rfl, ihere hp⟩
    · rw [if_neg h0, if_neg h0]
      exact iunfix_hit w b g h F hp id i f hf hi (by omega) this.2
theorem idrop_any (w : World) (b g h : Nat) (F : List (Fr Int)) (hp : iPool w b g F h) (id : Int) :
    Calls Try.prog 54 #[.pointer (some ⟨b, 0, none⟩), .int .i64 id] w fun e w' => e = .returned (.int .i64 (ans F id drpK)) ∧ iPU w w' b g (upd F id (drpU 0)) h := by
  cases hf : find F id with
  | none =>
    rw [upd_miss _ hf, ans_miss _ hf]
    refine (idrop_miss w b g h F hp id hf).mono ?_
    rintro e w' ⟨rfl, rfl⟩
    exact ⟨rfl, ihere hp⟩
  | some i =>
    obtain ⟨f, hi, _, _⟩ := find_get hf
    rw [upd_hit _ hf hi, ans_hit _ hf hi]
    unfold drpU drpK
    by_cases h0 : 0 < f.fixes
    · rw [if_pos h0, if_pos h0, set_same hi]
      refine (idrop_state w b g h F hp id i f hf hi h0).mono ?_
      rintro e w' ⟨rfl, rfl⟩
      exact ⟨rfl, ihere hp⟩
    · rw [if_neg h0, if_neg h0]
      exact idrop_hit w b g h F hp id i f hf hi h0
theorem ivictim_any (w : World) (b g h : Nat) (F : List (Fr Int)) (hp : iPool w b g F h) {K : Int} (hF : Few K F) :
    Calls Try.prog 53 #[.pointer (some ⟨b, 0, none⟩)] w fun e w' => e = .returned (.tuple #[.int .i64 (vic F h).1, .int .i64 (vic F h).2.1]) ∧ iPU w w' b g (vic F h).2.2.1 (vic F h).2.2.2 := by
  unfold vic
  cases ha : F.any cand with
  | false =>
    rw [if_neg (by simp)]
    refine (ivictim_none w b g h F hp ha).mono ?_
    rintro e w' ⟨rfl, rfl⟩
    exact ⟨rfl, ihere hp⟩
  | true =>
    rw [if_pos rfl]
    obtain ⟨⟨id, F', h'⟩, hv⟩ := vict_any hp.hand ha
    rw [hv]
    exact ivictim_some w b g h F hp (fun f hf => (hF f hf).1) ha _ id F' h' hv
theorem iPU.behind {w w1 w2 : World} {b g : Nat} {F : List (Fr Int)} {h : Nat} (he : Ext [b, g] w w1) (hu : iPU w1 w2 b g F h) : iPU w w2 b g F h := ⟨hu.1, he.trans hu.2⟩

set_option maxHeartbeats 1000000 in
theorem ido1 (w : World) (b g h : Nat) (F : List (Fr Int)) (hp : iPool w b g F h) (hF : Few 1000000 F) (id : Int) (x : ByteArray) (n : Int) :
    Calls Try.prog 28 #[.pointer (some ⟨b, 0, none⟩), .agg #[.int .i64 1, .int .i64 id, .string x, .int .u64 n]] w fun e w' => e = .returned (.tuple #[.int .i64 (step 0 (x.size : Int) F h 1 id n).1.1, .int .i64 (step 0 (x.size : Int) F h 1 id n).1.2]) ∧ iPU w w' b g (step 0 (x.size : Int) F h 1 id n).2.1 (step 0 (x.size : Int) F h 1 id n).2.2 := by
  show Calls Try.prog 28 _ w fun e w' => e = .returned (.tuple #[.int .i64 0, .int .i64 0]) ∧ iPU w w' b g (upd F id mrkU) h
  have HP := Lib.hid hp
  have HF := Lib.hid hF
  clear hp hF
  go_enter Try.func28, Try.ntmps28
  go_wp2_with (go_at_call 29; fail)
  refine (iget_any _ b g h F (HP.out.same ((Ext.refl _ _).alloc _)) id).mono ?_
  rintro e w1 ⟨rfl, hu⟩
  have HU := Lib.hid (iPU.behind ((Ext.refl _ _).alloc _) hu)
  clear hu
  go_wp2
  go_ret2
  exact ⟨rfl, HU.out⟩

set_option maxHeartbeats 1000000 in
theorem ido2 (w : World) (b g h : Nat) (F : List (Fr Int)) (hp : iPool w b g F h) (hF : Few 1000000 F) (id : Int) (x : ByteArray) (n : Int) :
    Calls Try.prog 28 #[.pointer (some ⟨b, 0, none⟩), .agg #[.int .i64 2, .int .i64 id, .string x, .int .u64 n]] w fun e w' => e = .returned (.tuple #[.int .i64 (step 0 (x.size : Int) F h 2 id n).1.1, .int .i64 (step 0 (x.size : Int) F h 2 id n).1.2]) ∧ iPU w w' b g (step 0 (x.size : Int) F h 2 id n).2.1 (step 0 (x.size : Int) F h 2 id n).2.2 := by
  show Calls Try.prog 28 _ w fun e w' => e = .returned (.tuple #[.int .i64 0, .int .i64 (putE F id)]) ∧ iPU w w' b g (putL F id (x.size : Int)) h
  have HP := Lib.hid hp
  have HF := Lib.hid hF
  clear hp hF
  go_enter Try.func28, Try.ntmps28
  go_wp2_with (go_at_call 48; fail)
  refine (iput_any _ b g h F (HP.out.same ((Ext.refl _ _).alloc _)) id (x.size : Int)).mono ?_
  rintro e w1 ⟨rfl, hu⟩
  have HU := Lib.hid (iPU.behind ((Ext.refl _ _).alloc _) hu)
  clear hu
  go_wp2
  go_ret2
  exact ⟨rfl, HU.out⟩

set_option maxHeartbeats 1000000 in
theorem ido3 (w : World) (b g h : Nat) (F : List (Fr Int)) (hp : iPool w b g F h) (hF : Few 1000000 F) (id : Int) (x : ByteArray) (n : Int) :
    Calls Try.prog 28 #[.pointer (some ⟨b, 0, none⟩), .agg #[.int .i64 3, .int .i64 id, .string x, .int .u64 n]] w fun e w' => e = .returned (.tuple #[.int .i64 (step 0 (x.size : Int) F h 3 id n).1.1, .int .i64 (step 0 (x.size : Int) F h 3 id n).1.2]) ∧ iPU w w' b g (step 0 (x.size : Int) F h 3 id n).2.1 (step 0 (x.size : Int) F h 3 id n).2.2 := by
  show Calls Try.prog 28 _ w fun e w' => e = .returned (.tuple #[.int .i64 0, .int .i64 (ans F id fun _ => 0)]) ∧ iPU w w' b g (upd F id (setU (x.size : Int) n)) h
  have HP := Lib.hid hp
  have HF := Lib.hid hF
  clear hp hF
  go_enter Try.func28, Try.ntmps28
  go_wp2_with (go_at_call 49; fail)
  refine (iset_any _ b g h F (HP.out.same ((Ext.refl _ _).alloc _)) id (x.size : Int) n).mono ?_
  rintro e w1 ⟨rfl, hu⟩
  have HU := Lib.hid (iPU.behind ((Ext.refl _ _).alloc _) hu)
  clear hu
  go_wp2
  go_ret2
  exact ⟨rfl, HU.out⟩

set_option maxHeartbeats 1000000 in
theorem ido4 (w : World) (b g h : Nat) (F : List (Fr Int)) (hp : iPool w b g F h) (hF : Few 1000000 F) (id : Int) (x : ByteArray) (n : Int) :
    Calls Try.prog 28 #[.pointer (some ⟨b, 0, none⟩), .agg #[.int .i64 4, .int .i64 id, .string x, .int .u64 n]] w fun e w' => e = .returned (.tuple #[.int .i64 (step 0 (x.size : Int) F h 4 id n).1.1, .int .i64 (step 0 (x.size : Int) F h 4 id n).1.2]) ∧ iPU w w' b g (step 0 (x.size : Int) F h 4 id n).2.1 (step 0 (x.size : Int) F h 4 id n).2.2 := by
  show Calls Try.prog 28 _ w fun e w' => e = .returned (.tuple #[.int .i64 0, .int .i64 (ans F id fun _ => 0)]) ∧ iPU w w' b g (upd F id clnU) h
  have HP := Lib.hid hp
  have HF := Lib.hid hF
  clear hp hF
  go_enter Try.func28, Try.ntmps28
  go_wp2_with (go_at_call 50; fail)
  refine (iclean_any _ b g h F (HP.out.same ((Ext.refl _ _).alloc _)) id).mono ?_
  rintro e w1 ⟨rfl, hu⟩
  have HU := Lib.hid (iPU.behind ((Ext.refl _ _).alloc _) hu)
  clear hu
  go_wp2
  go_ret2
  exact ⟨rfl, HU.out⟩

set_option maxHeartbeats 1000000 in
theorem ido5 (w : World) (b g h : Nat) (F : List (Fr Int)) (hp : iPool w b g F h) (hF : Few 1000000 F) (id : Int) (x : ByteArray) (n : Int) :
    Calls Try.prog 28 #[.pointer (some ⟨b, 0, none⟩), .agg #[.int .i64 5, .int .i64 id, .string x, .int .u64 n]] w fun e w' => e = .returned (.tuple #[.int .i64 (step 0 (x.size : Int) F h 5 id n).1.1, .int .i64 (step 0 (x.size : Int) F h 5 id n).1.2]) ∧ iPU w w' b g (step 0 (x.size : Int) F h 5 id n).2.1 (step 0 (x.size : Int) F h 5 id n).2.2 := by
  show Calls Try.prog 28 _ w fun e w' => e = .returned (.tuple #[.int .i64 0, .int .i64 (ans F id fun _ => 0)]) ∧ iPU w w' b g (upd F id fixU) h
  have HP := Lib.hid hp
  have HF := Lib.hid hF
  clear hp hF
  go_enter Try.func28, Try.ntmps28
  go_wp2_with (go_at_call 51; fail)
  refine (ifix_any _ b g h F (HP.out.same ((Ext.refl _ _).alloc _)) HF.out id).mono ?_
  rintro e w1 ⟨rfl, hu⟩
  have HU := Lib.hid (iPU.behind ((Ext.refl _ _).alloc _) hu)
  clear hu
  go_wp2
  go_ret2
  exact ⟨rfl, HU.out⟩

set_option maxHeartbeats 1000000 in
theorem ido6 (w : World) (b g h : Nat) (F : List (Fr Int)) (hp : iPool w b g F h) (hF : Few 1000000 F) (id : Int) (x : ByteArray) (n : Int) :
    Calls Try.prog 28 #[.pointer (some ⟨b, 0, none⟩), .agg #[.int .i64 6, .int .i64 id, .string x, .int .u64 n]] w fun e w' => e = .returned (.tuple #[.int .i64 (step 0 (x.size : Int) F h 6 id n).1.1, .int .i64 (step 0 (x.size : Int) F h 6 id n).1.2]) ∧ iPU w w' b g (step 0 (x.size : Int) F h 6 id n).2.1 (step 0 (x.size : Int) F h 6 id n).2.2 := by
  show Calls Try.prog 28 _ w fun e w' => e = .returned (.tuple #[.int .i64 0, .int .i64 (ans F id unfK)]) ∧ iPU w w' b g (upd F id unfU) h
  have HP := Lib.hid hp
  have HF := Lib.hid hF
  clear hp hF
  go_enter Try.func28, Try.ntmps28
  go_wp2_with (go_at_call 52; fail)
  refine (iunfix_any _ b g h F (HP.out.same ((Ext.refl _ _).alloc _)) HF.out id).mono ?_
  rintro e w1 ⟨rfl, hu⟩
  have HU := Lib.hid (iPU.behind ((Ext.refl _ _).alloc _) hu)
  clear hu
  go_wp2
  go_ret2
  exact ⟨rfl, HU.out⟩

set_option maxHeartbeats 1000000 in
theorem ido7 (w : World) (b g h : Nat) (F : List (Fr Int)) (hp : iPool w b g F h) (hF : Few 1000000 F) (id : Int) (x : ByteArray) (n : Int) :
    Calls Try.prog 28 #[.pointer (some ⟨b, 0, none⟩), .agg #[.int .i64 7, .int .i64 id, .string x, .int .u64 n]] w fun e w' => e = .returned (.tuple #[.int .i64 (step 0 (x.size : Int) F h 7 id n).1.1, .int .i64 (step 0 (x.size : Int) F h 7 id n).1.2]) ∧ iPU w w' b g (step 0 (x.size : Int) F h 7 id n).2.1 (step 0 (x.size : Int) F h 7 id n).2.2 := by
  show Calls Try.prog 28 _ w fun e w' => e = .returned (.tuple #[.int .i64 (vic F h).1, .int .i64 (vic F h).2.1]) ∧ iPU w w' b g (vic F h).2.2.1 (vic F h).2.2.2
  have HP := Lib.hid hp
  have HF := Lib.hid hF
  clear hp hF
  go_enter Try.func28, Try.ntmps28
  go_wp2_with (go_at_call 53; fail)
  refine (ivictim_any _ b g h F (HP.out.same ((Ext.refl _ _).alloc _)) HF.out).mono ?_
  rintro e w1 ⟨rfl, hu⟩
  have HU := Lib.hid (iPU.behind ((Ext.refl _ _).alloc _) hu)
  clear hu
  go_wp2
  go_ret2
  exact ⟨rfl, HU.out⟩

set_option maxHeartbeats 1000000 in
theorem ido8 (w : World) (b g h : Nat) (F : List (Fr Int)) (hp : iPool w b g F h) (hF : Few 1000000 F) (id : Int) (x : ByteArray) (n : Int) :
    Calls Try.prog 28 #[.pointer (some ⟨b, 0, none⟩), .agg #[.int .i64 8, .int .i64 id, .string x, .int .u64 n]] w fun e w' => e = .returned (.tuple #[.int .i64 (step 0 (x.size : Int) F h 8 id n).1.1, .int .i64 (step 0 (x.size : Int) F h 8 id n).1.2]) ∧ iPU w w' b g (step 0 (x.size : Int) F h 8 id n).2.1 (step 0 (x.size : Int) F h 8 id n).2.2 := by
  show Calls Try.prog 28 _ w fun e w' => e = .returned (.tuple #[.int .i64 0, .int .i64 (ans F id drpK)]) ∧ iPU w w' b g (upd F id (drpU 0)) h
  have HP := Lib.hid hp
  have HF := Lib.hid hF
  clear hp hF
  go_enter Try.func28, Try.ntmps28
  go_wp2_with (go_at_call 54; fail)
  refine (idrop_any _ b g h F (HP.out.same ((Ext.refl _ _).alloc _)) id).mono ?_
  rintro e w1 ⟨rfl, hu⟩
  have HU := Lib.hid (iPU.behind ((Ext.refl _ _).alloc _) hu)
  clear hu
  go_wp2
  go_ret2
  exact ⟨rfl, HU.out⟩

set_option maxHeartbeats 1000000 in
theorem ido_else (w : World) (b g h : Nat) (F : List (Fr Int)) (hp : iPool w b g F h) (k id : Int) (x : ByteArray) (n : Int) (h1 : ¬ k = 1) (h2 : ¬ k = 2) (h3 : ¬ k = 3) (h4 : ¬ k = 4) (h5 : ¬ k = 5) (h6 : ¬ k = 6) (h7 : ¬ k = 7) (h8 : ¬ k = 8) :
    Calls Try.prog 28 #[.pointer (some ⟨b, 0, none⟩), .agg #[.int .i64 k, .int .i64 id, .string x, .int .u64 n]] w fun e w' => e = .returned (.tuple #[.int .i64 0, .int .i64 0]) ∧ iPU w w' b g F h := by
  have HP := Lib.hid hp
  clear hp
  go_enter Try.func28, Try.ntmps28
  go_wp2
  go_ret2
  exact ⟨rfl, HP.out.same ((Ext.refl _ _).alloc _), (Ext.refl _ _).alloc _⟩

/-- A call of a script, whatever it is. -/
theorem ido_any (w : World) (b g h : Nat) (F : List (Fr Int)) (hp : iPool w b g F h) (hF : Few 1000000 F) (k id : Int) (x : ByteArray) (n : Int) :
    Calls Try.prog 28 #[.pointer (some ⟨b, 0, none⟩), .agg #[.int .i64 k, .int .i64 id, .string x, .int .u64 n]] w fun e w' => e = .returned (.tuple #[.int .i64 (step 0 (x.size : Int) F h k id n).1.1, .int .i64 (step 0 (x.size : Int) F h k id n).1.2]) ∧ iPU w w' b g (step 0 (x.size : Int) F h k id n).2.1 (step 0 (x.size : Int) F h k id n).2.2 := by
  by_cases h1 : k = 1
  · subst h1; exact ido1 w b g h F hp hF id x n
  by_cases h2 : k = 2
  · subst h2; exact ido2 w b g h F hp hF id x n
  by_cases h3 : k = 3
  · subst h3; exact ido3 w b g h F hp hF id x n
  by_cases h4 : k = 4
  · subst h4; exact ido4 w b g h F hp hF id x n
  by_cases h5 : k = 5
  · subst h5; exact ido5 w b g h F hp hF id x n
  by_cases h6 : k = 6
  · subst h6; exact ido6 w b g h F hp hF id x n
  by_cases h7 : k = 7
  · subst h7; exact ido7 w b g h F hp hF id x n
  by_cases h8 : k = 8
  · subst h8; exact ido8 w b g h F hp hF id x n
  unfold step
  rw [if_neg h1, if_neg h2, if_neg h3, if_neg h4, if_neg h5, if_neg h6, if_neg h7, if_neg h8]
  exact ido_else w b g h F hp k id x n h1 h2 h3 h4 h5 h6 h7 h8

end Go.Proofs.Ytkdmilchklmefaa
