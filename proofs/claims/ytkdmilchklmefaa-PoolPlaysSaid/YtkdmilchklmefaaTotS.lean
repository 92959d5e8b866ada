/- What each call answers, whatever the frames. -/
import Derived.Test.YtkdmilchklmefaaStep
import Derived.Test.YtkdmilchklmefaaVicS
import Derived.Test.YtkdmilchklmefaaDirtS
namespace Go.Proofs.Ytkdmilchklmefaa
open Go.RowKit
set_option linter.unusedVariables false
set_option linter.unusedSimpArgs false


abbrev sPU (w w' : World) (b g : Nat) (F' : List (Fr ByteArray)) (h' : Nat) : Prop := PU Value.string 66 71 w w' b g F' h'
theorem shere {w : World} {b g h : Nat} {F : List (Fr ByteArray)} (hp : sPool w b g F h) : sPU w w b g F h := ⟨hp, Ext.refl _ _⟩
theorem sget_any (w : World) (b g h : Nat) (F : List (Fr ByteArray)) (hp : sPool w b g F h) (id : Int) :
    Calls Try.prog 21 #[.pointer (some ⟨b, 0, none⟩), .int .i64 id] w fun e w' => e = .returned (.tuple #[Value.string (xOf ByteArray.empty F id), .bool (find F id).isSome]) ∧ sPU w w' b g (upd F id mrkU) h := by
  cases hf : find F id with
  | none =>
    rw [upd_miss _ hf, show xOf ByteArray.empty F id = ByteArray.empty by unfold xOf; rw [frOf_miss hf]]
    refine (sget_miss w b g h F hp id hf).mono ?_
    rintro e w' ⟨rfl, rfl⟩
    exact ⟨rfl, shere hp⟩
  | some i =>
    obtain ⟨f, hi, _, _⟩ := find_get hf
    rw [upd_hit _ hf hi, show xOf ByteArray.empty F id = f.x by unfold xOf; rw [frOf_hit hf hi]]
    exact sget_hit w b g h F hp id i f hf hi
theorem sput_any (w : World) (b g h : Nat) (F : List (Fr ByteArray)) (hp : sPool w b g F h) (id : Int) (x : ByteArray) :
    Calls Try.prog 11 #[.pointer (some ⟨b, 0, none⟩), .int .i64 id, Value.string x] w fun e w' => e = .returned (.int .i64 (putE F id)) ∧ sPU w w' b g (putL F id x) h := by
  unfold putE putL
  by_cases hid : 0 ≤ id ∧ id < 32
  · rw [if_pos hid, if_pos hid]
    cases hf : find F id with
    | some i =>
      refine (sput_exists w b g h F hp id x hid.1 hid.2 i hf).mono ?_
      rintro e w' ⟨rfl, rfl⟩
      exact ⟨rfl, shere hp⟩
    | none =>
      cases he : empty F with
      | none =>
        refine (sput_full w b g h F hp id x hid.1 hid.2 hf he).mono ?_
        rintro e w' ⟨rfl, rfl⟩
        exact ⟨rfl, shere hp⟩
      | some i => exact sput_first w b g h F hp id x hid.1 hid.2 hf i he
  · rw [if_neg hid, if_neg hid]
    refine (sput_bad _ w id x hid).mono ?_
    rintro e w' ⟨rfl, rfl⟩
    exact ⟨rfl, shere hp⟩
theorem sset_any (w : World) (b g h : Nat) (F : List (Fr ByteArray)) (hp : sPool w b g F h) (id : Int) (x : ByteArray) (r : Int) :
    Calls Try.prog 13 #[.pointer (some ⟨b, 0, none⟩), .int .i64 id, Value.string x, .int .u64 r] w fun e w' => e = .returned (.int .i64 (ans F id fun _ => 0)) ∧ sPU w w' b g (upd F id (setU x r)) h := by
  cases hf : find F id with
  | none =>
    rw [upd_miss _ hf, ans_miss _ hf]
    refine (sset_miss w b g h F hp id x r hf).mono ?_
    rintro e w' ⟨rfl, rfl⟩
    exact ⟨rfl, shere hp⟩
  | some i =>
    obtain ⟨f, hi, _, _⟩ := find_get hf
    rw [upd_hit _ hf hi, ans_hit _ hf hi]
    unfold setU
    cases hr : (r != 0) with
    | false =>
      rw [if_neg (by simp)]
      exact sset_more w b g h F hp id x r i f hf hi (.inl hr)
    | true =>
      by_cases hd : f.dirty = true
      · rw [if_neg (by simp [hd])]
        exact sset_more w b g h F hp id x r i f hf hi (.inr ⟨hr, hd⟩)
      · rw [if_pos (by simp [hd])]
        exact sset_first w b g h F hp id x r i f hf hi hr (by simpa using hd)
theorem sclean_any (w : World) (b g h : Nat) (F : List (Fr ByteArray)) (hp : sPool w b g F h) (id : Int) :
    Calls Try.prog 12 #[.pointer (some ⟨b, 0, none⟩), .int .i64 id] w fun e w' => e = .returned (.int .i64 (ans F id fun _ => 0)) ∧ sPU w w' b g (upd F id clnU) h := by
  cases hf : find F id with
  | none =>
    rw [upd_miss _ hf, ans_miss _ hf]
    refine (sclean_miss w b g h F hp id hf).mono ?_
    rintro e w' ⟨rfl, rfl⟩
    exact ⟨rfl, shere hp⟩
  | some i =>
    obtain ⟨f, hi, _, _⟩ := find_get hf
    rw [upd_hit _ hf hi, ans_hit _ hf hi]
    exact sclean_hit w b g h F hp id i f hf hi
theorem sfix_any (w : World) (b g h : Nat) (F : List (Fr ByteArray)) (hp : sPool w b g F h) (hF : Few 1000000 F) (id : Int) :
    Calls Try.prog 34 #[.pointer (some ⟨b, 0, none⟩), .int .i64 id] w fun e w' => e = .returned (.int .i64 (ans F id fun _ => 0)) ∧ sPU w w' b g (upd F id fixU) h := by
  cases hf : find F id with
  | none =>
    rw [upd_miss _ hf, ans_miss _ hf]
    refine (sfix_miss w b g h F hp id hf).mono ?_
    rintro e w' ⟨rfl, rfl⟩
    exact ⟨rfl, shere hp⟩
  | some i =>
    obtain ⟨f, hi, _, _⟩ := find_get hf
    have := hF f (List.mem_of_getElem? hi)
    rw [upd_hit _ hf hi, ans_hit _ hf hi]
    exact sfix_hit w b g h F hp id i f hf hi this.1 this.2
theorem sunfix_any (w : World) (b g h : Nat) (F : List (Fr ByteArray)) (hp : sPool w b g F h) (hF : Few 1000000 F) (id : Int) :
    Calls Try.prog 18 #[.pointer (some ⟨b, 0, none⟩), .int .i64 id] w fun e w' => e = .returned (.int .i64 (ans F id unfK)) ∧ sPU w w' b g (upd F id unfU) h := by
  cases hf : find F id with
  | none =>
    rw [upd_miss _ hf, ans_miss _ hf]
    refine (sunfix_miss w b g h F hp id hf).mono ?_
    rintro e w' ⟨rfl, rfl⟩
    exact ⟨rfl, shere hp⟩
  | some i =>
    obtain ⟨f, hi, _, _⟩ := find_get hf
    have := hF f (List.mem_of_getElem? hi)
    rw [upd_hit _ hf hi, ans_hit _ hf hi]
    unfold unfU unfK
    by_cases h0 : f.fixes = 0
    · rw [if_pos h0, if_pos h0, set_same hi]
      refine (sunfix_state w b g h F hp id i f hf hi h0).mono ?_
      rintro e w' ⟨rfl, rfl⟩
      exact ⟨rfl, shere hp⟩
    · rw [if_neg h0, if_neg h0]
      exact sunfix_hit w b g h F hp id i f hf hi (by omega) this.2
theorem sdrop_any (w : World) (b g h : Nat) (F : List (Fr ByteArray)) (hp : sPool w b g F h) (id : Int) :
    Calls Try.prog 19 #[.pointer (some ⟨b, 0, none⟩), .int .i64 id] w fun e w' => e = .returned (.int .i64 (ans F id drpK)) ∧ sPU w w' b g (upd F id (drpU ByteArray.empty)) h := by
  cases hf : find F id with
  | none =>
    rw [upd_miss _ hf, ans_miss _ hf]
    refine (sdrop_miss w b g h F hp id hf).mono ?_
    rintro e w' ⟨rfl, rfl⟩
    exact ⟨rfl, shere hp⟩
  | some i =>
    obtain ⟨f, hi, _, _⟩ := find_get hf
    rw [upd_hit _ hf hi, ans_hit _ hf hi]
    unfold drpU drpK
    by_cases h0 : 0 < f.fixes
    · rw [if_pos h0, if_pos h0, set_same hi]
      refine (sdrop_state w b g h F hp id i f hf hi h0).mono ?_
      rintro e w' ⟨rfl, rfl⟩
      exact ⟨rfl, shere hp⟩
    · rw [if_neg h0, if_neg h0]
      exact sdrop_hit w b g h F hp id i f hf hi h0
theorem svictim_any (w : World) (b g h : Nat) (F : List (Fr ByteArray)) (hp : sPool w b g F h) {K : Int} (hF : Few K F) :
    Calls Try.prog 17 #[.pointer (some ⟨b, 0, none⟩)] w fun e w' => e = .returned (.tuple #[.int .i64 (vic F h).1, .int .i64 (vic F h).2.1]) ∧ sPU w w' b g (vic F h).2.2.1 (vic F h).2.2.2 := by
  unfold vic
  cases ha : F.any cand with
  | false =>
    rw [if_neg (by simp)]
    refine (svictim_none w b g h F hp ha).mono ?_
    rintro e w' ⟨rfl, rfl⟩
    exact ⟨rfl, shere hp⟩
  | true =>
    rw [if_pos rfl]
    obtain ⟨⟨id, F', h'⟩, hv⟩ := vict_any hp.hand ha
    rw [hv]
    exact svictim_some w b g h F hp (fun f hf => (hF f hf).1) ha _ id F' h' hv
theorem sPU.behind {w w1 w2 : World} {b g : Nat} {F : List (Fr ByteArray)} {h : Nat} (he : Ext [b, g] w w1) (hu : sPU w1 w2 b g F h) : sPU w w2 b g F h := ⟨hu.1, he.trans hu.2⟩

set_option maxHeartbeats 1000000 in
theorem sdo1 (w : World) (b g h : Nat) (F : List (Fr ByteArray)) (hp : sPool w b g F h) (hF : Few 1000000 F) (id : Int) (x : ByteArray) (n : Int) :
    Calls Try.prog 27 #[.pointer (some ⟨b, 0, none⟩), .agg #[.int .i64 1, .int .i64 id, .string x, .int .u64 n]] w fun e w' => e = .returned (.tuple #[.int .i64 (step ByteArray.empty x F h 1 id n).1.1, .int .i64 (step ByteArray.empty x F h 1 id n).1.2]) ∧ sPU w w' b g (step ByteArray.empty x F h 1 id n).2.1 (step ByteArray.empty x F h 1 id n).2.2 := by
  show Calls Try.prog 27 _ w fun e w' => e = .returned (.tuple #[.int .i64 0, .int .i64 0]) ∧ sPU w w' b g (upd F id mrkU) h
  have HP := Lib.hid hp
  have HF := Lib.hid hF
  clear hp hF
  go_enter Try.func27, Try.ntmps27
  go_wp2_with (go_at_call 21; fail)
  refine (sget_any _ b g h F (HP.out.same ((Ext.refl _ _).alloc _)) id).mono ?_
  rintro e w1 ⟨rfl, hu⟩
  have HU := Lib.hid (sPU.behind ((Ext.refl _ _).alloc _) hu)
  clear hu
  go_wp2
  go_ret2
  exact ⟨rfl, HU.out⟩

set_option maxHeartbeats 1000000 in
theorem sdo2 (w : World) (b g h : Nat) (F : List (Fr ByteArray)) (hp : sPool w b g F h) (hF : Few 1000000 F) (id : Int) (x : ByteArray) (n : Int) :
    Calls Try.prog 27 #[.pointer (some ⟨b, 0, none⟩), .agg #[.int .i64 2, .int .i64 id, .string x, .int .u64 n]] w fun e w' => e = .returned (.tuple #[.int .i64 (step ByteArray.empty x F h 2 id n).1.1, .int .i64 (step ByteArray.empty x F h 2 id n).1.2]) ∧ sPU w w' b g (step ByteArray.empty x F h 2 id n).2.1 (step ByteArray.empty x F h 2 id n).2.2 := by
  show Calls Try.prog 27 _ w fun e w' => e = .returned (.tuple #[.int .i64 0, .int .i64 (putE F id)]) ∧ sPU w w' b g (putL F id x) h
  have HP := Lib.hid hp
  have HF := Lib.hid hF
  clear hp hF
  go_enter Try.func27, Try.ntmps27
  go_wp2_with (go_at_call 11; fail)
  refine (sput_any _ b g h F (HP.out.same ((Ext.refl _ _).alloc _)) id x).mono ?_
  rintro e w1 ⟨rfl, hu⟩
  have HU := Lib.hid (sPU.behind ((Ext.refl _ _).alloc _) hu)
  clear hu
  go_wp2
  go_ret2
  exact ⟨rfl, HU.out⟩

set_option maxHeartbeats 1000000 in
theorem sdo3 (w : World) (b g h : Nat) (F : List (Fr ByteArray)) (hp : sPool w b g F h) (hF : Few 1000000 F) (id : Int) (x : ByteArray) (n : Int) :
    Calls Try.prog 27 #[.pointer (some ⟨b, 0, none⟩), .agg #[.int .i64 3, .int .i64 id, .string x, .int .u64 n]] w fun e w' => e = .returned (.tuple #[.int .i64 (step ByteArray.empty x F h 3 id n).1.1, .int .i64 (step ByteArray.empty x F h 3 id n).1.2]) ∧ sPU w w' b g (step ByteArray.empty x F h 3 id n).2.1 (step ByteArray.empty x F h 3 id n).2.2 := by
  show Calls Try.prog 27 _ w fun e w' => e = .returned (.tuple #[.int .i64 0, .int .i64 (ans F id fun _ => 0)]) ∧ sPU w w' b g (upd F id (setU x n)) h
  have HP := Lib.hid hp
  have HF := Lib.hid hF
  clear hp hF
  go_enter Try.func27, Try.ntmps27
  go_wp2_with (go_at_call 13; fail)
  refine (sset_any _ b g h F (HP.out.same ((Ext.refl _ _).alloc _)) id x n).mono ?_
  rintro e w1 ⟨rfl, hu⟩
  have HU := Lib.hid (sPU.behind ((Ext.refl _ _).alloc _) hu)
  clear hu
  go_wp2
  go_ret2
  exact ⟨rfl, HU.out⟩

set_option maxHeartbeats 1000000 in
theorem sdo4 (w : World) (b g h : Nat) (F : List (Fr ByteArray)) (hp : sPool w b g F h) (hF : Few 1000000 F) (id : Int) (x : ByteArray) (n : Int) :
    Calls Try.prog 27 #[.pointer (some ⟨b, 0, none⟩), .agg #[.int .i64 4, .int .i64 id, .string x, .int .u64 n]] w fun e w' => e = .returned (.tuple #[.int .i64 (step ByteArray.empty x F h 4 id n).1.1, .int .i64 (step ByteArray.empty x F h 4 id n).1.2]) ∧ sPU w w' b g (step ByteArray.empty x F h 4 id n).2.1 (step ByteArray.empty x F h 4 id n).2.2 := by
  show Calls Try.prog 27 _ w fun e w' => e = .returned (.tuple #[.int .i64 0, .int .i64 (ans F id fun _ => 0)]) ∧ sPU w w' b g (upd F id clnU) h
  have HP := Lib.hid hp
  have HF := Lib.hid hF
  clear hp hF
  go_enter Try.func27, Try.ntmps27
  go_wp2_with (go_at_call 12; fail)
  refine (sclean_any _ b g h F (HP.out.same ((Ext.refl _ _).alloc _)) id).mono ?_
  rintro e w1 ⟨rfl, hu⟩
  have HU := Lib.hid (sPU.behind ((Ext.refl _ _).alloc _) hu)
  clear hu
  go_wp2
  go_ret2
  exact ⟨rfl, HU.out⟩

set_option maxHeartbeats 1000000 in
theorem sdo5 (w : World) (b g h : Nat) (F : List (Fr ByteArray)) (hp : sPool w b g F h) (hF : Few 1000000 F) (id : Int) (x : ByteArray) (n : Int) :
    Calls Try.prog 27 #[.pointer (some ⟨b, 0, none⟩), .agg #[.int .i64 5, .int .i64 id, .string x, .int .u64 n]] w fun e w' => e = .returned (.tuple #[.int .i64 (step ByteArray.empty x F h 5 id n).1.1, .int .i64 (step ByteArray.empty x F h 5 id n).1.2]) ∧ sPU w w' b g (step ByteArray.empty x F h 5 id n).2.1 (step ByteArray.empty x F h 5 id n).2.2 := by
  show Calls Try.prog 27 _ w fun e w' => e = .returned (.tuple #[.int .i64 0, .int .i64 (ans F id fun _ => 0)]) ∧ sPU w w' b g (upd F id fixU) h
  have HP := Lib.hid hp
  have HF := Lib.hid hF
  clear hp hF
  go_enter Try.func27, Try.ntmps27
  go_wp2_with (go_at_call 34; fail)
  refine (sfix_any _ b g h F (HP.out.same ((Ext.refl _ _).alloc _)) HF.out id).mono ?_
  rintro e w1 ⟨rfl, hu⟩
  have HU := Lib.hid (sPU.behind ((Ext.refl _ _).alloc _) hu)
  clear hu
  go_wp2
  go_ret2
  exact ⟨rfl, HU.out⟩

set_option maxHeartbeats 1000000 in
theorem sdo6 (w : World) (b g h : Nat) (F : List (Fr ByteArray)) (hp : sPool w b g F h) (hF : Few 1000000 F) (id : Int) (x : ByteArray) (n : Int) :
    Calls Try.prog 27 #[.pointer (some ⟨b, 0, none⟩), .agg #[.int .i64 6, .int .i64 id, .string x, .int .u64 n]] w fun e w' => e = .returned (.tuple #[.int .i64 (step ByteArray.empty x F h 6 id n).1.1, .int .i64 (step ByteArray.empty x F h 6 id n).1.2]) ∧ sPU w w' b g (step ByteArray.empty x F h 6 id n).2.1 (step ByteArray.empty x F h 6 id n).2.2 := by
  show Calls Try.prog 27 _ w fun e w' => e = .returned (.tuple #[.int .i64 0, .int .i64 (ans F id unfK)]) ∧ sPU w w' b g (upd F id unfU) h
  have HP := Lib.hid hp
  have HF := Lib.hid hF
  clear hp hF
  go_enter Try.func27, Try.ntmps27
  go_wp2_with (go_at_call 18; fail)
  refine (sunfix_any _ b g h F (HP.out.same ((Ext.refl _ _).alloc _)) HF.out id).mono ?_
  rintro e w1 ⟨rfl, hu⟩
  have HU := Lib.hid (sPU.behind ((Ext.refl _ _).alloc _) hu)
  clear hu
  go_wp2
  go_ret2
  exact ⟨rfl, HU.out⟩

set_option maxHeartbeats 1000000 in
theorem sdo7 (w : World) (b g h : Nat) (F : List (Fr ByteArray)) (hp : sPool w b g F h) (hF : Few 1000000 F) (id : Int) (x : ByteArray) (n : Int) :
    Calls Try.prog 27 #[.pointer (some ⟨b, 0, none⟩), .agg #[.int .i64 7, .int .i64 id, .string x, .int .u64 n]] w fun e w' => e = .returned (.tuple #[.int .i64 (step ByteArray.empty x F h 7 id n).1.1, .int .i64 (step ByteArray.empty x F h 7 id n).1.2]) ∧ sPU w w' b g (step ByteArray.empty x F h 7 id n).2.1 (step ByteArray.empty x F h 7 id n).2.2 := by
  show Calls Try.prog 27 _ w fun e w' => e = .returned (.tuple #[.int .i64 (vic F h).1, .int .i64 (vic F h).2.1]) ∧ sPU w w' b g (vic F h).2.2.1 (vic F h).2.2.2
  have HP := Lib.hid hp
  have HF := Lib.hid hF
  clear hp hF
  go_enter Try.func27, Try.ntmps27
  go_wp2_with (go_at_call 17; fail)
  refine (svictim_any _ b g h F (HP.out.same ((Ext.refl _ _).alloc _)) HF.out).mono ?_
  rintro e w1 ⟨rfl, hu⟩
  have HU := Lib.hid (sPU.behind ((Ext.refl _ _).alloc _) hu)
  clear hu
  go_wp2
  go_ret2
  exact ⟨rfl, HU.out⟩

set_option maxHeartbeats 1000000 in
theorem sdo8 (w : World) (b g h : Nat) (F : List (Fr ByteArray)) (hp : sPool w b g F h) (hF : Few 1000000 F) (id : Int) (x : ByteArray) (n : Int) :
    Calls Try.prog 27 #[.pointer (some ⟨b, 0, none⟩), .agg #[.int .i64 8, .int .i64 id, .string x, .int .u64 n]] w fun e w' => e = .returned (.tuple #[.int .i64 (step ByteArray.empty x F h 8 id n).1.1, .int .i64 (step ByteArray.empty x F h 8 id n).1.2]) ∧ sPU w w' b g (step ByteArray.empty x F h 8 id n).2.1 (step ByteArray.empty x F h 8 id n).2.2 := by
  show Calls Try.prog 27 _ w fun e w' => e = .returned (.tuple #[.int .i64 0, .int .i64 (ans F id drpK)]) ∧ sPU w w' b g (upd F id (drpU ByteArray.empty)) h
  have HP := Lib.hid hp
  have HF := Lib.hid hF
  clear hp hF
  go_enter Try.func27, Try.ntmps27
  go_wp2_with (go_at_call 19; fail)
  refine (sdrop_any _ b g h F (HP.out.same ((Ext.refl _ _).alloc _)) id).mono ?_
  rintro e w1 ⟨rfl, hu⟩
  have HU := Lib.hid (sPU.behind ((Ext.refl _ _).alloc _) hu)
  clear hu
  go_wp2
  go_ret2
  exact ⟨rfl, HU.out⟩

set_option maxHeartbeats 1000000 in
theorem sdo_else (w : World) (b g h : Nat) (F : List (Fr ByteArray)) (hp : sPool w b g F h) (k id : Int) (x : ByteArray) (n : Int) (h1 : ¬ k = 1) (h2 : ¬ k = 2) (h3 : ¬ k = 3) (h4 : ¬ k = 4) (h5 : ¬ k = 5) (h6 : ¬ k = 6) (h7 : ¬ k = 7) (h8 : ¬ k = 8) :
    Calls Try.prog 27 #[.pointer (some ⟨b, 0, none⟩), .agg #[.int .i64 k, .int .i64 id, .string x, .int .u64 n]] w fun e w' => e = .returned (.tuple #[.int .i64 0, .int .i64 0]) ∧ sPU w w' b g F h := by
  have HP := Lib.hid hp
  clear hp
  go_enter Try.func27, Try.ntmps27
  go_wp2
  go_ret2
  exact ⟨rfl, HP.out.same ((Ext.refl _ _).alloc _), (Ext.refl _ _).alloc _⟩

/-- A call of a script, whatever it is. -/
theorem sdo_any (w : World) (b g h : Nat) (F : List (Fr ByteArray)) (hp : sPool w b g F h) (hF : Few 1000000 F) (k id : Int) (x : ByteArray) (n : Int) :
    Calls Try.prog 27 #[.pointer (some ⟨b, 0, none⟩), .agg #[.int .i64 k, .int .i64 id, .string x, .int .u64 n]] w fun e w' => e = .returned (.tuple #[.int .i64 (step ByteArray.empty x F h k id n).1.1, .int .i64 (step ByteArray.empty x F h k id n).1.2]) ∧ sPU w w' b g (step ByteArray.empty x F h k id n).2.1 (step ByteArray.empty x F h k id n).2.2 := by
  by_cases h1 : k = 1
  · subst h1; exact sdo1 w b g h F hp hF id x n
  by_cases h2 : k = 2
  · subst h2; exact sdo2 w b g h F hp hF id x n
  by_cases h3 : k = 3
  · subst h3; exact sdo3 w b g h F hp hF id x n
  by_cases h4 : k = 4
  · subst h4; exact sdo4 w b g h F hp hF id x n
  by_cases h5 : k = 5
  · subst h5; exact sdo5 w b g h F hp hF id x n
  by_cases h6 : k = 6
  · subst h6; exact sdo6 w b g h F hp hF id x n
  by_cases h7 : k = 7
  · subst h7; exact sdo7 w b g h F hp hF id x n
  by_cases h8 : k = 8
  · subst h8; exact sdo8 w b g h F hp hF id x n
  unfold step
  rw [if_neg h1, if_neg h2, if_neg h3, if_neg h4, if_neg h5, if_neg h6, if_neg h7, if_neg h8]
  exact sdo_else w b g h F hp k id x n h1 h2 h3 h4 h5 h6 h7 h8

end Go.Proofs.Ytkdmilchklmefaa
