/- What the pool's calls of one page answer, and make of the frames. -/
import Derived.Test.YtkdmilchklmefaaFindS
namespace Go.Proofs.Ytkdmilchklmefaa
open Go.RowKit
set_option linter.unusedVariables false
set_option linter.unusedSimpArgs false

set_option maxHeartbeats 1000000 in
theorem sget_hit (w : World) (b g h : Nat) (F : List (Fr ByteArray)) (hp : sPool w b g F h) (id : Int) (i : Nat) (f : Fr ByteArray) (hf : find F id = some i) (hi : F[i]? = some f) :
    Calls Try.prog 21 #[.pointer (some ⟨b, 0, none⟩), .int .i64 id] w fun e w' => e = .returned (.tuple #[Value.string f.x, .bool true]) ∧ PU Value.string 66 71 w w' b g (F.set i { f with mark := true }) h := by
  obtain ⟨k0, k1, k2, k3, k4, k5, k6⟩ := hp.cells hi
  have f2 := hp.free (i * 7 + 2)
  have f3 := hp.free (i * 7 + 3)
  have f4 := hp.free (i * 7 + 4)
  have f5 := hp.free (i * 7 + 5)
  have f6 := hp.free (i * 7 + 6)
  have f1 := hp.free (i * 7 + 1)
  have f0 := hp.free (i * 7)
  have HP := Lib.hid hp
  have HI := Lib.hid hf
  have HF := Lib.hid hi
  clear hp hf hi
  go_enter Try.func21, Try.ntmps21
  go_wp2_with (go_at_call 36; refine (sfind_hit _ b g h F HP.out id i HI.out).mono ?_; rintro e w' ⟨rfl, rfl⟩)
  go_ret2
  exact ⟨rfl, HP.out.set HF.out (by omega) rfl, (Ext.refl _ _).setCell (.inl (by simp)) _⟩

set_option maxHeartbeats 1000000 in
theorem sget_miss (w : World) (b g h : Nat) (F : List (Fr ByteArray)) (hp : sPool w b g F h) (id : Int) (hf : find F id = none) :
    Calls Try.prog 21 #[.pointer (some ⟨b, 0, none⟩), .int .i64 id] w fun e w' => e = .returned (.tuple #[.string ByteArray.empty, .bool false]) ∧ w = w' := by
  have HP := Lib.hid hp
  have HI := Lib.hid hf
  clear hp hf
  go_enter Try.func21, Try.ntmps21
  go_wp2_with (go_at_call 36; refine (sfind_miss _ b g h F HP.out id HI.out).mono ?_; rintro e w' ⟨rfl, rfl⟩)
  go_ret2
  exact ⟨rfl, rfl⟩

set_option maxHeartbeats 1000000 in
theorem sset_miss (w : World) (b g h : Nat) (F : List (Fr ByteArray)) (hp : sPool w b g F h) (id : Int) (x : ByteArray) (r : Int) (hf : find F id = none) :
    Calls Try.prog 13 #[.pointer (some ⟨b, 0, none⟩), .int .i64 id, Value.string x, .int .u64 r] w fun e w' => e = .returned (.int .i64 5) ∧ w = w' := by
  have HP := Lib.hid hp
  have HI := Lib.hid hf
  clear hp hf
  go_enter Try.func13, Try.ntmps13
  go_wp2_with (go_at_call 36; refine (sfind_miss _ b g h F HP.out id HI.out).mono ?_; rintro e w' ⟨rfl, rfl⟩)
  go_ret
  exact ⟨rfl, rfl⟩

set_option maxHeartbeats 1000000 in
theorem sset_first (w : World) (b g h : Nat) (F : List (Fr ByteArray)) (hp : sPool w b g F h) (id : Int) (x : ByteArray) (r : Int) (i : Nat) (f : Fr ByteArray) (hf : find F id = some i) (hi : F[i]? = some f) (hr : (r != 0) = true) (hd : f.dirty = false) :
    Calls Try.prog 13 #[.pointer (some ⟨b, 0, none⟩), .int .i64 id, Value.string x, .int .u64 r] w fun e w' => e = .returned (.int .i64 0) ∧ PU Value.string 66 71 w w' b g (F.set i { f with x := x, dirty := true, rc := r }) h := by
  obtain ⟨k0, k1, k2, k3, k4, k5, k6⟩ := hp.cells hi
  have f2 := hp.free (i * 7 + 2)
  have f3 := hp.free (i * 7 + 3)
  have f4 := hp.free (i * 7 + 4)
  have f5 := hp.free (i * 7 + 5)
  have f6 := hp.free (i * 7 + 6)
  have f1 := hp.free (i * 7 + 1)
  have f0 := hp.free (i * 7)
  have HP := Lib.hid hp
  have HI := Lib.hid hf
  have HF := Lib.hid hi
  clear hp hf hi
  rw [hd] at k5
  have HD := Lib.hid hd
  clear hd
  go_enter Try.func13, Try.ntmps13
  go_wp2_with (go_at_call 36; refine (sfind_hit _ b g h F HP.out id i HI.out).mono ?_; rintro e w' ⟨rfl, rfl⟩)
  go_ret
  refine ⟨rfl, ?_, ((((Ext.refl _ _).setCell (.inl (by simp)) _).setCell (.inl (by simp)) _).setCell (.inl (by simp)) _)⟩
  have h1 := HP.out.set (f' := { f with x := x }) HF.out (j := 2) (v := Value.string x) (by omega) rfl
  have hl := (List.getElem?_eq_some_iff.1 HF.out).1
  have h2 := h1.set (f' := { f with x := x, dirty := true }) (List.getElem?_set_self hl) (j := 5) (v := .bool true) (by omega) rfl
  have h3 := h2.set (f' := { f with x := x, dirty := true, rc := r }) (List.getElem?_set_self (by simpa using hl)) (j := 6) (v := .int .u64 r) (by omega) rfl
  simpa using h3

set_option maxHeartbeats 1000000 in
theorem sset_more (w : World) (b g h : Nat) (F : List (Fr ByteArray)) (hp : sPool w b g F h) (id : Int) (x : ByteArray) (r : Int) (i : Nat) (f : Fr ByteArray) (hf : find F id = some i) (hi : F[i]? = some f) (hr : (r != 0) = false ∨ ((r != 0) = true ∧ f.dirty = true)) :
    Calls Try.prog 13 #[.pointer (some ⟨b, 0, none⟩), .int .i64 id, Value.string x, .int .u64 r] w fun e w' => e = .returned (.int .i64 0) ∧ PU Value.string 66 71 w w' b g (F.set i { f with x := x }) h := by
  obtain ⟨k0, k1, k2, k3, k4, k5, k6⟩ := hp.cells hi
  have f2 := hp.free (i * 7 + 2)
  have f3 := hp.free (i * 7 + 3)
  have f4 := hp.free (i * 7 + 4)
  have f5 := hp.free (i * 7 + 5)
  have f6 := hp.free (i * 7 + 6)
  have f1 := hp.free (i * 7 + 1)
  have f0 := hp.free (i * 7)
  have HP := Lib.hid hp
  have HI := Lib.hid hf
  have HF := Lib.hid hi
  clear hp hf hi
  have HR := Lib.hid hr
  rcases hr with hr | ⟨hr, hd⟩
  rotate_left
  · rw [hd] at k5
    clear hd HR
    go_enter Try.func13, Try.ntmps13
    go_wp2_with (go_at_call 36; refine (sfind_hit _ b g h F HP.out id i HI.out).mono ?_; rintro e w' ⟨rfl, rfl⟩)
    go_ret
    exact ⟨rfl, HP.out.set HF.out (by omega) rfl, (Ext.refl _ _).setCell (.inl (by simp)) _⟩
  clear HR
  go_enter Try.func13, Try.ntmps13
  go_wp2_with (go_at_call 36; refine (sfind_hit _ b g h F HP.out id i HI.out).mono ?_; rintro e w' ⟨rfl, rfl⟩)
  go_ret
  exact ⟨rfl, HP.out.set HF.out (by omega) rfl, (Ext.refl _ _).setCell (.inl (by simp)) _⟩

set_option maxHeartbeats 1000000 in
theorem sclean_miss (w : World) (b g h : Nat) (F : List (Fr ByteArray)) (hp : sPool w b g F h) (id : Int) (hf : find F id = none) :
    Calls Try.prog 12 #[.pointer (some ⟨b, 0, none⟩), .int .i64 id] w fun e w' => e = .returned (.int .i64 5) ∧ w = w' := by
  have HP := Lib.hid hp
  have HI := Lib.hid hf
  clear hp hf
  go_enter Try.func12, Try.ntmps12
  go_wp2_with (go_at_call 36; refine (sfind_miss _ b g h F HP.out id HI.out).mono ?_; rintro e w' ⟨rfl, rfl⟩)
  go_ret
  exact ⟨rfl, rfl⟩

set_option maxHeartbeats 1000000 in
theorem sclean_hit (w : World) (b g h : Nat) (F : List (Fr ByteArray)) (hp : sPool w b g F h) (id : Int) (i : Nat) (f : Fr ByteArray) (hf : find F id = some i) (hi : F[i]? = some f) :
    Calls Try.prog 12 #[.pointer (some ⟨b, 0, none⟩), .int .i64 id] w fun e w' => e = .returned (.int .i64 0) ∧ PU Value.string 66 71 w w' b g (F.set i { f with dirty := false, rc := 0 }) h := by
  obtain ⟨k0, k1, k2, k3, k4, k5, k6⟩ := hp.cells hi
  have f2 := hp.free (i * 7 + 2)
  have f3 := hp.free (i * 7 + 3)
  have f4 := hp.free (i * 7 + 4)
  have f5 := hp.free (i * 7 + 5)
  have f6 := hp.free (i * 7 + 6)
  have f1 := hp.free (i * 7 + 1)
  have f0 := hp.free (i * 7)
  have HP := Lib.hid hp
  have HI := Lib.hid hf
  have HF := Lib.hid hi
  clear hp hf hi
  go_enter Try.func12, Try.ntmps12
  go_wp2_with (go_at_call 36; refine (sfind_hit _ b g h F HP.out id i HI.out).mono ?_; rintro e w' ⟨rfl, rfl⟩)
  go_ret
  refine ⟨rfl, ?_, (((Ext.refl _ _).setCell (.inl (by simp)) _).setCell (.inl (by simp)) _)⟩
  have hl := (List.getElem?_eq_some_iff.1 HF.out).1
  have h2 := HP.out.set (f' := { f with dirty := false }) HF.out (j := 5) (v := .bool false) (by omega) rfl
  have h3 := h2.set (f' := { f with dirty := false, rc := 0 }) (List.getElem?_set_self hl) (j := 6) (v := .int .u64 0) (by omega) rfl
  simpa using h3

set_option maxHeartbeats 1000000 in
theorem sfix_miss (w : World) (b g h : Nat) (F : List (Fr ByteArray)) (hp : sPool w b g F h) (id : Int) (hf : find F id = none) :
    Calls Try.prog 34 #[.pointer (some ⟨b, 0, none⟩), .int .i64 id] w fun e w' => e = .returned (.int .i64 5) ∧ w = w' := by
  have HP := Lib.hid hp
  have HI := Lib.hid hf
  clear hp hf
  go_enter Try.func34, Try.ntmps34
  go_wp2_with (go_at_call 36; refine (sfind_miss _ b g h F HP.out id HI.out).mono ?_; rintro e w' ⟨rfl, rfl⟩)
  go_ret
  exact ⟨rfl, rfl⟩

set_option maxHeartbeats 1000000 in
theorem sfix_hit (w : World) (b g h : Nat) (F : List (Fr ByteArray)) (hp : sPool w b g F h) (id : Int) (i : Nat) (f : Fr ByteArray) (hf : find F id = some i) (hi : F[i]? = some f) (h0 : 0 ≤ f.fixes) (h1 : f.fixes ≤ 1000000) :
    Calls Try.prog 34 #[.pointer (some ⟨b, 0, none⟩), .int .i64 id] w fun e w' => e = .returned (.int .i64 0) ∧ PU Value.string 66 71 w w' b g (F.set i { f with fixes := f.fixes + 1 }) h := by
  obtain ⟨k0, k1, k2, k3, k4, k5, k6⟩ := hp.cells hi
  have f2 := hp.free (i * 7 + 2)
  have f3 := hp.free (i * 7 + 3)
  have f4 := hp.free (i * 7 + 4)
  have f5 := hp.free (i * 7 + 5)
  have f6 := hp.free (i * 7 + 6)
  have f1 := hp.free (i * 7 + 1)
  have f0 := hp.free (i * 7)
  have HP := Lib.hid hp
  have HI := Lib.hid hf
  have HF := Lib.hid hi
  clear hp hf hi
  go_enter Try.func34, Try.ntmps34
  go_wp2_with (go_at_call 36; refine (sfind_hit _ b g h F HP.out id i HI.out).mono ?_; rintro e w' ⟨rfl, rfl⟩)
  go_ret
  exact ⟨rfl, HP.out.set HF.out (by omega) rfl, (Ext.refl _ _).setCell (.inl (by simp)) _⟩

set_option maxHeartbeats 1000000 in
theorem sunfix_miss (w : World) (b g h : Nat) (F : List (Fr ByteArray)) (hp : sPool w b g F h) (id : Int) (hf : find F id = none) :
    Calls Try.prog 18 #[.pointer (some ⟨b, 0, none⟩), .int .i64 id] w fun e w' => e = .returned (.int .i64 5) ∧ w = w' := by
  have HP := Lib.hid hp
  have HI := Lib.hid hf
  clear hp hf
  go_enter Try.func18, Try.ntmps18
  go_wp2_with (go_at_call 36; refine (sfind_miss _ b g h F HP.out id HI.out).mono ?_; rintro e w' ⟨rfl, rfl⟩)
  go_ret
  exact ⟨rfl, rfl⟩

set_option maxHeartbeats 1000000 in
theorem sunfix_state (w : World) (b g h : Nat) (F : List (Fr ByteArray)) (hp : sPool w b g F h) (id : Int) (i : Nat) (f : Fr ByteArray) (hf : find F id = some i) (hi : F[i]? = some f) (h0 : f.fixes = 0) :
    Calls Try.prog 18 #[.pointer (some ⟨b, 0, none⟩), .int .i64 id] w fun e w' => e = .returned (.int .i64 13) ∧ w = w' := by
  obtain ⟨k0, k1, k2, k3, k4, k5, k6⟩ := hp.cells hi
  have f2 := hp.free (i * 7 + 2)
  have f3 := hp.free (i * 7 + 3)
  have f4 := hp.free (i * 7 + 4)
  have f5 := hp.free (i * 7 + 5)
  have f6 := hp.free (i * 7 + 6)
  have f1 := hp.free (i * 7 + 1)
  have f0 := hp.free (i * 7)
  have HP := Lib.hid hp
  have HI := Lib.hid hf
  have HF := Lib.hid hi
  clear hp hf hi
  rw [h0] at k4
  have HZ := Lib.hid h0
  clear h0
  go_enter Try.func18, Try.ntmps18
  go_wp2_with (go_at_call 36; refine (sfind_hit _ b g h F HP.out id i HI.out).mono ?_; rintro e w' ⟨rfl, rfl⟩)
  go_ret
  exact ⟨rfl, rfl⟩

set_option maxHeartbeats 1000000 in
theorem sunfix_hit (w : World) (b g h : Nat) (F : List (Fr ByteArray)) (hp : sPool w b g F h) (id : Int) (i : Nat) (f : Fr ByteArray) (hf : find F id = some i) (hi : F[i]? = some f) (h0 : 0 < f.fixes) (h1 : f.fixes ≤ 1000000) :
    Calls Try.prog 18 #[.pointer (some ⟨b, 0, none⟩), .int .i64 id] w fun e w' => e = .returned (.int .i64 0) ∧ PU Value.string 66 71 w w' b g (F.set i { f with fixes := f.fixes - 1 }) h := by
  obtain ⟨k0, k1, k2, k3, k4, k5, k6⟩ := hp.cells hi
  have f2 := hp.free (i * 7 + 2)
  have f3 := hp.free (i * 7 + 3)
  have f4 := hp.free (i * 7 + 4)
  have f5 := hp.free (i * 7 + 5)
  have f6 := hp.free (i * 7 + 6)
  have f1 := hp.free (i * 7 + 1)
  have f0 := hp.free (i * 7)
  have HP := Lib.hid hp
  have HI := Lib.hid hf
  have HF := Lib.hid hi
  clear hp hf hi
  have hz : (f.fixes == 0) = false := beq_eq_false_iff_ne.2 (by omega)
  go_enter Try.func18, Try.ntmps18
  go_wp2_with (go_at_call 36; refine (sfind_hit _ b g h F HP.out id i HI.out).mono ?_; rintro e w' ⟨rfl, rfl⟩)
  go_ret
  exact ⟨rfl, HP.out.set HF.out (by omega) rfl, (Ext.refl _ _).setCell (.inl (by simp)) _⟩

set_option maxHeartbeats 1000000 in
theorem sdrop_miss (w : World) (b g h : Nat) (F : List (Fr ByteArray)) (hp : sPool w b g F h) (id : Int) (hf : find F id = none) :
    Calls Try.prog 19 #[.pointer (some ⟨b, 0, none⟩), .int .i64 id] w fun e w' => e = .returned (.int .i64 5) ∧ w = w' := by
  have HP := Lib.hid hp
  have HI := Lib.hid hf
  clear hp hf
  go_enter Try.func19, Try.ntmps19
  go_wp2_with (go_at_call 36; refine (sfind_miss _ b g h F HP.out id HI.out).mono ?_; rintro e w' ⟨rfl, rfl⟩)
  go_ret
  exact ⟨rfl, rfl⟩

set_option maxHeartbeats 1000000 in
theorem sdrop_state (w : World) (b g h : Nat) (F : List (Fr ByteArray)) (hp : sPool w b g F h) (id : Int) (i : Nat) (f : Fr ByteArray) (hf : find F id = some i) (hi : F[i]? = some f) (h0 : 0 < f.fixes) :
    Calls Try.prog 19 #[.pointer (some ⟨b, 0, none⟩), .int .i64 id] w fun e w' => e = .returned (.int .i64 13) ∧ w = w' := by
  obtain ⟨k0, k1, k2, k3, k4, k5, k6⟩ := hp.cells hi
  have f2 := hp.free (i * 7 + 2)
  have f3 := hp.free (i * 7 + 3)
  have f4 := hp.free (i * 7 + 4)
  have f5 := hp.free (i * 7 + 5)
  have f6 := hp.free (i * 7 + 6)
  have f1 := hp.free (i * 7 + 1)
  have f0 := hp.free (i * 7)
  have HP := Lib.hid hp
  have HI := Lib.hid hf
  have HF := Lib.hid hi
  clear hp hf hi
  go_enter Try.func19, Try.ntmps19
  go_wp2_with (go_at_call 36; refine (sfind_hit _ b g h F HP.out id i HI.out).mono ?_; rintro e w' ⟨rfl, rfl⟩)
  go_ret
  exact ⟨rfl, rfl⟩

set_option maxHeartbeats 1000000 in
theorem sdrop_hit (w : World) (b g h : Nat) (F : List (Fr ByteArray)) (hp : sPool w b g F h) (id : Int) (i : Nat) (f : Fr ByteArray) (hf : find F id = some i) (hi : F[i]? = some f) (h0 : ¬ 0 < f.fixes) :
    Calls Try.prog 19 #[.pointer (some ⟨b, 0, none⟩), .int .i64 id] w fun e w' => e = .returned (.int .i64 0) ∧ PU Value.string 66 71 w w' b g (F.set i ⟨false, 0, ByteArray.empty, false, 0, false, 0⟩) h := by
  obtain ⟨k0, k1, k2, k3, k4, k5, k6⟩ := hp.cells hi
  have f2 := hp.free (i * 7 + 2)
  have f3 := hp.free (i * 7 + 3)
  have f4 := hp.free (i * 7 + 4)
  have f5 := hp.free (i * 7 + 5)
  have f6 := hp.free (i * 7 + 6)
  have f1 := hp.free (i * 7 + 1)
  have f0 := hp.free (i * 7)
  have HP := Lib.hid hp
  have HI := Lib.hid hf
  have HF := Lib.hid hi
  clear hp hf hi
  go_enter Try.func19, Try.ntmps19
  go_wp2_with (go_at_call 36; refine (sfind_hit _ b g h F HP.out id i HI.out).mono ?_; rintro e w' ⟨rfl, rfl⟩)
  go_ret
  exact ⟨rfl, HP.out.store ⟨false, 0, ByteArray.empty, false, 0, false, 0⟩ HF.out, (((((((Ext.refl _ _).setCell (.inl (by simp)) _).setCell (.inl (by simp)) _).setCell (.inl (by simp)) _).setCell (.inl (by simp)) _).setCell (.inl (by simp)) _).setCell (.inl (by simp)) _).setCell (.inl (by simp)) _⟩

set_option maxHeartbeats 1000000 in
theorem srec_miss (w : World) (b g h : Nat) (F : List (Fr ByteArray)) (hp : sPool w b g F h) (id : Int) (hf : find F id = none) :
    Calls Try.prog 14 #[.pointer (some ⟨b, 0, none⟩), .int .i64 id] w fun e w' => e = .returned (.tuple #[.int .u64 0, .bool false]) ∧ w = w' := by
  have HP := Lib.hid hp
  have HI := Lib.hid hf
  clear hp hf
  go_enter Try.func14, Try.ntmps14
  go_wp2_with (go_at_call 36; refine (sfind_miss _ b g h F HP.out id HI.out).mono ?_; rintro e w' ⟨rfl, rfl⟩)
  go_ret2
  exact ⟨rfl, rfl⟩

set_option maxHeartbeats 1000000 in
theorem srec_clean (w : World) (b g h : Nat) (F : List (Fr ByteArray)) (hp : sPool w b g F h) (id : Int) (i : Nat) (f : Fr ByteArray) (hf : find F id = some i) (hi : F[i]? = some f) (hd : f.dirty = false) :
    Calls Try.prog 14 #[.pointer (some ⟨b, 0, none⟩), .int .i64 id] w fun e w' => e = .returned (.tuple #[.int .u64 0, .bool false]) ∧ w = w' := by
  obtain ⟨k0, k1, k2, k3, k4, k5, k6⟩ := hp.cells hi
  have f2 := hp.free (i * 7 + 2)
  have f3 := hp.free (i * 7 + 3)
  have f4 := hp.free (i * 7 + 4)
  have f5 := hp.free (i * 7 + 5)
  have f6 := hp.free (i * 7 + 6)
  have f1 := hp.free (i * 7 + 1)
  have f0 := hp.free (i * 7)
  have HP := Lib.hid hp
  have HI := Lib.hid hf
  have HF := Lib.hid hi
  clear hp hf hi
  rw [hd] at k5
  have HD := Lib.hid hd
  clear hd
  go_enter Try.func14, Try.ntmps14
  go_wp2_with (go_at_call 36; refine (sfind_hit _ b g h F HP.out id i HI.out).mono ?_; rintro e w' ⟨rfl, rfl⟩)
  go_ret2
  exact ⟨rfl, rfl⟩

set_option maxHeartbeats 1000000 in
theorem srec_dirty (w : World) (b g h : Nat) (F : List (Fr ByteArray)) (hp : sPool w b g F h) (id : Int) (i : Nat) (f : Fr ByteArray) (hf : find F id = some i) (hi : F[i]? = some f) (hd : f.dirty = true) :
    Calls Try.prog 14 #[.pointer (some ⟨b, 0, none⟩), .int .i64 id] w fun e w' => e = .returned (.tuple #[.int .u64 f.rc, .bool true]) ∧ w = w' := by
  obtain ⟨k0, k1, k2, k3, k4, k5, k6⟩ := hp.cells hi
  have f2 := hp.free (i * 7 + 2)
  have f3 := hp.free (i * 7 + 3)
  have f4 := hp.free (i * 7 + 4)
  have f5 := hp.free (i * 7 + 5)
  have f6 := hp.free (i * 7 + 6)
  have f1 := hp.free (i * 7 + 1)
  have f0 := hp.free (i * 7)
  have HP := Lib.hid hp
  have HI := Lib.hid hf
  have HF := Lib.hid hi
  clear hp hf hi
  rw [hd] at k5
  have HD := Lib.hid hd
  clear hd
  go_enter Try.func14, Try.ntmps14
  go_wp2_with (go_at_call 36; refine (sfind_hit _ b g h F HP.out id i HI.out).mono ?_; rintro e w' ⟨rfl, rfl⟩)
  go_ret2
  exact ⟨rfl, rfl⟩

end Go.Proofs.Ytkdmilchklmefaa
