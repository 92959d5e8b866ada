/- What the reference's calls of one page answer, and make of the frames. -/
import Derived.Test.YtkdmilchklmefaaRModel
namespace Go.Proofs.Ytkdmilchklmefaa
open Go.RowKit
set_option linter.unusedVariables false
set_option linter.unusedSimpArgs false

set_option maxHeartbeats 1000000 in
theorem rget_hit (w : World) (b g cap h : Nat) (tl : List Value) (F : List (Fr ByteArray)) (hp : RPool w b g cap tl F h) (id : Int) (i : Nat) (f : Fr ByteArray) (hf : find F id = some i) (hi : F[i]? = some f) :
    Calls Try.prog 37 #[.pointer (some ⟨b, 0, none⟩), .int .i64 id] w fun e w' => e = .returned (.tuple #[.string f.x, .bool true]) ∧ RU w w' b g cap tl (F.set i { f with mark := true }) h := by
  obtain ⟨k0, k1, k2, k3, k4, k5⟩ := hp.cells hi
  have f2 := hp.free (i * 6 + 2)
  have f3 := hp.free (i * 6 + 3)
  have f4 := hp.free (i * 6 + 4)
  have f5 := hp.free (i * 6 + 5)
  have f1 := hp.free (i * 6 + 1)
  have f0 := hp.free (i * 6)
  have c0 := hp.frames
  have hne := hp.ne
  have hgn : g ≠ b := fun e => hne e.symm
  have hfew := hp.few
  have hil : i < F.length := (List.getElem?_eq_some_iff.1 hi).1
  have i0 : (0 : Int) ≤ (i : Int) := by omega
  have i1 : (i : Int) < (F.length : Int) := by omega
  have HVF := Lib.hid (hp.val f (List.mem_of_getElem? hi))
  have HP := Lib.hid hp
  have HI := Lib.hid hf
  have HF := Lib.hid hi
  clear hp hf hi
  go_enter Try.func37, Try.ntmps37
  go_wp2_with (go_at_call 57; refine (rat_hit _ b g cap h tl F HP.out id i HI.out).mono ?_; rintro e w' ⟨rfl, rfl⟩)
  go_ret2
  exact ⟨rfl, HP.out.set HF.out (by omega) rfl HVF.out, (Ext.refl _ _).setCell (.inl (by simp)) _⟩

set_option maxHeartbeats 1000000 in
theorem rget_miss (w : World) (b g cap h : Nat) (tl : List Value) (F : List (Fr ByteArray)) (hp : RPool w b g cap tl F h) (id : Int) (hf : find F id = none) :
    Calls Try.prog 37 #[.pointer (some ⟨b, 0, none⟩), .int .i64 id] w fun e w' => e = .returned (.tuple #[.string ByteArray.empty, .bool false]) ∧ w = w' := by
  have HP := Lib.hid hp
  have HI := Lib.hid hf
  clear hp hf
  go_enter Try.func37, Try.ntmps37
  go_wp2_with (go_at_call 57; refine (rat_miss _ b g cap h tl F HP.out id HI.out).mono ?_; rintro e w' ⟨rfl, rfl⟩)
  go_ret2
  exact ⟨rfl, rfl⟩

set_option maxHeartbeats 1000000 in
theorem rset_miss (w : World) (b g cap h : Nat) (tl : List Value) (F : List (Fr ByteArray)) (hp : RPool w b g cap tl F h) (id : Int) (x : ByteArray) (r : Int) (hf : find F id = none) :
    Calls Try.prog 39 #[.pointer (some ⟨b, 0, none⟩), .int .i64 id, .string x, .int .u64 r] w fun e w' => e = .returned (.int .i64 5) ∧ w = w' := by
  have HP := Lib.hid hp
  have HI := Lib.hid hf
  clear hp hf
  go_enter Try.func39, Try.ntmps39
  go_wp2_with (go_at_call 57; refine (rat_miss _ b g cap h tl F HP.out id HI.out).mono ?_; rintro e w' ⟨rfl, rfl⟩)
  go_ret
  exact ⟨rfl, rfl⟩

set_option maxHeartbeats 1000000 in
theorem rset_first (w : World) (b g cap h : Nat) (tl : List Value) (F : List (Fr ByteArray)) (hp : RPool w b g cap tl F h) (id : Int) (x : ByteArray) (r : Int) (i : Nat) (f : Fr ByteArray) (hf : find F id = some i) (hi : F[i]? = some f) (hr : (r != 0) = true) (hd : f.dirty = false) :
    Calls Try.prog 39 #[.pointer (some ⟨b, 0, none⟩), .int .i64 id, .string x, .int .u64 r] w fun e w' => e = .returned (.int .i64 0) ∧ RU w w' b g cap tl (F.set i { f with x := x, dirty := true, rc := r }) h := by
  obtain ⟨k0, k1, k2, k3, k4, k5⟩ := hp.cells hi
  have f2 := hp.free (i * 6 + 2)
  have f3 := hp.free (i * 6 + 3)
  have f4 := hp.free (i * 6 + 4)
  have f5 := hp.free (i * 6 + 5)
  have f1 := hp.free (i * 6 + 1)
  have f0 := hp.free (i * 6)
  have c0 := hp.frames
  have hne := hp.ne
  have hgn : g ≠ b := fun e => hne e.symm
  have hfew := hp.few
  have hil : i < F.length := (List.getElem?_eq_some_iff.1 hi).1
  have i0 : (0 : Int) ≤ (i : Int) := by omega
  have i1 : (i : Int) < (F.length : Int) := by omega
  have HVF := Lib.hid (hp.val f (List.mem_of_getElem? hi))
  have HP := Lib.hid hp
  have HI := Lib.hid hf
  have HF := Lib.hid hi
  clear hp hf hi
  rw [hd] at k4
  have HD := Lib.hid hd
  clear hd
  go_enter Try.func39, Try.ntmps39
  go_wp2_with (go_at_call 57; refine (rat_hit _ b g cap h tl F HP.out id i HI.out).mono ?_; rintro e w' ⟨rfl, rfl⟩)
  go_ret
  refine ⟨rfl, ?_, ((((Ext.refl _ _).setCell (.inl (by simp)) _).setCell (.inl (by simp)) _).setCell (.inl (by simp)) _)⟩
  have h1 := HP.out.set (f' := { f with x := x }) HF.out (j := 1) (v := .string x) (by omega) rfl HVF.out
  have h2 := h1.set (f' := { f with x := x, dirty := true }) (List.getElem?_set_self hil) (j := 4) (v := .bool true) (by omega) rfl HVF.out
  have h3 := h2.set (f' := { f with x := x, dirty := true, rc := r }) (List.getElem?_set_self (by simpa using hil)) (j := 5) (v := .int .u64 r) (by omega) rfl HVF.out
  simpa using h3

set_option maxHeartbeats 1000000 in
theorem rset_more (w : World) (b g cap h : Nat) (tl : List Value) (F : List (Fr ByteArray)) (hp : RPool w b g cap tl F h) (id : Int) (x : ByteArray) (r : Int) (i : Nat) (f : Fr ByteArray) (hf : find F id = some i) (hi : F[i]? = some f) (hr : (r != 0) = false ∨ ((r != 0) = true ∧ f.dirty = true)) :
    Calls Try.prog 39 #[.pointer (some ⟨b, 0, none⟩), .int .i64 id, .string x, .int .u64 r] w fun e w' => e = .returned (.int .i64 0) ∧ RU w w' b g cap tl (F.set i { f with x := x }) h := by
  obtain ⟨k0, k1, k2, k3, k4, k5⟩ := hp.cells hi
  have f2 := hp.free (i * 6 + 2)
  have f3 := hp.free (i * 6 + 3)
  have f4 := hp.free (i * 6 + 4)
  have f5 := hp.free (i * 6 + 5)
  have f1 := hp.free (i * 6 + 1)
  have f0 := hp.free (i * 6)
  have c0 := hp.frames
  have hne := hp.ne
  have hgn : g ≠ b := fun e => hne e.symm
  have hfew := hp.few
  have hil : i < F.length := (List.getElem?_eq_some_iff.1 hi).1
  have i0 : (0 : Int) ≤ (i : Int) := by omega
  have i1 : (i : Int) < (F.length : Int) := by omega
  have HVF := Lib.hid (hp.val f (List.mem_of_getElem? hi))
  have HP := Lib.hid hp
  have HI := Lib.hid hf
  have HF := Lib.hid hi
  clear hp hf hi
  have HR := Lib.hid hr
  rcases hr with hr | ⟨hr, hd⟩
  rotate_left
  · rw [hd] at k4
    clear hd HR
    go_enter Try.func39, Try.ntmps39
    go_wp2_with (go_at_call 57; refine (rat_hit _ b g cap h tl F HP.out id i HI.out).mono ?_; rintro e w' ⟨rfl, rfl⟩)
    go_ret
    exact ⟨rfl, HP.out.set HF.out (by omega) rfl HVF.out, (Ext.refl _ _).setCell (.inl (by simp)) _⟩
  clear HR
  go_enter Try.func39, Try.ntmps39
  go_wp2_with (go_at_call 57; refine (rat_hit _ b g cap h tl F HP.out id i HI.out).mono ?_; rintro e w' ⟨rfl, rfl⟩)
  go_ret
  exact ⟨rfl, HP.out.set HF.out (by omega) rfl HVF.out, (Ext.refl _ _).setCell (.inl (by simp)) _⟩

set_option maxHeartbeats 1000000 in
theorem rclean_miss (w : World) (b g cap h : Nat) (tl : List Value) (F : List (Fr ByteArray)) (hp : RPool w b g cap tl F h) (id : Int) (hf : find F id = none) :
    Calls Try.prog 40 #[.pointer (some ⟨b, 0, none⟩), .int .i64 id] w fun e w' => e = .returned (.int .i64 5) ∧ w = w' := by
  have HP := Lib.hid hp
  have HI := Lib.hid hf
  clear hp hf
  go_enter Try.func40, Try.ntmps40
  go_wp2_with (go_at_call 57; refine (rat_miss _ b g cap h tl F HP.out id HI.out).mono ?_; rintro e w' ⟨rfl, rfl⟩)
  go_ret
  exact ⟨rfl, rfl⟩

set_option maxHeartbeats 1000000 in
theorem rclean_hit (w : World) (b g cap h : Nat) (tl : List Value) (F : List (Fr ByteArray)) (hp : RPool w b g cap tl F h) (id : Int) (i : Nat) (f : Fr ByteArray) (hf : find F id = some i) (hi : F[i]? = some f) :
    Calls Try.prog 40 #[.pointer (some ⟨b, 0, none⟩), .int .i64 id] w fun e w' => e = .returned (.int .i64 0) ∧ RU w w' b g cap tl (F.set i { f with dirty := false, rc := 0 }) h := by
  obtain ⟨k0, k1, k2, k3, k4, k5⟩ := hp.cells hi
  have f2 := hp.free (i * 6 + 2)
  have f3 := hp.free (i * 6 + 3)
  have f4 := hp.free (i * 6 + 4)
  have f5 := hp.free (i * 6 + 5)
  have f1 := hp.free (i * 6 + 1)
  have f0 := hp.free (i * 6)
  have c0 := hp.frames
  have hne := hp.ne
  have hgn : g ≠ b := fun e => hne e.symm
  have hfew := hp.few
  have hil : i < F.length := (List.getElem?_eq_some_iff.1 hi).1
  have i0 : (0 : Int) ≤ (i : Int) := by omega
  have i1 : (i : Int) < (F.length : Int) := by omega
  have HVF := Lib.hid (hp.val f (List.mem_of_getElem? hi))
  have HP := Lib.hid hp
  have HI := Lib.hid hf
  have HF := Lib.hid hi
  clear hp hf hi
  go_enter Try.func40, Try.ntmps40
  go_wp2_with (go_at_call 57; refine (rat_hit _ b g cap h tl F HP.out id i HI.out).mono ?_; rintro e w' ⟨rfl, rfl⟩)
  go_ret
  refine ⟨rfl, ?_, (((Ext.refl _ _).setCell (.inl (by simp)) _).setCell (.inl (by simp)) _)⟩
  have h2 := HP.out.set (f' := { f with dirty := false }) HF.out (j := 4) (v := .bool false) (by omega) rfl HVF.out
  have h3 := h2.set (f' := { f with dirty := false, rc := 0 }) (List.getElem?_set_self hil) (j := 5) (v := .int .u64 0) (by omega) rfl HVF.out
  simpa using h3

set_option maxHeartbeats 1000000 in
theorem rfix_miss (w : World) (b g cap h : Nat) (tl : List Value) (F : List (Fr ByteArray)) (hp : RPool w b g cap tl F h) (id : Int) (by_ : Int) (hf : find F id = none) :
    Calls Try.prog 41 #[.pointer (some ⟨b, 0, none⟩), .int .i64 id, .int .i64 by_] w fun e w' => e = .returned (.int .i64 5) ∧ w = w' := by
  have HP := Lib.hid hp
  have HI := Lib.hid hf
  clear hp hf
  go_enter Try.func41, Try.ntmps41
  go_wp2_with (go_at_call 57; refine (rat_miss _ b g cap h tl F HP.out id HI.out).mono ?_; rintro e w' ⟨rfl, rfl⟩)
  go_ret
  exact ⟨rfl, rfl⟩

set_option maxHeartbeats 1000000 in
theorem rfix_hit (w : World) (b g cap h : Nat) (tl : List Value) (F : List (Fr ByteArray)) (hp : RPool w b g cap tl F h) (id : Int) (by_ : Int) (i : Nat) (f : Fr ByteArray) (hf : find F id = some i) (hi : F[i]? = some f) (h0 : 0 ≤ f.fixes + by_) (h1 : f.fixes ≤ 1000000) (h2 : -1 ≤ by_) (h3 : by_ ≤ 1) :
    Calls Try.prog 41 #[.pointer (some ⟨b, 0, none⟩), .int .i64 id, .int .i64 by_] w fun e w' => e = .returned (.int .i64 0) ∧ RU w w' b g cap tl (F.set i { f with fixes := f.fixes + by_ }) h := by
  obtain ⟨k0, k1, k2, k3, k4, k5⟩ := hp.cells hi
  have f2 := hp.free (i * 6 + 2)
  have f3 := hp.free (i * 6 + 3)
  have f4 := hp.free (i * 6 + 4)
  have f5 := hp.free (i * 6 + 5)
  have f1 := hp.free (i * 6 + 1)
  have f0 := hp.free (i * 6)
  have c0 := hp.frames
  have hne := hp.ne
  have hgn : g ≠ b := fun e => hne e.symm
  have hfew := hp.few
  have hil : i < F.length := (List.getElem?_eq_some_iff.1 hi).1
  have i0 : (0 : Int) ≤ (i : Int) := by omega
  have i1 : (i : Int) < (F.length : Int) := by omega
  have HVF := Lib.hid (hp.val f (List.mem_of_getElem? hi))
  have HP := Lib.hid hp
  have HI := Lib.hid hf
  have HF := Lib.hid hi
  clear hp hf hi
  have hw : IntKind.i64.wrap (f.fixes + by_) = f.fixes + by_ := IntWalk.i64_in _ (by have := HVF.out.2; omega)
  have hz : ¬ f.fixes + by_ < 0 := by omega
  go_enter Try.func41, Try.ntmps41
  go_wp2_with (go_at_call 57; refine (rat_hit _ b g cap h tl F HP.out id i HI.out).mono ?_; rintro e w' ⟨rfl, rfl⟩)
  go_region
  go_wp2
  go_ret
  exact ⟨rfl, (HP.out.set (f' := { f with fixes := f.fixes + by_ }) HF.out (by omega) rfl ⟨HVF.out.1, h0⟩).same ((Ext.refl _ _).drewN _), (((Ext.refl _ _).setCell (.inl (by simp)) _)).drewN _⟩

set_option maxHeartbeats 1000000 in
theorem rfix_state (w : World) (b g cap h : Nat) (tl : List Value) (F : List (Fr ByteArray)) (hp : RPool w b g cap tl F h) (id : Int) (by_ : Int) (i : Nat) (f : Fr ByteArray) (hf : find F id = some i) (hi : F[i]? = some f) (h0 : f.fixes = 0) (h2 : by_ = -1) :
    Calls Try.prog 41 #[.pointer (some ⟨b, 0, none⟩), .int .i64 id, .int .i64 by_] w fun e w' => e = .returned (.int .i64 13) ∧ w = w' := by
  obtain ⟨k0, k1, k2, k3, k4, k5⟩ := hp.cells hi
  have f2 := hp.free (i * 6 + 2)
  have f3 := hp.free (i * 6 + 3)
  have f4 := hp.free (i * 6 + 4)
  have f5 := hp.free (i * 6 + 5)
  have f1 := hp.free (i * 6 + 1)
  have f0 := hp.free (i * 6)
  have c0 := hp.frames
  have hne := hp.ne
  have hgn : g ≠ b := fun e => hne e.symm
  have hfew := hp.few
  have hil : i < F.length := (List.getElem?_eq_some_iff.1 hi).1
  have i0 : (0 : Int) ≤ (i : Int) := by omega
  have i1 : (i : Int) < (F.length : Int) := by omega
  have HVF := Lib.hid (hp.val f (List.mem_of_getElem? hi))
  have HP := Lib.hid hp
  have HI := Lib.hid hf
  have HF := Lib.hid hi
  clear hp hf hi
  rw [h0] at k3
  have HZ := Lib.hid h0
  clear h0
  subst h2
  go_enter Try.func41, Try.ntmps41
  go_wp2_with (go_at_call 57; refine (rat_hit _ b g cap h tl F HP.out id i HI.out).mono ?_; rintro e w' ⟨rfl, rfl⟩)
  go_ret
  exact ⟨rfl, rfl⟩

set_option maxHeartbeats 1000000 in
theorem rdrop_miss (w : World) (b g cap h : Nat) (tl : List Value) (F : List (Fr ByteArray)) (hp : RPool w b g cap tl F h) (id : Int) (hf : find F id = none) :
    Calls Try.prog 43 #[.pointer (some ⟨b, 0, none⟩), .int .i64 id] w fun e w' => e = .returned (.int .i64 5) ∧ w = w' := by
  have HP := Lib.hid hp
  have HI := Lib.hid hf
  clear hp hf
  go_enter Try.func43, Try.ntmps43
  go_wp2_with (go_at_call 57; refine (rat_miss _ b g cap h tl F HP.out id HI.out).mono ?_; rintro e w' ⟨rfl, rfl⟩)
  go_ret
  exact ⟨rfl, rfl⟩

set_option maxHeartbeats 1000000 in
theorem rdrop_state (w : World) (b g cap h : Nat) (tl : List Value) (F : List (Fr ByteArray)) (hp : RPool w b g cap tl F h) (id : Int) (i : Nat) (f : Fr ByteArray) (hf : find F id = some i) (hi : F[i]? = some f) (h0 : 0 < f.fixes) :
    Calls Try.prog 43 #[.pointer (some ⟨b, 0, none⟩), .int .i64 id] w fun e w' => e = .returned (.int .i64 13) ∧ w = w' := by
  obtain ⟨k0, k1, k2, k3, k4, k5⟩ := hp.cells hi
  have f2 := hp.free (i * 6 + 2)
  have f3 := hp.free (i * 6 + 3)
  have f4 := hp.free (i * 6 + 4)
  have f5 := hp.free (i * 6 + 5)
  have f1 := hp.free (i * 6 + 1)
  have f0 := hp.free (i * 6)
  have c0 := hp.frames
  have hne := hp.ne
  have hgn : g ≠ b := fun e => hne e.symm
  have hfew := hp.few
  have hil : i < F.length := (List.getElem?_eq_some_iff.1 hi).1
  have i0 : (0 : Int) ≤ (i : Int) := by omega
  have i1 : (i : Int) < (F.length : Int) := by omega
  have HVF := Lib.hid (hp.val f (List.mem_of_getElem? hi))
  have HP := Lib.hid hp
  have HI := Lib.hid hf
  have HF := Lib.hid hi
  clear hp hf hi
  go_enter Try.func43, Try.ntmps43
  go_wp2_with (go_at_call 57; refine (rat_hit _ b g cap h tl F HP.out id i HI.out).mono ?_; rintro e w' ⟨rfl, rfl⟩)
  go_ret
  exact ⟨rfl, rfl⟩

set_option maxHeartbeats 1000000 in
theorem rdrop_hit (w : World) (b g cap h : Nat) (tl : List Value) (F : List (Fr ByteArray)) (hp : RPool w b g cap tl F h) (id : Int) (i : Nat) (f : Fr ByteArray) (hf : find F id = some i) (hi : F[i]? = some f) (h0 : ¬ 0 < f.fixes) :
    Calls Try.prog 43 #[.pointer (some ⟨b, 0, none⟩), .int .i64 id] w fun e w' => e = .returned (.int .i64 0) ∧ RU w w' b g cap tl (F.set i szero) h := by
  obtain ⟨k0, k1, k2, k3, k4, k5⟩ := hp.cells hi
  have f2 := hp.free (i * 6 + 2)
  have f3 := hp.free (i * 6 + 3)
  have f4 := hp.free (i * 6 + 4)
  have f5 := hp.free (i * 6 + 5)
  have f1 := hp.free (i * 6 + 1)
  have f0 := hp.free (i * 6)
  have c0 := hp.frames
  have hne := hp.ne
  have hgn : g ≠ b := fun e => hne e.symm
  have hfew := hp.few
  have hil : i < F.length := (List.getElem?_eq_some_iff.1 hi).1
  have i0 : (0 : Int) ≤ (i : Int) := by omega
  have i1 : (i : Int) < (F.length : Int) := by omega
  have HVF := Lib.hid (hp.val f (List.mem_of_getElem? hi))
  have HP := Lib.hid hp
  have HI := Lib.hid hf
  have HF := Lib.hid hi
  clear hp hf hi
  go_enter Try.func43, Try.ntmps43
  go_wp2_with (go_at_call 57; refine (rat_hit _ b g cap h tl F HP.out id i HI.out).mono ?_; rintro e w' ⟨rfl, rfl⟩)
  go_ret
  exact ⟨rfl, HP.out.store szero HF.out ⟨(by intro h; simp [szero] at h), (by simp [szero])⟩, ((((((Ext.refl _ _).setCell (.inl (by simp)) _).setCell (.inl (by simp)) _).setCell (.inl (by simp)) _).setCell (.inl (by simp)) _).setCell (.inl (by simp)) _).setCell (.inl (by simp)) _⟩

set_option maxHeartbeats 1000000 in
theorem rrec_miss (w : World) (b g cap h : Nat) (tl : List Value) (F : List (Fr ByteArray)) (hp : RPool w b g cap tl F h) (id : Int) (hf : find F id = none) :
    Calls Try.prog 44 #[.pointer (some ⟨b, 0, none⟩), .int .i64 id] w fun e w' => e = .returned (.tuple #[.int .u64 0, .bool false]) ∧ w = w' := by
  have HP := Lib.hid hp
  have HI := Lib.hid hf
  clear hp hf
  go_enter Try.func44, Try.ntmps44
  go_wp2_with (go_at_call 57; refine (rat_miss _ b g cap h tl F HP.out id HI.out).mono ?_; rintro e w' ⟨rfl, rfl⟩)
  go_ret2
  exact ⟨rfl, rfl⟩

set_option maxHeartbeats 1000000 in
theorem rrec_clean (w : World) (b g cap h : Nat) (tl : List Value) (F : List (Fr ByteArray)) (hp : RPool w b g cap tl F h) (id : Int) (i : Nat) (f : Fr ByteArray) (hf : find F id = some i) (hi : F[i]? = some f) (hd : f.dirty = false) :
    Calls Try.prog 44 #[.pointer (some ⟨b, 0, none⟩), .int .i64 id] w fun e w' => e = .returned (.tuple #[.int .u64 0, .bool false]) ∧ w = w' := by
  obtain ⟨k0, k1, k2, k3, k4, k5⟩ := hp.cells hi
  have f2 := hp.free (i * 6 + 2)
  have f3 := hp.free (i * 6 + 3)
  have f4 := hp.free (i * 6 + 4)
  have f5 := hp.free (i * 6 + 5)
  have f1 := hp.free (i * 6 + 1)
  have f0 := hp.free (i * 6)
  have c0 := hp.frames
  have hne := hp.ne
  have hgn : g ≠ b := fun e => hne e.symm
  have hfew := hp.few
  have hil : i < F.length := (List.getElem?_eq_some_iff.1 hi).1
  have i0 : (0 : Int) ≤ (i : Int) := by omega
  have i1 : (i : Int) < (F.length : Int) := by omega
  have HVF := Lib.hid (hp.val f (List.mem_of_getElem? hi))
  have HP := Lib.hid hp
  have HI := Lib.hid hf
  have HF := Lib.hid hi
  clear hp hf hi
  rw [hd] at k4
  have HD := Lib.hid hd
  clear hd
  go_enter Try.func44, Try.ntmps44
  go_wp2_with (go_at_call 57; refine (rat_hit _ b g cap h tl F HP.out id i HI.out).mono ?_; rintro e w' ⟨rfl, rfl⟩)
  go_ret2
  exact ⟨rfl, rfl⟩

set_option maxHeartbeats 1000000 in
theorem rrec_dirty (w : World) (b g cap h : Nat) (tl : List Value) (F : List (Fr ByteArray)) (hp : RPool w b g cap tl F h) (id : Int) (i : Nat) (f : Fr ByteArray) (hf : find F id = some i) (hi : F[i]? = some f) (hd : f.dirty = true) :
    Calls Try.prog 44 #[.pointer (some ⟨b, 0, none⟩), .int .i64 id] w fun e w' => e = .returned (.tuple #[.int .u64 f.rc, .bool true]) ∧ w = w' := by
  obtain ⟨k0, k1, k2, k3, k4, k5⟩ := hp.cells hi
  have f2 := hp.free (i * 6 + 2)
  have f3 := hp.free (i * 6 + 3)
  have f4 := hp.free (i * 6 + 4)
  have f5 := hp.free (i * 6 + 5)
  have f1 := hp.free (i * 6 + 1)
  have f0 := hp.free (i * 6)
  have c0 := hp.frames
  have hne := hp.ne
  have hgn : g ≠ b := fun e => hne e.symm
  have hfew := hp.few
  have hil : i < F.length := (List.getElem?_eq_some_iff.1 hi).1
  have i0 : (0 : Int) ≤ (i : Int) := by omega
  have i1 : (i : Int) < (F.length : Int) := by omega
  have HVF := Lib.hid (hp.val f (List.mem_of_getElem? hi))
  have HP := Lib.hid hp
  have HI := Lib.hid hf
  have HF := Lib.hid hi
  clear hp hf hi
  rw [hd] at k4
  have HD := Lib.hid hd
  clear hd
  go_enter Try.func44, Try.ntmps44
  go_wp2_with (go_at_call 57; refine (rat_hit _ b g cap h tl F HP.out id i HI.out).mono ?_; rintro e w' ⟨rfl, rfl⟩)
  go_ret2
  exact ⟨rfl, rfl⟩

end Go.Proofs.Ytkdmilchklmefaa
