/- PoolNil: a nil pool, and the zero one. -/
import Derived.Test.YtkdmilchklmefaaAwake
namespace Go.Proofs.Ytkdmilchklmefaa
open Go.RowKit
set_option linter.unusedVariables false
set_option linter.unusedSimpArgs false

/-- No pool, or one without a frame. -/
def NoP (w : World) (d : Value) : Prop := d = .pointer none ∨ ∃ b, d = .pointer (some ⟨b, 0, none⟩) ∧ Blk w b 66 [.slice none 0 0, .int .i64 0]

set_option maxHeartbeats 1000000 in
theorem find_no (w : World) (d : Value) (h : NoP w d) (id : Int) :
    Calls Try.prog 36 #[d, .int .i64 id] w fun e w' => e = .returned (.pointer none) ∧ w = w' := by
  rcases h with rfl | ⟨b, rfl, hb⟩
  · go_enter Try.func36, Try.ntmps36
    go_wp2
    go_ret
    exact ⟨rfl, rfl⟩
  · have k0 := hb.cell (k := 0) rfl
    clear hb
    go_enter Try.func36, Try.ntmps36
    go_wp2
    go_loop [14] (fun k => k = .int .i64 0) (fun k => 1)
    case atStart => rfl
    case round =>
      subst hrel
      go_wp2
      go_ret
      exact ⟨rfl, rfl⟩

set_option maxHeartbeats 1000000 in
theorem get_no (w : World) (d : Value) (h : NoP w d) (id : Int) :
    Calls Try.prog 21 #[d, .int .i64 id] w fun e w' => e = .returned (.tuple #[.string ByteArray.empty, .bool false]) ∧ w = w' := by
  have HB := Lib.hid h
  clear h
  go_enter Try.func21, Try.ntmps21
  go_wp2_with (go_at_call 36; refine (find_no _ d HB.out id).mono ?_; rintro e w' ⟨rfl, rfl⟩)
  go_ret2
  exact ⟨rfl, rfl⟩

set_option maxHeartbeats 1000000 in
theorem rec_no (w : World) (d : Value) (h : NoP w d) (id : Int) :
    Calls Try.prog 14 #[d, .int .i64 id] w fun e w' => e = .returned (.tuple #[.int .u64 0, .bool false]) ∧ w = w' := by
  have HB := Lib.hid h
  clear h
  go_enter Try.func14, Try.ntmps14
  go_wp2_with (go_at_call 36; refine (find_no _ d HB.out id).mono ?_; rintro e w' ⟨rfl, rfl⟩)
  go_ret2
  exact ⟨rfl, rfl⟩

set_option maxHeartbeats 1000000 in
theorem set_no (w : World) (d : Value) (h : NoP w d) (id : Int) (x : ByteArray) (r : Int) :
    Calls Try.prog 13 #[d, .int .i64 id, .string x, .int .u64 r] w fun e w' => e = .returned (.int .i64 5) ∧ w = w' := by
  have HB := Lib.hid h
  clear h
  go_enter Try.func13, Try.ntmps13
  go_wp2_with (go_at_call 36; refine (find_no _ d HB.out id).mono ?_; rintro e w' ⟨rfl, rfl⟩)
  go_ret
  exact ⟨rfl, rfl⟩

set_option maxHeartbeats 1000000 in
theorem clean_no (w : World) (d : Value) (h : NoP w d) (id : Int) :
    Calls Try.prog 12 #[d, .int .i64 id] w fun e w' => e = .returned (.int .i64 5) ∧ w = w' := by
  have HB := Lib.hid h
  clear h
  go_enter Try.func12, Try.ntmps12
  go_wp2_with (go_at_call 36; refine (find_no _ d HB.out id).mono ?_; rintro e w' ⟨rfl, rfl⟩)
  go_ret
  exact ⟨rfl, rfl⟩

set_option maxHeartbeats 1000000 in
theorem fix_no (w : World) (d : Value) (h : NoP w d) (id : Int) :
    Calls Try.prog 34 #[d, .int .i64 id] w fun e w' => e = .returned (.int .i64 5) ∧ w = w' := by
  have HB := Lib.hid h
  clear h
  go_enter Try.func34, Try.ntmps34
  go_wp2_with (go_at_call 36; refine (find_no _ d HB.out id).mono ?_; rintro e w' ⟨rfl, rfl⟩)
  go_ret
  exact ⟨rfl, rfl⟩

set_option maxHeartbeats 1000000 in
theorem unfix_no (w : World) (d : Value) (h : NoP w d) (id : Int) :
    Calls Try.prog 18 #[d, .int .i64 id] w fun e w' => e = .returned (.int .i64 5) ∧ w = w' := by
  have HB := Lib.hid h
  clear h
  go_enter Try.func18, Try.ntmps18
  go_wp2_with (go_at_call 36; refine (find_no _ d HB.out id).mono ?_; rintro e w' ⟨rfl, rfl⟩)
  go_ret
  exact ⟨rfl, rfl⟩

set_option maxHeartbeats 1000000 in
theorem drop_no (w : World) (d : Value) (h : NoP w d) (id : Int) :
    Calls Try.prog 19 #[d, .int .i64 id] w fun e w' => e = .returned (.int .i64 5) ∧ w = w' := by
  have HB := Lib.hid h
  clear h
  go_enter Try.func19, Try.ntmps19
  go_wp2_with (go_at_call 36; refine (find_no _ d HB.out id).mono ?_; rintro e w' ⟨rfl, rfl⟩)
  go_ret
  exact ⟨rfl, rfl⟩

set_option maxHeartbeats 1000000 in
theorem victim_no (w : World) (d : Value) (h : NoP w d) :
    Calls Try.prog 17 #[d] w fun e w' => e = .returned (.tuple #[.int .i64 0, .int .i64 8]) ∧ w = w' := by
  rcases h with rfl | ⟨b, rfl, hb⟩
  · go_enter Try.func17, Try.ntmps17
    go_wp2
    go_ret2
    exact ⟨rfl, rfl⟩
  · have k0 := hb.cell (k := 0) rfl
    clear hb
    go_enter Try.func17, Try.ntmps17
    go_wp2
    go_loop [4, 14] (fun s k => s = .bool false ∧ k = .int .i64 0) (fun _ k => 1)
    case atStart => exact ⟨rfl, rfl⟩
    case round =>
      obtain ⟨rfl, rfl⟩ := hrel
      go_wp2
      go_ret2
      exact ⟨rfl, rfl⟩

set_option maxHeartbeats 1000000 in
theorem full_no_pool (w : World) (d : Value) (h : NoP w d) :
    Calls Try.prog 35 #[d] w fun e w' => e = .returned (.bool true) ∧ w = w' := by
  rcases h with rfl | ⟨b, rfl, hb⟩
  · go_enter Try.func35, Try.ntmps35
    go_wp2
    go_ret
    exact ⟨rfl, rfl⟩
  · have k0 := hb.cell (k := 0) rfl
    clear hb
    go_enter Try.func35, Try.ntmps35
    go_wp2
    go_loop [11] (fun k => k = .int .i64 0) (fun k => 1)
    case atStart => rfl
    case round =>
      subst hrel
      go_wp2
      go_ret
      exact ⟨rfl, rfl⟩

set_option maxHeartbeats 1000000 in
theorem put_no (w : World) (d : Value) (h : NoP w d) (id : Int) (x : ByteArray) (h0 : 0 ≤ id) (h1 : id < 32) :
    Calls Try.prog 11 #[d, .int .i64 id, .string x] w fun e w' => e = .returned (.int .i64 8) ∧ w = w' := by
  have HB := Lib.hid h
  rcases h with rfl | ⟨b, rfl, hb⟩
  · go_enter Try.func11, Try.ntmps11
    go_wp2_with (go_at_call 36; refine (find_no _ _ HB.out id).mono ?_; rintro e w' ⟨rfl, rfl⟩)
    go_ret
    exact ⟨rfl, rfl⟩
  · have k0 := hb.cell (k := 0) rfl
    clear hb
    go_enter Try.func11, Try.ntmps11
    go_wp2_with (go_at_call 36; refine (find_no _ _ HB.out id).mono ?_; rintro e w' ⟨rfl, rfl⟩)
    go_loop [25] (fun k => k = .int .i64 0) (fun k => 1)
    case atStart => rfl
    case round =>
      subst hrel
      go_wp2
      go_ret
      exact ⟨rfl, rfl⟩

set_option maxHeartbeats 1000000 in
theorem pages_no (w : World) (d : Value) (h : NoP w d) :
    Calls Try.prog 20 #[d] w fun e w' => e = .returned (.slice none 0 0) ∧ w = w' := by
  have HB := Lib.hid h
  clear h
  go_enter Try.func20, Try.ntmps20
  go_wp2
  go_loop [3, 5] (fun v i => ∃ j : Nat, j ≤ 32 ∧ i = .int .i64 j ∧ v = .slice none 0 0) (fun _ i => 32 - (intOf i).toNat)
  case atStart => exact ⟨0, Nat.zero_le _, rfl, rfl⟩
  case round =>
    obtain ⟨j, hj, rfl, rfl⟩ := hrel
    by_cases hlt : j < 32
    · have hlt' : (j : Int) < 32 := by omega
      go_wp2_with (go_at_call 36; refine (find_no _ d HB.out j).mono ?_; rintro e w' ⟨rfl, rfl⟩)
      go_round
      case rel => exact ⟨j + 1, by omega, by go_num, rfl⟩
      case measure => simp [intOf]; omega
    · have hlt' : ¬ (j : Int) < 32 := by omega
      go_wp2
      go_ret
      exact ⟨rfl, rfl⟩

set_option maxHeartbeats 1000000 in
theorem dirty_no (w : World) (d : Value) (h : NoP w d) :
    Calls Try.prog 15 #[d] w fun e w' => e = .returned (.slice none 0 0) ∧ w = w' := by
  have HB := Lib.hid h
  clear h
  go_enter Try.func15, Try.ntmps15
  go_wp2_with (go_at_call 20; refine (pages_no _ d HB.out).mono ?_; rintro e w' ⟨rfl, rfl⟩)
  go_loop [3, 11] (fun v i => i = .int .i64 0 ∧ v = .slice none 0 0) (fun _ i => 1)
  case atStart => exact ⟨rfl, rfl⟩
  case round =>
    obtain ⟨rfl, rfl⟩ := hrel
    go_wp2
    go_ret
    exact ⟨rfl, rfl⟩

theorem NoP.ext {w w' : World} {d : Value} (h : NoP w d) (e : Ext [] w w') : NoP w' d := by
  rcases h with h | ⟨b, rfl, hb⟩
  · exact .inl h
  · exact .inr ⟨b, rfl, hb.ext e (by simp)⟩

theorem put_no_bad (w : World) (d : Value) (id : Int) (x : ByteArray) (h : ¬ (0 ≤ id ∧ id < 32)) : Calls Try.prog 11 #[d, .int .i64 id, .string x] w fun e w' => e = .returned (.int .i64 1) ∧ w = w' := sput_bad d w id x h

set_option maxRecDepth 100000 in
set_option maxHeartbeats 4000000 in
theorem pnil_false (k id : Int) (x : ByteArray) (n : Int) (w : World) :
    Calls Try.prog 8 #[.agg #[.int .i64 k, .int .i64 id, .string x, .int .u64 n], .bool false] w fun e w' => e = .returned (.bool true) ∧ Ext [] w w' := by
  by_cases hid : 0 ≤ id ∧ id < 32
  · have i0 : ¬ id < 0 := by omega
    have i1 : ¬ 32 ≤ id := by omega
    go_enter Try.func8, Try.ntmps8
    go_wp2_with (go_at_call 9; fail)
    refine (awake_any _).mono ?_
    rintro e w1 ⟨rfl, E1⟩
    have hB : Blk w1 w.heap.size 53 [.int .i64 k, .int .i64 id, .string x, .int .u64 n] := (Blk.new w 53 _).ext E1 (by simp)
    have hE : Ext [] w w1 := ((Ext.refl [] w).alloc (.cells #[.int .i64 k, .int .i64 id, .string x, .int .u64 n] 53)).trans E1
    have hE2 : Ext [] w w1 := hE
    have k1 := hB.cell (k := 1) rfl
    have k2 := hB.cell (k := 2) rfl
    have k3 := hB.cell (k := 3) rfl
    have hN : NoP w1 (.pointer none) := .inl rfl
    have HB := Lib.hid hN
    have HE := Lib.hid hE2
    clear hN hE hE2 hB E1
    go_wp2_with (first
      | (go_at_call 21; refine (get_no _ _ HB.out id).mono ?_; rintro e w' ⟨rfl, rfl⟩)
      | (go_at_call 17; refine (victim_no _ _ HB.out).mono ?_; rintro e w' ⟨rfl, rfl⟩)
      | (go_at_call 14; refine (rec_no _ _ HB.out id).mono ?_; rintro e w' ⟨rfl, rfl⟩)
      | (go_at_call 11; refine (put_no _ _ HB.out id x hid.1 hid.2).mono ?_; rintro e w' ⟨rfl, rfl⟩)
      | (go_at_call 13; refine (set_no _ _ HB.out id x n).mono ?_; rintro e w' ⟨rfl, rfl⟩)
      | (go_at_call 12; refine (clean_no _ _ HB.out id).mono ?_; rintro e w' ⟨rfl, rfl⟩)
      | (go_at_call 34; refine (fix_no _ _ HB.out id).mono ?_; rintro e w' ⟨rfl, rfl⟩)
      | (go_at_call 18; refine (unfix_no _ _ HB.out id).mono ?_; rintro e w' ⟨rfl, rfl⟩)
      | (go_at_call 19; refine (drop_no _ _ HB.out id).mono ?_; rintro e w' ⟨rfl, rfl⟩)
      | (go_at_call 15; refine (dirty_no _ _ HB.out).mono ?_; rintro e w' ⟨rfl, rfl⟩)
      | (go_at_call 20; refine (pages_no _ _ HB.out).mono ?_; rintro e w' ⟨rfl, rfl⟩)
      | (go_at_call 35; refine (full_no_pool _ _ HB.out).mono ?_; rintro e w' ⟨rfl, rfl⟩))
    go_ret
    exact ⟨rfl, HE.out⟩
  · by_cases i0 : id < 0
    · have i1 : ¬ 32 ≤ id := by omega
      go_enter Try.func8, Try.ntmps8
      go_wp2_with (go_at_call 9; fail)
      refine (awake_any _).mono ?_
      rintro e w1 ⟨rfl, E1⟩
      have hB : Blk w1 w.heap.size 53 [.int .i64 k, .int .i64 id, .string x, .int .u64 n] := (Blk.new w 53 _).ext E1 (by simp)
      have hE : Ext [] w w1 := ((Ext.refl [] w).alloc (.cells #[.int .i64 k, .int .i64 id, .string x, .int .u64 n] 53)).trans E1
      have hE2 : Ext [] w w1 := hE
      have k1 := hB.cell (k := 1) rfl
      have k2 := hB.cell (k := 2) rfl
      have k3 := hB.cell (k := 3) rfl
      have hN : NoP w1 (.pointer none) := .inl rfl
      have HB := Lib.hid hN
      have HE := Lib.hid hE2
      clear hN hE hE2 hB E1
      go_wp2_with (first
        | (go_at_call 21; refine (get_no _ _ HB.out id).mono ?_; rintro e w' ⟨rfl, rfl⟩)
        | (go_at_call 17; refine (victim_no _ _ HB.out).mono ?_; rintro e w' ⟨rfl, rfl⟩)
        | (go_at_call 14; refine (rec_no _ _ HB.out id).mono ?_; rintro e w' ⟨rfl, rfl⟩)
        | (go_at_call 11; refine (put_no_bad _ _ id x hid).mono ?_; rintro e w' ⟨rfl, rfl⟩)
        | (go_at_call 13; refine (set_no _ _ HB.out id x n).mono ?_; rintro e w' ⟨rfl, rfl⟩)
        | (go_at_call 12; refine (clean_no _ _ HB.out id).mono ?_; rintro e w' ⟨rfl, rfl⟩)
        | (go_at_call 34; refine (fix_no _ _ HB.out id).mono ?_; rintro e w' ⟨rfl, rfl⟩)
        | (go_at_call 18; refine (unfix_no _ _ HB.out id).mono ?_; rintro e w' ⟨rfl, rfl⟩)
        | (go_at_call 19; refine (drop_no _ _ HB.out id).mono ?_; rintro e w' ⟨rfl, rfl⟩)
        | (go_at_call 15; refine (dirty_no _ _ HB.out).mono ?_; rintro e w' ⟨rfl, rfl⟩)
        | (go_at_call 20; refine (pages_no _ _ HB.out).mono ?_; rintro e w' ⟨rfl, rfl⟩)
        | (go_at_call 35; refine (full_no_pool _ _ HB.out).mono ?_; rintro e w' ⟨rfl, rfl⟩))
      go_ret
      exact ⟨rfl, HE.out⟩
    · have i1 : 32 ≤ id := by omega
      go_enter Try.func8, Try.ntmps8
      go_wp2_with (go_at_call 9; fail)
      refine (awake_any _).mono ?_
      rintro e w1 ⟨rfl, E1⟩
      have hB : Blk w1 w.heap.size 53 [.int .i64 k, .int .i64 id, .string x, .int .u64 n] := (Blk.new w 53 _).ext E1 (by simp)
      have hE : Ext [] w w1 := ((Ext.refl [] w).alloc (.cells #[.int .i64 k, .int .i64 id, .string x, .int .u64 n] 53)).trans E1
      have hE2 : Ext [] w w1 := hE
      have k1 := hB.cell (k := 1) rfl
      have k2 := hB.cell (k := 2) rfl
      have k3 := hB.cell (k := 3) rfl
      have hN : NoP w1 (.pointer none) := .inl rfl
      have HB := Lib.hid hN
      have HE := Lib.hid hE2
      clear hN hE hE2 hB E1
      go_wp2_with (first
        | (go_at_call 21; refine (get_no _ _ HB.out id).mono ?_; rintro e w' ⟨rfl, rfl⟩)
        | (go_at_call 17; refine (victim_no _ _ HB.out).mono ?_; rintro e w' ⟨rfl, rfl⟩)
        | (go_at_call 14; refine (rec_no _ _ HB.out id).mono ?_; rintro e w' ⟨rfl, rfl⟩)
        | (go_at_call 11; refine (put_no_bad _ _ id x hid).mono ?_; rintro e w' ⟨rfl, rfl⟩)
        | (go_at_call 13; refine (set_no _ _ HB.out id x n).mono ?_; rintro e w' ⟨rfl, rfl⟩)
        | (go_at_call 12; refine (clean_no _ _ HB.out id).mono ?_; rintro e w' ⟨rfl, rfl⟩)
        | (go_at_call 34; refine (fix_no _ _ HB.out id).mono ?_; rintro e w' ⟨rfl, rfl⟩)
        | (go_at_call 18; refine (unfix_no _ _ HB.out id).mono ?_; rintro e w' ⟨rfl, rfl⟩)
        | (go_at_call 19; refine (drop_no _ _ HB.out id).mono ?_; rintro e w' ⟨rfl, rfl⟩)
        | (go_at_call 15; refine (dirty_no _ _ HB.out).mono ?_; rintro e w' ⟨rfl, rfl⟩)
        | (go_at_call 20; refine (pages_no _ _ HB.out).mono ?_; rintro e w' ⟨rfl, rfl⟩)
        | (go_at_call 35; refine (full_no_pool _ _ HB.out).mono ?_; rintro e w' ⟨rfl, rfl⟩))
      go_ret
      exact ⟨rfl, HE.out⟩

set_option maxRecDepth 100000 in
set_option maxHeartbeats 4000000 in
theorem pnil_true (k id : Int) (x : ByteArray) (n : Int) (w : World) :
    Calls Try.prog 8 #[.agg #[.int .i64 k, .int .i64 id, .string x, .int .u64 n], .bool true] w fun e w' => e = .returned (.bool true) ∧ Ext [] w w' := by
  by_cases hid : 0 ≤ id ∧ id < 32
  · have i0 : ¬ id < 0 := by omega
    have i1 : ¬ 32 ≤ id := by omega
    go_enter Try.func8, Try.ntmps8
    go_wp2_with (go_at_call 9; fail)
    refine (awake_any _).mono ?_
    rintro e w1 ⟨rfl, E1⟩
    have hB : Blk w1 w.heap.size 53 [.int .i64 k, .int .i64 id, .string x, .int .u64 n] := (Blk.new w 53 _).ext E1 (by simp)
    have hE : Ext [] w w1 := ((Ext.refl [] w).alloc (.cells #[.int .i64 k, .int .i64 id, .string x, .int .u64 n] 53)).trans E1
    have hE2 : Ext [] w (w1.alloc (.cells #[.slice none 0 0, .int .i64 0] 66)) := hE.alloc _
    have k1 := (hB.alloc (.cells #[.slice none 0 0, .int .i64 0] 66)).cell (k := 1) rfl
    have k2 := (hB.alloc (.cells #[.slice none 0 0, .int .i64 0] 66)).cell (k := 2) rfl
    have k3 := (hB.alloc (.cells #[.slice none 0 0, .int .i64 0] 66)).cell (k := 3) rfl
    have c1 := hB.cell (k := 1) rfl
    have c2 := hB.cell (k := 2) rfl
    have c3 := hB.cell (k := 3) rfl
    have hN : NoP (w1.alloc (.cells #[.slice none 0 0, .int .i64 0] 66)) (.pointer (some ⟨w1.heap.size, 0, none⟩)) := .inr ⟨_, rfl, Blk.new _ _ [.slice none 0 0, .int .i64 0]⟩
    have HB := Lib.hid hN
    have HE := Lib.hid hE2
    clear hN hE hE2 hB E1
    go_wp2_with (first
      | (go_at_call 21; refine (get_no _ _ HB.out id).mono ?_; rintro e w' ⟨rfl, rfl⟩)
      | (go_at_call 17; refine (victim_no _ _ HB.out).mono ?_; rintro e w' ⟨rfl, rfl⟩)
      | (go_at_call 14; refine (rec_no _ _ HB.out id).mono ?_; rintro e w' ⟨rfl, rfl⟩)
      | (go_at_call 11; refine (put_no _ _ HB.out id x hid.1 hid.2).mono ?_; rintro e w' ⟨rfl, rfl⟩)
      | (go_at_call 13; refine (set_no _ _ HB.out id x n).mono ?_; rintro e w' ⟨rfl, rfl⟩)
      | (go_at_call 12; refine (clean_no _ _ HB.out id).mono ?_; rintro e w' ⟨rfl, rfl⟩)
      | (go_at_call 34; refine (fix_no _ _ HB.out id).mono ?_; rintro e w' ⟨rfl, rfl⟩)
      | (go_at_call 18; refine (unfix_no _ _ HB.out id).mono ?_; rintro e w' ⟨rfl, rfl⟩)
      | (go_at_call 19; refine (drop_no _ _ HB.out id).mono ?_; rintro e w' ⟨rfl, rfl⟩)
      | (go_at_call 15; refine (dirty_no _ _ HB.out).mono ?_; rintro e w' ⟨rfl, rfl⟩)
      | (go_at_call 20; refine (pages_no _ _ HB.out).mono ?_; rintro e w' ⟨rfl, rfl⟩)
      | (go_at_call 35; refine (full_no_pool _ _ HB.out).mono ?_; rintro e w' ⟨rfl, rfl⟩))
    go_ret
    exact ⟨rfl, HE.out⟩
  · by_cases i0 : id < 0
    · have i1 : ¬ 32 ≤ id := by omega
      go_enter Try.func8, Try.ntmps8
      go_wp2_with (go_at_call 9; fail)
      refine (awake_any _).mono ?_
      rintro e w1 ⟨rfl, E1⟩
      have hB : Blk w1 w.heap.size 53 [.int .i64 k, .int .i64 id, .string x, .int .u64 n] := (Blk.new w 53 _).ext E1 (by simp)
      have hE : Ext [] w w1 := ((Ext.refl [] w).alloc (.cells #[.int .i64 k, .int .i64 id, .string x, .int .u64 n] 53)).trans E1
      have hE2 : Ext [] w (w1.alloc (.cells #[.slice none 0 0, .int .i64 0] 66)) := hE.alloc _
      have k1 := (hB.alloc (.cells #[.slice none 0 0, .int .i64 0] 66)).cell (k := 1) rfl
      have k2 := (hB.alloc (.cells #[.slice none 0 0, .int .i64 0] 66)).cell (k := 2) rfl
      have k3 := (hB.alloc (.cells #[.slice none 0 0, .int .i64 0] 66)).cell (k := 3) rfl
      have c1 := hB.cell (k := 1) rfl
      have c2 := hB.cell (k := 2) rfl
      have c3 := hB.cell (k := 3) rfl
      have hN : NoP (w1.alloc (.cells #[.slice none 0 0, .int .i64 0] 66)) (.pointer (some ⟨w1.heap.size, 0, none⟩)) := .inr ⟨_, rfl, Blk.new _ _ [.slice none 0 0, .int .i64 0]⟩
      have HB := Lib.hid hN
      have HE := Lib.hid hE2
      clear hN hE hE2 hB E1
      go_wp2_with (first
        | (go_at_call 21; refine (get_no _ _ HB.out id).mono ?_; rintro e w' ⟨rfl, rfl⟩)
        | (go_at_call 17; refine (victim_no _ _ HB.out).mono ?_; rintro e w' ⟨rfl, rfl⟩)
        | (go_at_call 14; refine (rec_no _ _ HB.out id).mono ?_; rintro e w' ⟨rfl, rfl⟩)
        | (go_at_call 11; refine (put_no_bad _ _ id x hid).mono ?_; rintro e w' ⟨rfl, rfl⟩)
        | (go_at_call 13; refine (set_no _ _ HB.out id x n).mono ?_; rintro e w' ⟨rfl, rfl⟩)
        | (go_at_call 12; refine (clean_no _ _ HB.out id).mono ?_; rintro e w' ⟨rfl, rfl⟩)
        | (go_at_call 34; refine (fix_no _ _ HB.out id).mono ?_; rintro e w' ⟨rfl, rfl⟩)
        | (go_at_call 18; refine (unfix_no _ _ HB.out id).mono ?_; rintro e w' ⟨rfl, rfl⟩)
        | (go_at_call 19; refine (drop_no _ _ HB.out id).mono ?_; rintro e w' ⟨rfl, rfl⟩)
        | (go_at_call 15; refine (dirty_no _ _ HB.out).mono ?_; rintro e w' ⟨rfl, rfl⟩)
        | (go_at_call 20; refine (pages_no _ _ HB.out).mono ?_; rintro e w' ⟨rfl, rfl⟩)
        | (go_at_call 35; refine (full_no_pool _ _ HB.out).mono ?_; rintro e w' ⟨rfl, rfl⟩))
      go_ret
      exact ⟨rfl, HE.out⟩
    · have i1 : 32 ≤ id := by omega
      go_enter Try.func8, Try.ntmps8
      go_wp2_with (go_at_call 9; fail)
      refine (awake_any _).mono ?_
      rintro e w1 ⟨rfl, E1⟩
      have hB : Blk w1 w.heap.size 53 [.int .i64 k, .int .i64 id, .string x, .int .u64 n] := (Blk.new w 53 _).ext E1 (by simp)
      have hE : Ext [] w w1 := ((Ext.refl [] w).alloc (.cells #[.int .i64 k, .int .i64 id, .string x, .int .u64 n] 53)).trans E1
      have hE2 : Ext [] w (w1.alloc (.cells #[.slice none 0 0, .int .i64 0] 66)) := hE.alloc _
      have k1 := (hB.alloc (.cells #[.slice none 0 0, .int .i64 0] 66)).cell (k := 1) rfl
      have k2 := (hB.alloc (.cells #[.slice none 0 0, .int .i64 0] 66)).cell (k := 2) rfl
      have k3 := (hB.alloc (.cells #[.slice none 0 0, .int .i64 0] 66)).cell (k := 3) rfl
      have c1 := hB.cell (k := 1) rfl
      have c2 := hB.cell (k := 2) rfl
      have c3 := hB.cell (k := 3) rfl
      have hN : NoP (w1.alloc (.cells #[.slice none 0 0, .int .i64 0] 66)) (.pointer (some ⟨w1.heap.size, 0, none⟩)) := .inr ⟨_, rfl, Blk.new _ _ [.slice none 0 0, .int .i64 0]⟩
      have HB := Lib.hid hN
      have HE := Lib.hid hE2
      clear hN hE hE2 hB E1
      go_wp2_with (first
        | (go_at_call 21; refine (get_no _ _ HB.out id).mono ?_; rintro e w' ⟨rfl, rfl⟩)
        | (go_at_call 17; refine (victim_no _ _ HB.out).mono ?_; rintro e w' ⟨rfl, rfl⟩)
        | (go_at_call 14; refine (rec_no _ _ HB.out id).mono ?_; rintro e w' ⟨rfl, rfl⟩)
        | (go_at_call 11; refine (put_no_bad _ _ id x hid).mono ?_; rintro e w' ⟨rfl, rfl⟩)
        | (go_at_call 13; refine (set_no _ _ HB.out id x n).mono ?_; rintro e w' ⟨rfl, rfl⟩)
        | (go_at_call 12; refine (clean_no _ _ HB.out id).mono ?_; rintro e w' ⟨rfl, rfl⟩)
        | (go_at_call 34; refine (fix_no _ _ HB.out id).mono ?_; rintro e w' ⟨rfl, rfl⟩)
        | (go_at_call 18; refine (unfix_no _ _ HB.out id).mono ?_; rintro e w' ⟨rfl, rfl⟩)
        | (go_at_call 19; refine (drop_no _ _ HB.out id).mono ?_; rintro e w' ⟨rfl, rfl⟩)
        | (go_at_call 15; refine (dirty_no _ _ HB.out).mono ?_; rintro e w' ⟨rfl, rfl⟩)
        | (go_at_call 20; refine (pages_no _ _ HB.out).mono ?_; rintro e w' ⟨rfl, rfl⟩)
        | (go_at_call 35; refine (full_no_pool _ _ HB.out).mono ?_; rintro e w' ⟨rfl, rfl⟩))
      go_ret
      exact ⟨rfl, HE.out⟩

theorem pnil_any (k id : Int) (x : ByteArray) (n : Int) (zero : Bool) (w : World) :
    Calls Try.prog 8 #[.agg #[.int .i64 k, .int .i64 id, .string x, .int .u64 n], .bool zero] w fun e w' => e = .returned (.bool true) ∧ Ext [] w w' := by
  cases zero
  · exact pnil_false k id x n w
  · exact pnil_true k id x n w

end Go.Proofs.Ytkdmilchklmefaa
