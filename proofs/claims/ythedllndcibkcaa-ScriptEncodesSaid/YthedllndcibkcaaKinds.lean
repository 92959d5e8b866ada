/- number: a step's numbers, kind by kind. -/
import Derived.Test.YthedllndcibkcaaNumber
namespace Go.Proofs.Ythedllndcibkcaa
open Go.RowKit
set_option linter.unusedVariables false
set_option linter.unusedSimpArgs false

/-- A step's cells. -/
def cl (k a b c d e f g : Int) (x : ByteArray) : List Value := [.int .i64 k, .int .i64 a, .int .i64 b, .int .i64 c, .int .i64 d, .int .i64 e, .int .i64 f, .int .i64 g, .string x]
/-- Reading numbers into fields. -/
def runF : List (Nat × Nat) → List Value × List Int × Bool → List Value × List Int × Bool
  | [], s => s
  | q :: l, s => runF l (s.1.set q.1 (.int .i64 (numV q.2 s.2.1)), numL q.2 s.2.1, numO q.2 s.2.1 s.2.2)
/-- The numbers that a kind has: fields, widths. -/
def fieldsOf : Int → List (Nat × Nat)
  | 1 => [(1, 1)]
  | 2 => [(1, 1), (2, 1), (3, 1), (4, 1)]
  | 3 => [(1, 1), (2, 1), (3, 1), (4, 1)]
  | 4 => [(1, 1), (2, 1), (3, 1), (4, 1)]
  | 5 => [(1, 1), (2, 1), (3, 1)]
  | 6 => [(1, 1), (2, 1)]
  | 7 => [(1, 1), (2, 1), (6, 1)]
  | 8 => [(1, 1), (2, 1)]
  | 9 => [(1, 1), (2, 1)]
  | 10 => [(1, 1), (3, 1)]
  | 11 => [(1, 1)]
  | 12 => [(1, 1)]
  | 13 => [(1, 1)]
  | 14 => [(6, 1)]
  | 15 => [(1, 1), (6, 2)]
  | 16 => [(1, 1), (6, 1), (5, 2), (7, 1)]
  | 17 => [(1, 1), (5, 1), (6, 1)]
  | 18 => [(1, 1)]
  | 19 => [(6, 1), (5, 2), (7, 1)]
  | _ => []

set_option maxHeartbeats 4000000 in
theorem number_1 (w0 w : World) (base rb pv sb : Nat) (t : List Value) (r : List Int) (o : Bool) (ht : t.length = 8) (d : DS w0 w base rb pv sb (.int .i64 1 :: t) r o) :
    Calls Try.prog 15 #[.pointer (some ⟨sb, 0, none⟩), .func (.func 16) #[] #[.pointer (some ⟨pv, 0, none⟩)]] w fun e w' => e = .returned (.tuple #[]) ∧
      DS w0 w' base rb pv sb (runF (fieldsOf 1) (.int .i64 1 :: t, r, o)).1 (runF (fieldsOf 1) (.int .i64 1 :: t, r, o)).2.1 (runF (fieldsOf 1) (.int .i64 1 :: t, r, o)).2.2 := by
  match t, ht with
  | [t1, t2, t3, t4, t5, t6, t7, t8], _ =>
    have HD := Lib.hid d
    have c0 := d.hs.cell (k := 0) rfl
    clear d
    go_enter Try.func15, Try.ntmps15
    go_wp2_with (go_at_call 16; fail)
    refine (each_any w0 _ base rb pv sb _ _ _ HD.out 1 1 _ rfl (by decide)).mono ?_
    rintro e w' ⟨rfl, hd⟩
    replace HD := Lib.hid hd
    have c0 := hd.hs.cell (k := 0) rfl
    clear hd
    go_wp2
    go_end0
    exact ⟨rfl, HD.out⟩

set_option maxHeartbeats 4000000 in
theorem number_2 (w0 w : World) (base rb pv sb : Nat) (t : List Value) (r : List Int) (o : Bool) (ht : t.length = 8) (d : DS w0 w base rb pv sb (.int .i64 2 :: t) r o) :
    Calls Try.prog 15 #[.pointer (some ⟨sb, 0, none⟩), .func (.func 16) #[] #[.pointer (some ⟨pv, 0, none⟩)]] w fun e w' => e = .returned (.tuple #[]) ∧
      DS w0 w' base rb pv sb (runF (fieldsOf 2) (.int .i64 2 :: t, r, o)).1 (runF (fieldsOf 2) (.int .i64 2 :: t, r, o)).2.1 (runF (fieldsOf 2) (.int .i64 2 :: t, r, o)).2.2 := by
  match t, ht with
  | [t1, t2, t3, t4, t5, t6, t7, t8], _ =>
    have HD := Lib.hid d
    have c0 := d.hs.cell (k := 0) rfl
    clear d
    go_enter Try.func15, Try.ntmps15
    go_wp2_with (go_at_call 16; fail)
    refine (each_any w0 _ base rb pv sb _ _ _ HD.out 1 1 _ rfl (by decide)).mono ?_
    rintro e w' ⟨rfl, hd⟩
    replace HD := Lib.hid hd
    have c0 := hd.hs.cell (k := 0) rfl
    clear hd
    go_wp2_with (go_at_call 16; fail)
    refine (each_any w0 _ base rb pv sb _ _ _ HD.out 2 1 _ rfl (by decide)).mono ?_
    rintro e w' ⟨rfl, hd⟩
    replace HD := Lib.hid hd
    have c0 := hd.hs.cell (k := 0) rfl
    clear hd
    go_wp2_with (go_at_call 16; fail)
    refine (each_any w0 _ base rb pv sb _ _ _ HD.out 3 1 _ rfl (by decide)).mono ?_
    rintro e w' ⟨rfl, hd⟩
    replace HD := Lib.hid hd
    have c0 := hd.hs.cell (k := 0) rfl
    clear hd
    go_wp2_with (go_at_call 16; fail)
    refine (each_any w0 _ base rb pv sb _ _ _ HD.out 4 1 _ rfl (by decide)).mono ?_
    rintro e w' ⟨rfl, hd⟩
    replace HD := Lib.hid hd
    have c0 := hd.hs.cell (k := 0) rfl
    clear hd
    go_wp2
    go_end0
    exact ⟨rfl, HD.out⟩

set_option maxHeartbeats 4000000 in
theorem number_3 (w0 w : World) (base rb pv sb : Nat) (t : List Value) (r : List Int) (o : Bool) (ht : t.length = 8) (d : DS w0 w base rb pv sb (.int .i64 3 :: t) r o) :
    Calls Try.prog 15 #[.pointer (some ⟨sb, 0, none⟩), .func (.func 16) #[] #[.pointer (some ⟨pv, 0, none⟩)]] w fun e w' => e = .returned (.tuple #[]) ∧
      DS w0 w' base rb pv sb (runF (fieldsOf 3) (.int .i64 3 :: t, r, o)).1 (runF (fieldsOf 3) (.int .i64 3 :: t, r, o)).2.1 (runF (fieldsOf 3) (.int .i64 3 :: t, r, o)).2.2 := by
  match t, ht with
  | [t1, t2, t3, t4, t5, t6, t7, t8], _ =>
    have HD := Lib.hid d
    have c0 := d.hs.cell (k := 0) rfl
    clear d
    go_enter Try.func15, Try.ntmps15
    go_wp2_with (go_at_call 16; fail)
    refine (each_any w0 _ base rb pv sb _ _ _ HD.out 1 1 _ rfl (by decide)).mono ?_
    rintro e w' ⟨rfl, hd⟩
    replace HD := Lib.hid hd
    have c0 := hd.hs.cell (k := 0) rfl
    clear hd
    go_wp2_with (go_at_call 16; fail)
    refine (each_any w0 _ base rb pv sb _ _ _ HD.out 2 1 _ rfl (by decide)).mono ?_
    rintro e w' ⟨rfl, hd⟩
    replace HD := Lib.hid hd
    have c0 := hd.hs.cell (k := 0) rfl
    clear hd
    go_wp2_with (go_at_call 16; fail)
    refine (each_any w0 _ base rb pv sb _ _ _ HD.out 3 1 _ rfl (by decide)).mono ?_
    rintro e w' ⟨rfl, hd⟩
    replace HD := Lib.hid hd
    have c0 := hd.hs.cell (k := 0) rfl
    clear hd
    go_wp2_with (go_at_call 16; fail)
    refine (each_any w0 _ base rb pv sb _ _ _ HD.out 4 1 _ rfl (by decide)).mono ?_
    rintro e w' ⟨rfl, hd⟩
    replace HD := Lib.hid hd
    have c0 := hd.hs.cell (k := 0) rfl
    clear hd
    go_wp2
    go_end0
    exact ⟨rfl, HD.out⟩

set_option maxHeartbeats 4000000 in
theorem number_4 (w0 w : World) (base rb pv sb : Nat) (t : List Value) (r : List Int) (o : Bool) (ht : t.length = 8) (d : DS w0 w base rb pv sb (.int .i64 4 :: t) r o) :
    Calls Try.prog 15 #[.pointer (some ⟨sb, 0, none⟩), .func (.func 16) #[] #[.pointer (some ⟨pv, 0, none⟩)]] w fun e w' => e = .returned (.tuple #[]) ∧
      DS w0 w' base rb pv sb (runF (fieldsOf 4) (.int .i64 4 :: t, r, o)).1 (runF (fieldsOf 4) (.int .i64 4 :: t, r, o)).2.1 (runF (fieldsOf 4) (.int .i64 4 :: t, r, o)).2.2 := by
  match t, ht with
  | [t1, t2, t3, t4, t5, t6, t7, t8], _ =>
    have HD := Lib.hid d
    have c0 := d.hs.cell (k := 0) rfl
    clear d
    go_enter Try.func15, Try.ntmps15
    go_wp2_with (go_at_call 16; fail)
    refine (each_any w0 _ base rb pv sb _ _ _ HD.out 1 1 _ rfl (by decide)).mono ?_
    rintro e w' ⟨rfl, hd⟩
    replace HD := Lib.hid hd
    have c0 := hd.hs.cell (k := 0) rfl
    clear hd
    go_wp2_with (go_at_call 16; fail)
    refine (each_any w0 _ base rb pv sb _ _ _ HD.out 2 1 _ rfl (by decide)).mono ?_
    rintro e w' ⟨rfl, hd⟩
    replace HD := Lib.hid hd
    have c0 := hd.hs.cell (k := 0) rfl
    clear hd
    go_wp2_with (go_at_call 16; fail)
    refine (each_any w0 _ base rb pv sb _ _ _ HD.out 3 1 _ rfl (by decide)).mono ?_
    rintro e w' ⟨rfl, hd⟩
    replace HD := Lib.hid hd
    have c0 := hd.hs.cell (k := 0) rfl
    clear hd
    go_wp2_with (go_at_call 16; fail)
    refine (each_any w0 _ base rb pv sb _ _ _ HD.out 4 1 _ rfl (by decide)).mono ?_
    rintro e w' ⟨rfl, hd⟩
    replace HD := Lib.hid hd
    have c0 := hd.hs.cell (k := 0) rfl
    clear hd
    go_wp2
    go_end0
    exact ⟨rfl, HD.out⟩

set_option maxHeartbeats 4000000 in
theorem number_5 (w0 w : World) (base rb pv sb : Nat) (t : List Value) (r : List Int) (o : Bool) (ht : t.length = 8) (d : DS w0 w base rb pv sb (.int .i64 5 :: t) r o) :
    Calls Try.prog 15 #[.pointer (some ⟨sb, 0, none⟩), .func (.func 16) #[] #[.pointer (some ⟨pv, 0, none⟩)]] w fun e w' => e = .returned (.tuple #[]) ∧
      DS w0 w' base rb pv sb (runF (fieldsOf 5) (.int .i64 5 :: t, r, o)).1 (runF (fieldsOf 5) (.int .i64 5 :: t, r, o)).2.1 (runF (fieldsOf 5) (.int .i64 5 :: t, r, o)).2.2 := by
  match t, ht with
  | [t1, t2, t3, t4, t5, t6, t7, t8], _ =>
    have HD := Lib.hid d
    have c0 := d.hs.cell (k := 0) rfl
    clear d
    go_enter Try.func15, Try.ntmps15
    go_wp2_with (go_at_call 16; fail)
    refine (each_any w0 _ base rb pv sb _ _ _ HD.out 1 1 _ rfl (by decide)).mono ?_
    rintro e w' ⟨rfl, hd⟩
    replace HD := Lib.hid hd
    have c0 := hd.hs.cell (k := 0) rfl
    clear hd
    go_wp2_with (go_at_call 16; fail)
    refine (each_any w0 _ base rb pv sb _ _ _ HD.out 2 1 _ rfl (by decide)).mono ?_
    rintro e w' ⟨rfl, hd⟩
    replace HD := Lib.hid hd
    have c0 := hd.hs.cell (k := 0) rfl
    clear hd
    go_wp2_with (go_at_call 16; fail)
    refine (each_any w0 _ base rb pv sb _ _ _ HD.out 3 1 _ rfl (by decide)).mono ?_
    rintro e w' ⟨rfl, hd⟩
    replace HD := Lib.hid hd
    have c0 := hd.hs.cell (k := 0) rfl
    clear hd
    go_wp2
    go_end0
    exact ⟨rfl, HD.out⟩

set_option maxHeartbeats 4000000 in
theorem number_6 (w0 w : World) (base rb pv sb : Nat) (t : List Value) (r : List Int) (o : Bool) (ht : t.length = 8) (d : DS w0 w base rb pv sb (.int .i64 6 :: t) r o) :
    Calls Try.prog 15 #[.pointer (some ⟨sb, 0, none⟩), .func (.func 16) #[] #[.pointer (some ⟨pv, 0, none⟩)]] w fun e w' => e = .returned (.tuple #[]) ∧
      DS w0 w' base rb pv sb (runF (fieldsOf 6) (.int .i64 6 :: t, r, o)).1 (runF (fieldsOf 6) (.int .i64 6 :: t, r, o)).2.1 (runF (fieldsOf 6) (.int .i64 6 :: t, r, o)).2.2 := by
  match t, ht with
  | [t1, t2, t3, t4, t5, t6, t7, t8], _ =>
    have HD := Lib.hid d
    have c0 := d.hs.cell (k := 0) rfl
    clear d
    go_enter Try.func15, Try.ntmps15
    go_wp2_with (go_at_call 16; fail)
    refine (each_any w0 _ base rb pv sb _ _ _ HD.out 1 1 _ rfl (by decide)).mono ?_
    rintro e w' ⟨rfl, hd⟩
    replace HD := Lib.hid hd
    have c0 := hd.hs.cell (k := 0) rfl
    clear hd
    go_wp2_with (go_at_call 16; fail)
    refine (each_any w0 _ base rb pv sb _ _ _ HD.out 2 1 _ rfl (by decide)).mono ?_
    rintro e w' ⟨rfl, hd⟩
    replace HD := Lib.hid hd
    have c0 := hd.hs.cell (k := 0) rfl
    clear hd
    go_wp2
    go_end0
    exact ⟨rfl, HD.out⟩

set_option maxHeartbeats 4000000 in
theorem number_7 (w0 w : World) (base rb pv sb : Nat) (t : List Value) (r : List Int) (o : Bool) (ht : t.length = 8) (d : DS w0 w base rb pv sb (.int .i64 7 :: t) r o) :
    Calls Try.prog 15 #[.pointer (some ⟨sb, 0, none⟩), .func (.func 16) #[] #[.pointer (some ⟨pv, 0, none⟩)]] w fun e w' => e = .returned (.tuple #[]) ∧
      DS w0 w' base rb pv sb (runF (fieldsOf 7) (.int .i64 7 :: t, r, o)).1 (runF (fieldsOf 7) (.int .i64 7 :: t, r, o)).2.1 (runF (fieldsOf 7) (.int .i64 7 :: t, r, o)).2.2 := by
  match t, ht with
  | [t1, t2, t3, t4, t5, t6, t7, t8], _ =>
    have HD := Lib.hid d
    have c0 := d.hs.cell (k := 0) rfl
    clear d
    go_enter Try.func15, Try.ntmps15
    go_wp2_with (go_at_call 16; fail)
    refine (each_any w0 _ base rb pv sb _ _ _ HD.out 1 1 _ rfl (by decide)).mono ?_
    rintro e w' ⟨rfl, hd⟩
    replace HD := Lib.hid hd
    have c0 := hd.hs.cell (k := 0) rfl
    clear hd
    go_wp2_with (go_at_call 16; fail)
    refine (each_any w0 _ base rb pv sb _ _ _ HD.out 2 1 _ rfl (by decide)).mono ?_
    rintro e w' ⟨rfl, hd⟩
    replace HD := Lib.hid hd
    have c0 := hd.hs.cell (k := 0) rfl
    clear hd
    go_wp2_with (go_at_call 16; fail)
    refine (each_any w0 _ base rb pv sb _ _ _ HD.out 6 1 _ rfl (by decide)).mono ?_
    rintro e w' ⟨rfl, hd⟩
    replace HD := Lib.hid hd
    have c0 := hd.hs.cell (k := 0) rfl
    clear hd
    go_wp2
    go_end0
    exact ⟨rfl, HD.out⟩

set_option maxHeartbeats 4000000 in
theorem number_8 (w0 w : World) (base rb pv sb : Nat) (t : List Value) (r : List Int) (o : Bool) (ht : t.length = 8) (d : DS w0 w base rb pv sb (.int .i64 8 :: t) r o) :
    Calls Try.prog 15 #[.pointer (some ⟨sb, 0, none⟩), .func (.func 16) #[] #[.pointer (some ⟨pv, 0, none⟩)]] w fun e w' => e = .returned (.tuple #[]) ∧
      DS w0 w' base rb pv sb (runF (fieldsOf 8) (.int .i64 8 :: t, r, o)).1 (runF (fieldsOf 8) (.int .i64 8 :: t, r, o)).2.1 (runF (fieldsOf 8) (.int .i64 8 :: t, r, o)).2.2 := by
  match t, ht with
  | [t1, t2, t3, t4, t5, t6, t7, t8], _ =>
    have HD := Lib.hid d
    have c0 := d.hs.cell (k := 0) rfl
    clear d
    go_enter Try.func15, Try.ntmps15
    go_wp2_with (go_at_call 16; fail)
    refine (each_any w0 _ base rb pv sb _ _ _ HD.out 1 1 _ rfl (by decide)).mono ?_
    rintro e w' ⟨rfl, hd⟩
    replace HD := Lib.hid hd
    have c0 := hd.hs.cell (k := 0) rfl
    clear hd
    go_wp2_with (go_at_call 16; fail)
    refine (each_any w0 _ base rb pv sb _ _ _ HD.out 2 1 _ rfl (by decide)).mono ?_
    rintro e w' ⟨rfl, hd⟩
    replace HD := Lib.hid hd
    have c0 := hd.hs.cell (k := 0) rfl
    clear hd
    go_wp2
    go_end0
    exact ⟨rfl, HD.out⟩

set_option maxHeartbeats 4000000 in
theorem number_9 (w0 w : World) (base rb pv sb : Nat) (t : List Value) (r : List Int) (o : Bool) (ht : t.length = 8) (d : DS w0 w base rb pv sb (.int .i64 9 :: t) r o) :
    Calls Try.prog 15 #[.pointer (some ⟨sb, 0, none⟩), .func (.func 16) #[] #[.pointer (some ⟨pv, 0, none⟩)]] w fun e w' => e = .returned (.tuple #[]) ∧
      DS w0 w' base rb pv sb (runF (fieldsOf 9) (.int .i64 9 :: t, r, o)).1 (runF (fieldsOf 9) (.int .i64 9 :: t, r, o)).2.1 (runF (fieldsOf 9) (.int .i64 9 :: t, r, o)).2.2 := by
  match t, ht with
  | [t1, t2, t3, t4, t5, t6, t7, t8], _ =>
    have HD := Lib.hid d
    have c0 := d.hs.cell (k := 0) rfl
    clear d
    go_enter Try.func15, Try.ntmps15
    go_wp2_with (go_at_call 16; fail)
    refine (each_any w0 _ base rb pv sb _ _ _ HD.out 1 1 _ rfl (by decide)).mono ?_
    rintro e w' ⟨rfl, hd⟩
    replace HD := Lib.hid hd
    have c0 := hd.hs.cell (k := 0) rfl
    clear hd
    go_wp2_with (go_at_call 16; fail)
    refine (each_any w0 _ base rb pv sb _ _ _ HD.out 2 1 _ rfl (by decide)).mono ?_
    rintro e w' ⟨rfl, hd⟩
    replace HD := Lib.hid hd
    have c0 := hd.hs.cell (k := 0) rfl
    clear hd
    go_wp2
    go_end0
    exact ⟨rfl, HD.out⟩

set_option maxHeartbeats 4000000 in
theorem number_10 (w0 w : World) (base rb pv sb : Nat) (t : List Value) (r : List Int) (o : Bool) (ht : t.length = 8) (d : DS w0 w base rb pv sb (.int .i64 10 :: t) r o) :
    Calls Try.prog 15 #[.pointer (some ⟨sb, 0, none⟩), .func (.func 16) #[] #[.pointer (some ⟨pv, 0, none⟩)]] w fun e w' => e = .returned (.tuple #[]) ∧
      DS w0 w' base rb pv sb (runF (fieldsOf 10) (.int .i64 10 :: t, r, o)).1 (runF (fieldsOf 10) (.int .i64 10 :: t, r, o)).2.1 (runF (fieldsOf 10) (.int .i64 10 :: t, r, o)).2.2 := by
  match t, ht with
  | [t1, t2, t3, t4, t5, t6, t7, t8], _ =>
    have HD := Lib.hid d
    have c0 := d.hs.cell (k := 0) rfl
    clear d
    go_enter Try.func15, Try.ntmps15
    go_wp2_with (go_at_call 16; fail)
    refine (each_any w0 _ base rb pv sb _ _ _ HD.out 1 1 _ rfl (by decide)).mono ?_
    rintro e w' ⟨rfl, hd⟩
    replace HD := Lib.hid hd
    have c0 := hd.hs.cell (k := 0) rfl
    clear hd
    go_wp2_with (go_at_call 16; fail)
    refine (each_any w0 _ base rb pv sb _ _ _ HD.out 3 1 _ rfl (by decide)).mono ?_
    rintro e w' ⟨rfl, hd⟩
    replace HD := Lib.hid hd
    have c0 := hd.hs.cell (k := 0) rfl
    clear hd
    go_wp2
    go_end0
    exact ⟨rfl, HD.out⟩

set_option maxHeartbeats 4000000 in
theorem number_11 (w0 w : World) (base rb pv sb : Nat) (t : List Value) (r : List Int) (o : Bool) (ht : t.length = 8) (d : DS w0 w base rb pv sb (.int .i64 11 :: t) r o) :
    Calls Try.prog 15 #[.pointer (some ⟨sb, 0, none⟩), .func (.func 16) #[] #[.pointer (some ⟨pv, 0, none⟩)]] w fun e w' => e = .returned (.tuple #[]) ∧
      DS w0 w' base rb pv sb (runF (fieldsOf 11) (.int .i64 11 :: t, r, o)).1 (runF (fieldsOf 11) (.int .i64 11 :: t, r, o)).2.1 (runF (fieldsOf 11) (.int .i64 11 :: t, r, o)).2.2 := by
  match t, ht with
  | [t1, t2, t3, t4, t5, t6, t7, t8], _ =>
    have HD := Lib.hid d
    have c0 := d.hs.cell (k := 0) rfl
    clear d
    go_enter Try.func15, Try.ntmps15
    go_wp2_with (go_at_call 16; fail)
    refine (each_any w0 _ base rb pv sb _ _ _ HD.out 1 1 _ rfl (by decide)).mono ?_
    rintro e w' ⟨rfl, hd⟩
    replace HD := Lib.hid hd
    have c0 := hd.hs.cell (k := 0) rfl
    clear hd
    go_wp2
    go_end0
    exact ⟨rfl, HD.out⟩

set_option maxHeartbeats 4000000 in
theorem number_12 (w0 w : World) (base rb pv sb : Nat) (t : List Value) (r : List Int) (o : Bool) (ht : t.length = 8) (d : DS w0 w base rb pv sb (.int .i64 12 :: t) r o) :
    Calls Try.prog 15 #[.pointer (some ⟨sb, 0, none⟩), .func (.func 16) #[] #[.pointer (some ⟨pv, 0, none⟩)]] w fun e w' => e = .returned (.tuple #[]) ∧
      DS w0 w' base rb pv sb (runF (fieldsOf 12) (.int .i64 12 :: t, r, o)).1 (runF (fieldsOf 12) (.int .i64 12 :: t, r, o)).2.1 (runF (fieldsOf 12) (.int .i64 12 :: t, r, o)).2.2 := by
  match t, ht with
  | [t1, t2, t3, t4, t5, t6, t7, t8], _ =>
    have HD := Lib.hid d
    have c0 := d.hs.cell (k := 0) rfl
    clear d
    go_enter Try.func15, Try.ntmps15
    go_wp2_with (go_at_call 16; fail)
    refine (each_any w0 _ base rb pv sb _ _ _ HD.out 1 1 _ rfl (by decide)).mono ?_
    rintro e w' ⟨rfl, hd⟩
    replace HD := Lib.hid hd
    have c0 := hd.hs.cell (k := 0) rfl
    clear hd
    go_wp2
    go_end0
    exact ⟨rfl, HD.out⟩

set_option maxHeartbeats 4000000 in
theorem number_13 (w0 w : World) (base rb pv sb : Nat) (t : List Value) (r : List Int) (o : Bool) (ht : t.length = 8) (d : DS w0 w base rb pv sb (.int .i64 13 :: t) r o) :
    Calls Try.prog 15 #[.pointer (some ⟨sb, 0, none⟩), .func (.func 16) #[] #[.pointer (some ⟨pv, 0, none⟩)]] w fun e w' => e = .returned (.tuple #[]) ∧
      DS w0 w' base rb pv sb (runF (fieldsOf 13) (.int .i64 13 :: t, r, o)).1 (runF (fieldsOf 13) (.int .i64 13 :: t, r, o)).2.1 (runF (fieldsOf 13) (.int .i64 13 :: t, r, o)).2.2 := by
  match t, ht with
  | [t1, t2, t3, t4, t5, t6, t7, t8], _ =>
    have HD := Lib.hid d
    have c0 := d.hs.cell (k := 0) rfl
    clear d
    go_enter Try.func15, Try.ntmps15
    go_wp2_with (go_at_call 16; fail)
    refine (each_any w0 _ base rb pv sb _ _ _ HD.out 1 1 _ rfl (by decide)).mono ?_
    rintro e w' ⟨rfl, hd⟩
    replace HD := Lib.hid hd
    have c0 := hd.hs.cell (k := 0) rfl
    clear hd
    go_wp2
    go_end0
    exact ⟨rfl, HD.out⟩

set_option maxHeartbeats 4000000 in
theorem number_14 (w0 w : World) (base rb pv sb : Nat) (t : List Value) (r : List Int) (o : Bool) (ht : t.length = 8) (d : DS w0 w base rb pv sb (.int .i64 14 :: t) r o) :
    Calls Try.prog 15 #[.pointer (some ⟨sb, 0, none⟩), .func (.func 16) #[] #[.pointer (some ⟨pv, 0, none⟩)]] w fun e w' => e = .returned (.tuple #[]) ∧
      DS w0 w' base rb pv sb (runF (fieldsOf 14) (.int .i64 14 :: t, r, o)).1 (runF (fieldsOf 14) (.int .i64 14 :: t, r, o)).2.1 (runF (fieldsOf 14) (.int .i64 14 :: t, r, o)).2.2 := by
  match t, ht with
  | [t1, t2, t3, t4, t5, t6, t7, t8], _ =>
    have HD := Lib.hid d
    have c0 := d.hs.cell (k := 0) rfl
    clear d
    go_enter Try.func15, Try.ntmps15
    go_wp2_with (go_at_call 16; fail)
    refine (each_any w0 _ base rb pv sb _ _ _ HD.out 6 1 _ rfl (by decide)).mono ?_
    rintro e w' ⟨rfl, hd⟩
    replace HD := Lib.hid hd
    have c0 := hd.hs.cell (k := 0) rfl
    clear hd
    go_wp2
    go_end0
    exact ⟨rfl, HD.out⟩

set_option maxHeartbeats 4000000 in
theorem number_15 (w0 w : World) (base rb pv sb : Nat) (t : List Value) (r : List Int) (o : Bool) (ht : t.length = 8) (d : DS w0 w base rb pv sb (.int .i64 15 :: t) r o) :
    Calls Try.prog 15 #[.pointer (some ⟨sb, 0, none⟩), .func (.func 16) #[] #[.pointer (some ⟨pv, 0, none⟩)]] w fun e w' => e = .returned (.tuple #[]) ∧
      DS w0 w' base rb pv sb (runF (fieldsOf 15) (.int .i64 15 :: t, r, o)).1 (runF (fieldsOf 15) (.int .i64 15 :: t, r, o)).2.1 (runF (fieldsOf 15) (.int .i64 15 :: t, r, o)).2.2 := by
  match t, ht with
  | [t1, t2, t3, t4, t5, t6, t7, t8], _ =>
    have HD := Lib.hid d
    have c0 := d.hs.cell (k := 0) rfl
    clear d
    go_enter Try.func15, Try.ntmps15
    go_wp2_with (go_at_call 16; fail)
    refine (each_any w0 _ base rb pv sb _ _ _ HD.out 1 1 _ rfl (by decide)).mono ?_
    rintro e w' ⟨rfl, hd⟩
    replace HD := Lib.hid hd
    have c0 := hd.hs.cell (k := 0) rfl
    clear hd
    go_wp2_with (go_at_call 16; fail)
    refine (each_any w0 _ base rb pv sb _ _ _ HD.out 6 2 _ rfl (by decide)).mono ?_
    rintro e w' ⟨rfl, hd⟩
    replace HD := Lib.hid hd
    have c0 := hd.hs.cell (k := 0) rfl
    clear hd
    go_wp2
    go_end0
    exact ⟨rfl, HD.out⟩

set_option maxHeartbeats 4000000 in
theorem number_16 (w0 w : World) (base rb pv sb : Nat) (t : List Value) (r : List Int) (o : Bool) (ht : t.length = 8) (d : DS w0 w base rb pv sb (.int .i64 16 :: t) r o) :
    Calls Try.prog 15 #[.pointer (some ⟨sb, 0, none⟩), .func (.func 16) #[] #[.pointer (some ⟨pv, 0, none⟩)]] w fun e w' => e = .returned (.tuple #[]) ∧
      DS w0 w' base rb pv sb (runF (fieldsOf 16) (.int .i64 16 :: t, r, o)).1 (runF (fieldsOf 16) (.int .i64 16 :: t, r, o)).2.1 (runF (fieldsOf 16) (.int .i64 16 :: t, r, o)).2.2 := by
  match t, ht with
  | [t1, t2, t3, t4, t5, t6, t7, t8], _ =>
    have HD := Lib.hid d
    have c0 := d.hs.cell (k := 0) rfl
    clear d
    go_enter Try.func15, Try.ntmps15
    go_wp2_with (go_at_call 16; fail)
    refine (each_any w0 _ base rb pv sb _ _ _ HD.out 1 1 _ rfl (by decide)).mono ?_
    rintro e w' ⟨rfl, hd⟩
    replace HD := Lib.hid hd
    have c0 := hd.hs.cell (k := 0) rfl
    clear hd
    go_wp2_with (go_at_call 16; fail)
    refine (each_any w0 _ base rb pv sb _ _ _ HD.out 6 1 _ rfl (by decide)).mono ?_
    rintro e w' ⟨rfl, hd⟩
    replace HD := Lib.hid hd
    have c0 := hd.hs.cell (k := 0) rfl
    clear hd
    go_wp2_with (go_at_call 16; fail)
    refine (each_any w0 _ base rb pv sb _ _ _ HD.out 5 2 _ rfl (by decide)).mono ?_
    rintro e w' ⟨rfl, hd⟩
    replace HD := Lib.hid hd
    have c0 := hd.hs.cell (k := 0) rfl
    clear hd
    go_wp2_with (go_at_call 16; fail)
    refine (each_any w0 _ base rb pv sb _ _ _ HD.out 7 1 _ rfl (by decide)).mono ?_
    rintro e w' ⟨rfl, hd⟩
    replace HD := Lib.hid hd
    have c0 := hd.hs.cell (k := 0) rfl
    clear hd
    go_wp2
    go_end0
    exact ⟨rfl, HD.out⟩

set_option maxHeartbeats 4000000 in
theorem number_17 (w0 w : World) (base rb pv sb : Nat) (t : List Value) (r : List Int) (o : Bool) (ht : t.length = 8) (d : DS w0 w base rb pv sb (.int .i64 17 :: t) r o) :
    Calls Try.prog 15 #[.pointer (some ⟨sb, 0, none⟩), .func (.func 16) #[] #[.pointer (some ⟨pv, 0, none⟩)]] w fun e w' => e = .returned (.tuple #[]) ∧
      DS w0 w' base rb pv sb (runF (fieldsOf 17) (.int .i64 17 :: t, r, o)).1 (runF (fieldsOf 17) (.int .i64 17 :: t, r, o)).2.1 (runF (fieldsOf 17) (.int .i64 17 :: t, r, o)).2.2 := by
  match t, ht with
  | [t1, t2, t3, t4, t5, t6, t7, t8], _ =>
    have HD := Lib.hid d
    have c0 := d.hs.cell (k := 0) rfl
    clear d
    go_enter Try.func15, Try.ntmps15
    go_wp2_with (go_at_call 16; fail)
    refine (each_any w0 _ base rb pv sb _ _ _ HD.out 1 1 _ rfl (by decide)).mono ?_
    rintro e w' ⟨rfl, hd⟩
    replace HD := Lib.hid hd
    have c0 := hd.hs.cell (k := 0) rfl
    clear hd
    go_wp2_with (go_at_call 16; fail)
    refine (each_any w0 _ base rb pv sb _ _ _ HD.out 5 1 _ rfl (by decide)).mono ?_
    rintro e w' ⟨rfl, hd⟩
    replace HD := Lib.hid hd
    have c0 := hd.hs.cell (k := 0) rfl
    clear hd
    go_wp2_with (go_at_call 16; fail)
    refine (each_any w0 _ base rb pv sb _ _ _ HD.out 6 1 _ rfl (by decide)).mono ?_
    rintro e w' ⟨rfl, hd⟩
    replace HD := Lib.hid hd
    have c0 := hd.hs.cell (k := 0) rfl
    clear hd
    go_wp2
    go_end0
    exact ⟨rfl, HD.out⟩

set_option maxHeartbeats 4000000 in
theorem number_18 (w0 w : World) (base rb pv sb : Nat) (t : List Value) (r : List Int) (o : Bool) (ht : t.length = 8) (d : DS w0 w base rb pv sb (.int .i64 18 :: t) r o) :
    Calls Try.prog 15 #[.pointer (some ⟨sb, 0, none⟩), .func (.func 16) #[] #[.pointer (some ⟨pv, 0, none⟩)]] w fun e w' => e = .returned (.tuple #[]) ∧
      DS w0 w' base rb pv sb (runF (fieldsOf 18) (.int .i64 18 :: t, r, o)).1 (runF (fieldsOf 18) (.int .i64 18 :: t, r, o)).2.1 (runF (fieldsOf 18) (.int .i64 18 :: t, r, o)).2.2 := by
  match t, ht with
  | [t1, t2, t3, t4, t5, t6, t7, t8], _ =>
    have HD := Lib.hid d
    have c0 := d.hs.cell (k := 0) rfl
    clear d
    go_enter Try.func15, Try.ntmps15
    go_wp2_with (go_at_call 16; fail)
    refine (each_any w0 _ base rb pv sb _ _ _ HD.out 1 1 _ rfl (by decide)).mono ?_
    rintro e w' ⟨rfl, hd⟩
    replace HD := Lib.hid hd
    have c0 := hd.hs.cell (k := 0) rfl
    clear hd
    go_wp2
    go_end0
    exact ⟨rfl, HD.out⟩

set_option maxHeartbeats 4000000 in
theorem number_19 (w0 w : World) (base rb pv sb : Nat) (t : List Value) (r : List Int) (o : Bool) (ht : t.length = 8) (d : DS w0 w base rb pv sb (.int .i64 19 :: t) r o) :
    Calls Try.prog 15 #[.pointer (some ⟨sb, 0, none⟩), .func (.func 16) #[] #[.pointer (some ⟨pv, 0, none⟩)]] w fun e w' => e = .returned (.tuple #[]) ∧
      DS w0 w' base rb pv sb (runF (fieldsOf 19) (.int .i64 19 :: t, r, o)).1 (runF (fieldsOf 19) (.int .i64 19 :: t, r, o)).2.1 (runF (fieldsOf 19) (.int .i64 19 :: t, r, o)).2.2 := by
  match t, ht with
  | [t1, t2, t3, t4, t5, t6, t7, t8], _ =>
    have HD := Lib.hid d
    have c0 := d.hs.cell (k := 0) rfl
    clear d
    go_enter Try.func15, Try.ntmps15
    go_wp2_with (go_at_call 16; fail)
    refine (each_any w0 _ base rb pv sb _ _ _ HD.out 6 1 _ rfl (by decide)).mono ?_
    rintro e w' ⟨rfl, hd⟩
    replace HD := Lib.hid hd
    have c0 := hd.hs.cell (k := 0) rfl
    clear hd
    go_wp2_with (go_at_call 16; fail)
    refine (each_any w0 _ base rb pv sb _ _ _ HD.out 5 2 _ rfl (by decide)).mono ?_
    rintro e w' ⟨rfl, hd⟩
    replace HD := Lib.hid hd
    have c0 := hd.hs.cell (k := 0) rfl
    clear hd
    go_wp2_with (go_at_call 16; fail)
    refine (each_any w0 _ base rb pv sb _ _ _ HD.out 7 1 _ rfl (by decide)).mono ?_
    rintro e w' ⟨rfl, hd⟩
    replace HD := Lib.hid hd
    have c0 := hd.hs.cell (k := 0) rfl
    clear hd
    go_wp2
    go_end0
    exact ⟨rfl, HD.out⟩

end Go.Proofs.Ythedllndcibkcaa
