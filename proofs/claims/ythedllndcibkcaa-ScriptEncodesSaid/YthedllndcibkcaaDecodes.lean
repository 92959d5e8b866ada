/- ScriptDecodes: any bytes are the setup and the steps that the document says. -/
import Derived.Test.YthedllndcibkcaaAwake
namespace Go.Proofs.Ythedllndcibkcaa
open Go.RowKit
set_option linter.unusedVariables false
set_option linter.unusedSimpArgs false

theorem guard30 (op : BinOp) (x y : Operand) (xs ys : Array Value) (w : World) : (eqGuard op 30 x y (.agg xs) (.agg ys)).run Try.prog w = .ok () w := run_eqGuard_agg w op 30 x y xs ys (by kernel_rfl)
theorem eql30 (a b_ c_ d : Int) (f : Bool) (w : World) : (binOp .eql 30 (.agg #[.int .i64 a, .int .i64 b_, .int .i64 c_, .int .i64 d, .bool f, .int .u64 0]) (.agg #[.int .i64 a, .int .i64 b_, .int .i64 c_, .int .i64 d, .bool f, .int .u64 0])).run Try.prog w = .ok (.bool true) w := by
  have u3 := Try.underlying3
  have u4 := Try.underlying4
  have u23 := Try.underlying23
  have a3 := Try.isAgg3
  have z3 := Try.sizeOf3
  have a4 := Try.isAgg4
  have z4 := Try.sizeOf4
  have a23 := Try.isAgg23
  have z23 := Try.sizeOf23
  have hS : Try.prog.underlying 30 = some (.struct (Try.prog.fieldsOf 30)) := by kernel_rfl
  have hp : Try.prog.stoodInHeld 30 = false := by kernel_rfl
  rw [run_eql_struct, show (10000 : Nat) = 9999 + 1 from rfl, run_equalIn_agg w 9999 30 _ _ hS hp]
  simp only [Program.fieldsOf, Try.underlying30]
  go_simp

theorem setupV_form (T : List Int) : ∃ a b_ c_ d f, setupV T = [.int .i64 a, .int .i64 b_, .int .i64 c_, .int .i64 d, .bool f, .int .u64 0] := ⟨_, _, _, _, _, rfl⟩

set_option maxHeartbeats 1000000 in
theorem decodes_big (b : ByteArray) (w : World) (hb : 20000 < b.size) (hr : b.size ≤ 140737488351232) : Calls Try.prog 3 #[.string b] w fun e w' => e = .returned (.bool true) ∧ Ext [] w w' := by
  have hb' : (20000 : Int) < (b.size : Int) := by omega
  clear hb
  go_enter Try.func3, Try.ntmps3
  go_wp2_with (go_at_call 5; fail)
  refine (awake_any _).mono ?_
  rintro e w1 ⟨rfl, e1⟩
  go_wp2_with (go_at_call 5; fail)
  refine (awake_any _).mono ?_
  rintro e w2 ⟨rfl, e2⟩
  go_wp2
  go_ret
  exact ⟨rfl, e1.trans e2⟩

structure DB (W w' : World) (l : List St) (A A2 : Option Addr) (c c2 : Nat) (S : List Value) (p q : Nat) : Prop where
  o1 : w'.ownsRow 0 38 9 (.slice A l.length c) l.length (encs St.cells l)
  o2 : w'.ownsRow 0 39 9 (.slice A2 l.length c2) l.length (encs St.cells l)
  b1 : Blk w' p 25 S
  b2 : Blk w' q 30 S
  ext : Ext [] W w'
theorem DB.go {W w1 w2 : World} {l : List St} {A A2 : Option Addr} {c c2 : Nat} {S : List Value} {p q : Nat} (h : DB W w1 l A A2 c c2 S p q) (e : Ext [] w1 w2) : DB W w2 l A A2 c c2 S p q :=
  ⟨own_ext h.o1 e (by simp), own_ext h.o2 e (by simp), h.b1.ext e (by simp), h.b2.ext e (by simp), h.ext.trans e⟩

set_option maxRecDepth 100000 in
set_option maxHeartbeats 4000000 in
theorem decodes_small (b : ByteArray) (w : World) (hb : b.size ≤ 20000) : Calls Try.prog 3 #[.string b] w fun e w' => e = .returned (.bool true) ∧ Ext [] w w' := by
  have hb' : ¬ ((20000 : Int) < (b.size : Int)) := by omega
  go_enter Try.func3, Try.ntmps3
  go_wp2_with (go_at_call 5; fail)
  refine (awake_any _).mono ?_
  rintro e w1 ⟨rfl, e1⟩
  have hconv := Lib.run_convert_string_bytes (P := Try.prog) w1 9 29 5 b Try.underlying9 Try.underlying29 Try.underlying5
  have hcap := grownCap_ge w1 b.size 0 5
  have hW2 : Ext [] w1 (Lib.bytesWorld w1 5 b) := ⟨by simp [Lib.bytesWorld, World.freeze, World.alloc, World.drew, -World.alloc_eq, -World.drew_eq], by simp [Lib.bytesWorld, World.freeze, World.alloc, World.drew, -World.alloc_eq, -World.drew_eq], by simp [Lib.bytesWorld, World.freeze, World.alloc, World.drew, -World.alloc_eq, -World.drew_eq], by rw [Lib.bytesWorld_size]; omega, fun k hk _ => Lib.bytesWorld_at_old w1 5 b k hk⟩
  have hs2 := Lib.bytesWorld_size w1 5 b
  have hcel : ∀ (j : Nat) (x : Int), (nums b)[j]? = some x → (Lib.bytesWorld w1 5 b).cell? ⟨w1.heap.size, j, none⟩ = some (.int .u8 x) := fun j x hj => by
    have hjl : j < b.size := by rw [← nums_length]; exact (List.getElem?_eq_some_iff.1 hj).1
    rw [Lib.bytesWorld_cell w1 5 b j hjl]
    rw [nums_at b j hjl] at hj
    injection hj with hj
    rw [← hj, List.getD, Go.Proofs.byte_at b j hjl]; rfl
  generalize grownCap w1 b.size 0 5 = cap at *
  generalize Lib.bytesWorld w1 5 b = w2 at *
  have hd := decode_any w2 w1.heap.size cap (nums b) (by omega) hcel (nums_range b) (by rw [nums_length]; exact hcap) (by rw [nums_length]; omega)
  rw [nums_length] at hd
  have HD := Lib.hid hd
  have HE2 := Lib.hid (e1.trans hW2)
  clear hd hcel hW2 hs2 e1 hcap
  go_wp2_with (go_at_call 6; fail)
  refine HD.out.mono ?_
  rintro e w3 ⟨A, c, he, hown, hext⟩
  obtain ⟨a, b_, c_, d, f, hS⟩ := setupV_form ((nums b).take 4096)
  obtain ⟨l, hl⟩ : ∃ l, dec (((nums b).take 4096).drop 5) = l := ⟨_, rfl⟩
  rw [hS, hl] at he
  rw [hl] at hown
  have he' : e = .returned (.tuple #[.agg #[.int .i64 a, .int .i64 b_, .int .i64 c_, .int .i64 d, .bool f, .int .u64 0], .slice A l.length c]) := he
  subst he'
  have hll : l.length ≤ 1000000 := by
    have h1 := dec_le _ (((nums b).take 4096).drop 5) (Nat.le_refl _)
    rw [hl] at h1
    have h2 : (((nums b).take 4096).drop 5).length ≤ 4096 := by simp; omega
    omega
  have HL := Lib.hid hl
  have HS := Lib.hid hS
  have HO := Lib.hid hown
  have HE3 := Lib.hid (HE2.out.trans hext)
  clear he hown hext hl hS
  go_wp2_with (go_at_call 7; fail)
  refine (rdecode_any _ b (by omega)).mono ?_
  rintro e w4 ⟨A2, c2, he, hown, hext⟩
  rw [HS.out, HL.out] at he
  rw [HL.out] at hown
  have he' : e = .returned (.tuple #[.agg #[.int .i64 a, .int .i64 b_, .int .i64 c_, .int .i64 d, .bool f, .int .u64 0], .slice A2 l.length c2]) := he
  subst he'
  have E0 : Ext [] w3 (w3.alloc (.cells #[.int .i64 a, .int .i64 b_, .int .i64 c_, .int .i64 d, .bool f, .int .u64 0] 25)) := (Ext.refl _ _).alloc _
  have hst : DB w w4 l A A2 c c2 [.int .i64 a, .int .i64 b_, .int .i64 c_, .int .i64 d, .bool f, .int .u64 0] w3.heap.size w4.heap.size → True := fun _ => trivial
  have O1 := own_more (base' := 0) (own_ext HO.out (E0.trans hext) (by simp)) (Nat.zero_le _)
  have O2 := own_more (base' := 0) hown (Nat.zero_le _)
  have B1 := (Blk.new w3 25 [.int .i64 a, .int .i64 b_, .int .i64 c_, .int .i64 d, .bool f, .int .u64 0]).ext hext (by simp)
  have B2 := Blk.new w4 30 [.int .i64 a, .int .i64 b_, .int .i64 c_, .int .i64 d, .bool f, .int .u64 0]
  have E4 : Ext [] w4 (w4.alloc (.cells #[.int .i64 a, .int .i64 b_, .int .i64 c_, .int .i64 d, .bool f, .int .u64 0] 30)) := (Ext.refl _ _).alloc _
  have hdb : DB w (w4.alloc (.cells #[.int .i64 a, .int .i64 b_, .int .i64 c_, .int .i64 d, .bool f, .int .u64 0] 30)).drew l A A2 c c2 [.int .i64 a, .int .i64 b_, .int .i64 c_, .int .i64 d, .bool f, .int .u64 0] w3.heap.size w4.heap.size :=
    DB.go (w1 := w4.alloc (.cells #[.int .i64 a, .int .i64 b_, .int .i64 c_, .int .i64 d, .bool f, .int .u64 0] 30)) ⟨own_ext O1 E4 (by simp), own_ext O2 E4 (by simp), B1.ext E4 (by simp), B2, HE3.out.trans ((E0.trans hext).trans E4)⟩ ((Ext.refl _ _).drew)
  have HB := Lib.hid hdb
  clear he hown hext E0 hst O1 O2 B1 B2 E4 hdb
  have hq := eql30 a b_ c_ d f
  have hgd := guard30
  go_wp2
  go_region_held3 (fun w' => w'.cell? ⟨w3.heap.size, 0, none⟩ = some (.int .i64 a) ∧ w'.cell? ⟨w3.heap.size, 1, none⟩ = some (.int .i64 b_) ∧ w'.cell? ⟨w3.heap.size, 2, none⟩ = some (.int .i64 c_) ∧ w'.cell? ⟨w3.heap.size, 3, none⟩ = some (.int .i64 d) ∧ w'.cell? ⟨w3.heap.size, 4, none⟩ = some (.bool f) ∧ w'.cell? ⟨w3.heap.size, 5, none⟩ = some (.int .u64 0) ∧ w'.cell? ⟨w4.heap.size, 0, none⟩ = some (.int .i64 a) ∧ w'.cell? ⟨w4.heap.size, 1, none⟩ = some (.int .i64 b_) ∧ w'.cell? ⟨w4.heap.size, 2, none⟩ = some (.int .i64 c_) ∧ w'.cell? ⟨w4.heap.size, 3, none⟩ = some (.int .i64 d) ∧ w'.cell? ⟨w4.heap.size, 4, none⟩ = some (.bool f) ∧ w'.cell? ⟨w4.heap.size, 5, none⟩ = some (.int .u64 0))
    (first | exact ⟨HB.out.b1.cell (k := 0) rfl, HB.out.b1.cell (k := 1) rfl, HB.out.b1.cell (k := 2) rfl, HB.out.b1.cell (k := 3) rfl, HB.out.b1.cell (k := 4) rfl, HB.out.b1.cell (k := 5) rfl, HB.out.b2.cell (k := 0) rfl, HB.out.b2.cell (k := 1) rfl, HB.out.b2.cell (k := 2) rfl, HB.out.b2.cell (k := 3) rfl, HB.out.b2.cell (k := 4) rfl, HB.out.b2.cell (k := 5) rfl⟩ | go_keep)
    (first
      | (go_at_call 8; refine (setup_any a b_ c_ d f 0 _).mono ?_; rintro e w' ⟨rfl, hu⟩; replace HB := Lib.hid (HB.out.go hu); clear hu)
      | (go_at_call 9; refine (steps_any _ 0 0 A A2 c c2 l HB.out.o1 HB.out.o2 hll).mono ?_; rintro e w' ⟨rfl, hu⟩; replace HB := Lib.hid (HB.out.go hu); clear hu))
  all_goals
    go_wp2
    go_ret
    exact ⟨rfl, HB.out.ext⟩

theorem decodes_any (b : ByteArray) (w : World) (hr : b.size ≤ 140737488351232) : Calls Try.prog 3 #[.string b] w fun e w' => e = .returned (.bool true) ∧ Ext [] w w' := by
  by_cases h : b.size ≤ 20000
  · exact decodes_small b w h
  · exact decodes_big b w (by omega) hr

end Go.Proofs.Ythedllndcibkcaa
