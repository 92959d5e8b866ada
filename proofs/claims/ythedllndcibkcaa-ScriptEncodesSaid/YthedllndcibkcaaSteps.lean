/- setup, step, steps: two lists of steps, alike. -/
import Derived.Test.YthedllndcibkcaaRDecode
namespace Go.Proofs.Ythedllndcibkcaa
open Go.RowKit
set_option linter.unusedVariables false
set_option linter.unusedSimpArgs false

set_option maxHeartbeats 1000000 in
theorem step_any (sk sn st_ sp ss so sc sm : Int) (sv : ByteArray) (w : World) : Calls Try.prog 10 #[.agg #[.int .i64 sk, .int .i64 sn, .int .i64 st_, .int .i64 sp, .int .i64 ss, .int .i64 so, .int .i64 sc, .int .i64 sm, .string sv]] w fun e w' => e = .returned (.agg #[.int .i64 sk, .int .i64 sn, .int .i64 st_, .int .i64 sp, .int .i64 ss, .int .i64 so, .int .i64 sc, .int .i64 sm, .string sv]) ∧ Ext [] w w' := by
  go_enter Try.func10, Try.ntmps10
  go_wp2
  refine bodyPost_ret (v := .agg #[.int .i64 sk, .int .i64 sn, .int .i64 st_, .int .i64 sp, .int .i64 ss, .int .i64 so, .int .i64 sc, .int .i64 sm, .string sv]) (by simp [results, Try.results10, go_sem]) rfl ?_
  exact ⟨rfl, ((Ext.refl _ _).alloc _).alloc _⟩

set_option maxHeartbeats 1000000 in
theorem setup_any (a b c d : Int) (f : Bool) (g : Int) (w : World) : Calls Try.prog 8 #[.agg #[.int .i64 a, .int .i64 b, .int .i64 c, .int .i64 d, .bool f, .int .u64 g]] w fun e w' => e = .returned (.agg #[.int .i64 a, .int .i64 b, .int .i64 c, .int .i64 d, .bool f, .int .u64 g]) ∧ Ext [] w w' := by
  go_enter Try.func8, Try.ntmps8
  go_wp2
  refine bodyPost_ret (v := .agg #[.int .i64 a, .int .i64 b, .int .i64 c, .int .i64 d, .bool f, .int .u64 g]) (by simp [results, Try.results8, go_sem]) rfl ?_
  exact ⟨rfl, ((Ext.refl _ _).alloc _).alloc _⟩

theorem guard39 (op : BinOp) (x y : Operand) (xs ys : Array Value) (w : World) : (eqGuard op 39 x y (.agg xs) (.agg ys)).run Try.prog w = .ok () w := run_eqGuard_agg w op 39 x y xs ys (by kernel_rfl)
theorem neq39 (sk sn st_ sp ss so sc sm : Int) (sv : ByteArray) (w : World) : (binOp .neq 39 (.agg #[.int .i64 sk, .int .i64 sn, .int .i64 st_, .int .i64 sp, .int .i64 ss, .int .i64 so, .int .i64 sc, .int .i64 sm, .string sv]) (.agg #[.int .i64 sk, .int .i64 sn, .int .i64 st_, .int .i64 sp, .int .i64 ss, .int .i64 so, .int .i64 sc, .int .i64 sm, .string sv])).run Try.prog w = .ok (.bool false) w := by
  have u3 := Try.underlying3
  have u9 := Try.underlying9
  have a3 := Try.isAgg3
  have z3 := Try.sizeOf3
  have a9 := Try.isAgg9
  have z9 := Try.sizeOf9
  have hS : Try.prog.underlying 39 = some (.struct (Try.prog.fieldsOf 39)) := by kernel_rfl
  have hp : Try.prog.stoodInHeld 39 = false := by kernel_rfl
  rw [run_neq_struct, show (10000 : Nat) = 9999 + 1 from rfl, run_equalIn_agg w 9999 39 _ _ hS hp]
  simp only [Program.fieldsOf, Try.underlying39]
  go_simp

theorem steps_cells {w : World} {base base2 n c c2 g1 g2 j : Nat} {l : List St} {sk sn st_ sp ss so sc sm : Int} {sv : ByteArray} (h1 : w.ownsRow base 38 9 (.slice (some ⟨g1, 0, none⟩) n c) n (encs St.cells l)) (h2 : w.ownsRow base2 39 9 (.slice (some ⟨g2, 0, none⟩) n c2) n (encs St.cells l)) (hx : l[j]? = some ⟨sk, sn, st_, sp, ss, so, sc, sm, sv⟩) :
    ∀ w', Ext [] w w' → w'.cell? ⟨g1, j * 9, none⟩ = some (.int .i64 sk) ∧ w'.cell? ⟨g1, j * 9 + 1, none⟩ = some (.int .i64 sn) ∧ w'.cell? ⟨g1, j * 9 + 2, none⟩ = some (.int .i64 st_) ∧ w'.cell? ⟨g1, j * 9 + 3, none⟩ = some (.int .i64 sp) ∧ w'.cell? ⟨g1, j * 9 + 4, none⟩ = some (.int .i64 ss) ∧ w'.cell? ⟨g1, j * 9 + 5, none⟩ = some (.int .i64 so) ∧ w'.cell? ⟨g1, j * 9 + 6, none⟩ = some (.int .i64 sc) ∧ w'.cell? ⟨g1, j * 9 + 7, none⟩ = some (.int .i64 sm) ∧ w'.cell? ⟨g1, j * 9 + 8, none⟩ = some (.string sv) ∧ w'.cell? ⟨g2, j * 9, none⟩ = some (.int .i64 sk) ∧ w'.cell? ⟨g2, j * 9 + 1, none⟩ = some (.int .i64 sn) ∧ w'.cell? ⟨g2, j * 9 + 2, none⟩ = some (.int .i64 st_) ∧ w'.cell? ⟨g2, j * 9 + 3, none⟩ = some (.int .i64 sp) ∧ w'.cell? ⟨g2, j * 9 + 4, none⟩ = some (.int .i64 ss) ∧ w'.cell? ⟨g2, j * 9 + 5, none⟩ = some (.int .i64 so) ∧ w'.cell? ⟨g2, j * 9 + 6, none⟩ = some (.int .i64 sc) ∧ w'.cell? ⟨g2, j * 9 + 7, none⟩ = some (.int .i64 sm) ∧ w'.cell? ⟨g2, j * 9 + 8, none⟩ = some (.string sv) := fun w' he =>
  ⟨own_cell (own_ext h1 he (by simp)) (encs_get (f := St.cells) St.cells_length hx (show 0 < 9 by omega)), own_cell (own_ext h1 he (by simp)) (encs_get (f := St.cells) St.cells_length hx (show 1 < 9 by omega)), own_cell (own_ext h1 he (by simp)) (encs_get (f := St.cells) St.cells_length hx (show 2 < 9 by omega)), own_cell (own_ext h1 he (by simp)) (encs_get (f := St.cells) St.cells_length hx (show 3 < 9 by omega)), own_cell (own_ext h1 he (by simp)) (encs_get (f := St.cells) St.cells_length hx (show 4 < 9 by omega)), own_cell (own_ext h1 he (by simp)) (encs_get (f := St.cells) St.cells_length hx (show 5 < 9 by omega)), own_cell (own_ext h1 he (by simp)) (encs_get (f := St.cells) St.cells_length hx (show 6 < 9 by omega)), own_cell (own_ext h1 he (by simp)) (encs_get (f := St.cells) St.cells_length hx (show 7 < 9 by omega)), own_cell (own_ext h1 he (by simp)) (encs_get (f := St.cells) St.cells_length hx (show 8 < 9 by omega)), own_cell (own_ext h2 he (by simp)) (encs_get (f := St.cells) St.cells_length hx (show 0 < 9 by omega)), own_cell (own_ext h2 he (by simp)) (encs_get (f := St.cells) St.cells_length hx (show 1 < 9 by omega)), own_cell (own_ext h2 he (by simp)) (encs_get (f := St.cells) St.cells_length hx (show 2 < 9 by omega)), own_cell (own_ext h2 he (by simp)) (encs_get (f := St.cells) St.cells_length hx (show 3 < 9 by omega)), own_cell (own_ext h2 he (by simp)) (encs_get (f := St.cells) St.cells_length hx (show 4 < 9 by omega)), own_cell (own_ext h2 he (by simp)) (encs_get (f := St.cells) St.cells_length hx (show 5 < 9 by omega)), own_cell (own_ext h2 he (by simp)) (encs_get (f := St.cells) St.cells_length hx (show 6 < 9 by omega)), own_cell (own_ext h2 he (by simp)) (encs_get (f := St.cells) St.cells_length hx (show 7 < 9 by omega)), own_cell (own_ext h2 he (by simp)) (encs_get (f := St.cells) St.cells_length hx (show 8 < 9 by omega))⟩

set_option maxRecDepth 100000 in
set_option maxHeartbeats 4000000 in
theorem steps_any (w : World) (base base2 : Nat) (A A2 : Option Addr) (c c2 : Nat) (l : List St) (h1 : w.ownsRow base 38 9 (.slice A l.length c) l.length (encs St.cells l)) (h2 : w.ownsRow base2 39 9 (.slice A2 l.length c2) l.length (encs St.cells l)) (hl : l.length ≤ 1000000) :
    Calls Try.prog 9 #[.slice A l.length c, .slice A2 l.length c2] w fun e w' => e = .returned (.bool true) ∧ Ext [] w w' := by
  have H1 := Lib.hid h1
  have H2 := Lib.hid h2
  clear h1 h2
  go_enter Try.func9, Try.ntmps9
  go_wp2
  go_loopw [13] (fun i wr => ∃ j : Nat, j ≤ l.length ∧ i = .int .i64 j ∧ Ext [] w wr) (fun i _ => l.length - (intOf i).toNat)
  case atStart => exact ⟨0, Nat.zero_le _, rfl, Ext.refl _ _⟩
  case round =>
    obtain ⟨j, hj, rfl, hext⟩ := hrel
    have HE := Lib.hid hext
    clear hext
    by_cases hlt : j < l.length
    · obtain ⟨x, hx⟩ : ∃ x, l[j]? = some x := ⟨l[j], by simp [hlt]⟩
      obtain ⟨g1, rfl, _, _⟩ := own_some H1.out (by omega)
      obtain ⟨g2, rfl, _, _⟩ := own_some H2.out (by omega)
      obtain ⟨sk, sn, st_, sp, ss, so, sc, sm, sv⟩ := x
      have HC := Lib.hid (steps_cells H1.out H2.out hx)
      have hb0 := HE.out.drew
      have hnq := neq39 sk sn st_ sp ss so sc sm sv
      have hgd := guard39
      have HB := Lib.hid hb0
      clear hb0 hx
      go_wp2
      go_region_held3 (fun w' => w'.cell? ⟨g1, j * 9, none⟩ = some (.int .i64 sk) ∧ w'.cell? ⟨g1, j * 9 + 1, none⟩ = some (.int .i64 sn) ∧ w'.cell? ⟨g1, j * 9 + 2, none⟩ = some (.int .i64 st_) ∧ w'.cell? ⟨g1, j * 9 + 3, none⟩ = some (.int .i64 sp) ∧ w'.cell? ⟨g1, j * 9 + 4, none⟩ = some (.int .i64 ss) ∧ w'.cell? ⟨g1, j * 9 + 5, none⟩ = some (.int .i64 so) ∧ w'.cell? ⟨g1, j * 9 + 6, none⟩ = some (.int .i64 sc) ∧ w'.cell? ⟨g1, j * 9 + 7, none⟩ = some (.int .i64 sm) ∧ w'.cell? ⟨g1, j * 9 + 8, none⟩ = some (.string sv) ∧ w'.cell? ⟨g2, j * 9, none⟩ = some (.int .i64 sk) ∧ w'.cell? ⟨g2, j * 9 + 1, none⟩ = some (.int .i64 sn) ∧ w'.cell? ⟨g2, j * 9 + 2, none⟩ = some (.int .i64 st_) ∧ w'.cell? ⟨g2, j * 9 + 3, none⟩ = some (.int .i64 sp) ∧ w'.cell? ⟨g2, j * 9 + 4, none⟩ = some (.int .i64 ss) ∧ w'.cell? ⟨g2, j * 9 + 5, none⟩ = some (.int .i64 so) ∧ w'.cell? ⟨g2, j * 9 + 6, none⟩ = some (.int .i64 sc) ∧ w'.cell? ⟨g2, j * 9 + 7, none⟩ = some (.int .i64 sm) ∧ w'.cell? ⟨g2, j * 9 + 8, none⟩ = some (.string sv))
        (first | exact HC.out _ HB.out | go_keep)
        (first | (go_at_call 10; refine (step_any sk sn st_ sp ss so sc sm sv _).mono ?_; rintro e w' ⟨rfl, hu⟩; replace HB := Lib.hid (HB.out.trans hu); clear hu))
      all_goals
        go_wp2
        go_roundw
        case rel => exact ⟨j + 1, by omega, by go_num, HB.out⟩
        case measure => simp [intOf]; omega
    · have e : j = l.length := by omega
      subst e
      go_wp2
      go_ret
      exact ⟨rfl, HE.out⟩

end Go.Proofs.Ythedllndcibkcaa
