/- OwnerPlays: each answer is the document's, and so are all places at the end. -/
import Derived.Test.YtkckkbajaaklnaaScript
namespace Go.Proofs.Ytkckkbajaaklnaa
open Go.RowKit
set_option linter.unusedVariables false
set_option linter.unusedSimpArgs false

/-- Both directories stand alike, in memory of the call's own. -/
structure Both (w0 : World) (b g b2 g2 : Nat) (w : World) (L : List (Int × Int)) : Prop where
  d1 : Dir w 51 57 b g L
  d2 : Dir w 61 70 b2 g2 L
  nodes : Nodes L
  ext : Ext [] w0 w
  new : w0.heap.size ≤ g ∧ w0.heap.size ≤ g2

theorem Both.does {w0 w : World} {b g b2 g2 : Nat} {L : List (Int × Int)} (h : Both w0 b g b2 g2 w L) (k p a bb : Int) :
    Calls Try.prog 16 #[.pointer (some ⟨b, 0, none⟩), .pointer (some ⟨b2, 0, none⟩), .agg #[.int .i64 k, .int .i64 p, .int .i64 a, .int .i64 bb]] w fun e w' =>
      e = .returned (.bool true) ∧ Both w0 b g b2 g2 w' (doesL L k p a bb) :=
  (does_any w b g b2 g2 L h.d1 h.d2 h.nodes k p a bb).mono fun e w' ⟨he, x1, x2, x3⟩ => ⟨he, x1, x2, h.nodes.does _ _ _ _, h.ext.new x3 (by have := h.new; simp; omega), h.new⟩

set_option maxHeartbeats 2000000 in
theorem plays_many (pages : Int) (A : Option Addr) (n c : Nat) (w : World) (hn : 1000 < n) :
    Calls Try.prog 4 #[.int .i64 pages, .slice A n c] w fun e w' => e = .returned (.bool true) ∧ Ext [] w w' := by
  have hn2 : (1000 : Int) < (n : Int) := by omega
  go_enter Try.func4, Try.ntmps4
  go_wp2_with (go_at_call 8; fail)
  refine (awake_any _).mono ?_
  rintro e w1 ⟨rfl, E1⟩
  have HE1 := Lib.hid E1
  clear E1
  go_wp2_with (go_at_call 8; fail)
  refine (awake_any _).mono ?_
  rintro e w2 ⟨rfl, E2⟩
  have HE2 := Lib.hid (HE1.out.trans E2)
  clear E2
  go_wp2
  go_ret
  exact ⟨rfl, HE2.out⟩

set_option maxHeartbeats 4000000 in
theorem plays_few (pages : Int) (A : Option Addr) (c : Nat) (l : List Op) (w : World) (hn : l.length ≤ 1000) (hO : Ops w A l) :
    Calls Try.prog 4 #[.int .i64 pages, .slice A l.length c] w fun e w' => e = .returned (.bool true) ∧ Ext [] w w' := by
  have hn2 : ¬ (1000 : Int) < (l.length : Int) := by omega
  have HO := Lib.hid hO
  clear hO
  go_enter Try.func4, Try.ntmps4
  go_wp2_with (go_at_call 8; fail)
  refine (awake_any _).mono ?_
  rintro e w1 ⟨rfl, E1⟩
  have HE1 := Lib.hid E1
  have hs1 := E1.size
  clear E1
  go_wp2_with (go_at_call 9; fail)
  refine (new_any pages _).mono ?_
  rintro e w2 ⟨rfl, D2, E2⟩
  have hs2 := E2.size
  have HD2 := Lib.hid D2
  have HE2 := Lib.hid E2
  clear D2 E2
  go_wp2_with (go_at_call 15; fail)
  refine (rnew_any pages _).mono ?_
  rintro e w3 ⟨rfl, D3, E3⟩
  have hB : Both w (w1.heap.size + 1) w1.heap.size (w2.heap.size + 1) w2.heap.size w3 (List.replicate (many pages).toNat (0, 0)) :=
    ⟨HD2.out.ext E3 (by simp) (by simp), D3, Nodes.home _, (HE1.out.trans HE2.out).trans E3, by omega, by omega⟩
  have HB := Lib.hid hB
  clear D3 E3 hB
  generalize w1.heap.size + 1 = b at *
  generalize w1.heap.size = g at *
  generalize w2.heap.size + 1 = b2 at *
  generalize w2.heap.size = g2 at *
  generalize List.replicate (many pages).toNat ((0 : Int), (0 : Int)) = L0 at *
  clear HD2 HE2 HE1
  go_wp2
  go_loopw [25] (fun i wr => ∃ j : Nat, j ≤ l.length ∧ i = .int .i64 j ∧ Both w b g b2 g2 wr (playL L0 (l.take j))) (fun i _ => l.length - (intOf i).toNat)
  case atStart => exact ⟨0, Nat.zero_le _, rfl, HB.out⟩
  case round =>
    obtain ⟨j, hj, rfl, hb⟩ := hrel
    replace HB := Lib.hid hb
    clear hb
    by_cases hlt : j < l.length
    · obtain ⟨q, hq⟩ : ∃ q, l[j]? = some q := ⟨l[j], by simp [hlt]⟩
      obtain ⟨ab, off, rfl, hab, c0, c1, c2, c3⟩ := (HO.out.ext HB.out.ext).at_ hq
      have HP : Hid (playL L0 (l.take (j + 1)) = doesL (playL L0 (l.take j)) q.k q.p q.a q.b) := by
        unfold Hid
        rw [List.take_add_one, hq, Option.toList_some, playL_snoc]
      have b0 : (0 : Int) ≤ (j : Int) := by omega
      have b1 : (j : Int) < (l.length : Int) := by omega
      clear hq
      go_wp2_with (go_at_call 16; fail)
      refine (HB.out.does q.k q.p q.a q.b).mono ?_
      rintro e w4 ⟨rfl, hb⟩
      replace HB := Lib.hid hb
      clear hb c0 c1 c2 c3
      go_wp2
      go_roundw
      case rel => exact ⟨j + 1, by omega, by go_num, by rw [HP.out]; exact HB.out⟩
      case measure => simp [intOf]; omega
    · have e : j = l.length := by omega
      subst e
      go_wp2
      generalize playL L0 (l.take l.length) = L1 at *
      go_loopw [8] (fun i wr => ∃ j : Nat, j ≤ 34 ∧ i = .int .i64 ((j : Int) - 1) ∧ Both w b g b2 g2 wr L1) (fun i _ => 34 - (intOf i + 1).toNat)
      case atStart => exact ⟨0, by omega, rfl, HB.out⟩
      case round =>
        obtain ⟨j, hj, rfl, hb⟩ := hrel
        replace HB := Lib.hid hb
        clear hb
        by_cases hlt : j < 34
        · have t1 : ((j : Int) - 1 ≤ 32) := by omega
          have t2 : IntKind.i64.wrap ((j : Int) - 1 + 1) = (j : Int) := by rw [IntWalk.i64_in _ (by omega)]; omega
          go_wp2_with (go_at_call 16; fail)
          refine (HB.out.does 8 ((j : Int) - 1) 0 0).mono ?_
          rintro e w4 ⟨rfl, hb⟩
          replace HB := Lib.hid hb
          clear hb
          go_wp2
          go_roundw
          case rel => exact ⟨j + 1, by omega, by go_num, HB.out⟩
          case measure => simp [intOf]; omega
        · have t1 : ¬ ((j : Int) - 1 ≤ 32) := by omega
          go_wp2
          go_ret
          exact ⟨rfl, HB.out.ext⟩

end Go.Proofs.Ytkckkbajaaklnaa
