/- asks: a call that changes nothing, of both pools. -/
import Derived.Test.YtkdmilchklmefaaMoves
import Derived.Test.YtkdmilchklmefaaRPages
import Derived.Test.YtkdmilchklmefaaRDirty
import Derived.Test.YtkdmilchklmefaaSame
namespace Go.Proofs.Ytkdmilchklmefaa
open Go.RowKit
set_option linter.unusedVariables false
set_option linter.unusedSimpArgs false

set_option maxHeartbeats 2000000 in
theorem asks_9 (w : World) (b g b2 g2 cap h : Nat) (tl : List Value) (F : List (Fr ByteArray)) (hp : sPool w b g F h) (hq : RPool w b2 g2 cap tl F h) (id : Int) :
    Calls Try.prog 25 #[.pointer (some ⟨b, 0, none⟩), .pointer (some ⟨b2, 0, none⟩), .int .i64 9, .int .i64 id] w fun e w' => e = .returned (.bool true) ∧ Ext [] w w' := by
  have HP := Lib.hid hp
  have HQ := Lib.hid hq
  clear hp hq
  go_enter Try.func25, Try.ntmps25
  go_wp2_with (first
    | (go_at_call 14; refine (srec_any _ b g h F HP.out id).mono ?_; rintro e w' ⟨rfl, rfl⟩)
    | (go_at_call 44; refine (rrec_any _ b2 g2 cap h tl F HQ.out id).mono ?_; rintro e w' ⟨rfl, rfl⟩))
  go_ret
  exact ⟨by simp, Ext.refl _ _⟩

set_option maxHeartbeats 2000000 in
theorem asks_12 (w : World) (b g b2 g2 cap h : Nat) (tl : List Value) (F : List (Fr ByteArray)) (hp : sPool w b g F h) (hq : RPool w b2 g2 cap tl F h) (id : Int) :
    Calls Try.prog 25 #[.pointer (some ⟨b, 0, none⟩), .pointer (some ⟨b2, 0, none⟩), .int .i64 12, .int .i64 id] w fun e w' => e = .returned (.bool true) ∧ Ext [] w w' := by
  have HP := Lib.hid hp
  have HQ := Lib.hid hq
  clear hp hq
  go_enter Try.func25, Try.ntmps25
  go_wp2_with (first
    | (go_at_call 35; refine (sfull_any _ b g h F HP.out).mono ?_; rintro e w' ⟨rfl, rfl⟩)
    | (go_at_call 47; refine (rfull_any _ b2 g2 cap h tl F HQ.out).mono ?_; rintro e w' ⟨rfl, rfl⟩))
  go_ret
  exact ⟨by simp, Ext.refl _ _⟩

set_option maxHeartbeats 2000000 in
theorem asks_11 (w : World) (b g b2 g2 cap h : Nat) (tl : List Value) (F : List (Fr ByteArray)) (hp : sPool w b g F h) (hq : RPool w b2 g2 cap tl F h) (id : Int) :
    Calls Try.prog 25 #[.pointer (some ⟨b, 0, none⟩), .pointer (some ⟨b2, 0, none⟩), .int .i64 11, .int .i64 id] w fun e w' => e = .returned (.bool true) ∧ Ext [] w w' := by
  have HP := Lib.hid hp
  have HQ := Lib.hid hq
  clear hp hq
  go_enter Try.func25, Try.ntmps25
  go_wp2_with (go_at_call 20; fail)
  refine (spages_any _ b g h F HP.out).mono ?_
  rintro e w1 ⟨A1, c1, rfl, O1, E1⟩
  have HO1 := Lib.hid O1
  have HE1 := Lib.hid E1
  clear O1 E1
  go_wp2_with (go_at_call 46; fail)
  refine (rpages_any _ b2 g2 cap h tl F (HQ.out.same HE1.out)).mono ?_
  rintro e w2 ⟨A2, c2, rfl, O2, E2⟩
  have HO1' := Lib.hid (own_ext HO1.out E2 (by simp))
  have HO2 := Lib.hid O2
  have HE2 := Lib.hid (HE1.out.trans E2)
  clear O2 E2 HO1
  have hl := pgN_length F 32
  go_wp2_with (go_at_call 30; fail)
  refine (ints_same _ _ _ A1 A2 c1 c2 (pgN F 32) HO1'.out HO2.out (by omega)).mono ?_
  rintro e w3 ⟨rfl, E3⟩
  have HE3 := Lib.hid (HE2.out.trans E3)
  clear E3 HO1' HO2
  go_wp2
  go_ret
  exact ⟨rfl, HE3.out⟩

set_option maxHeartbeats 2000000 in
theorem asks_10 (w : World) (b g b2 g2 cap h : Nat) (tl : List Value) (F : List (Fr ByteArray)) (hp : sPool w b g F h) (hq : RPool w b2 g2 cap tl F h) (id : Int) :
    Calls Try.prog 25 #[.pointer (some ⟨b, 0, none⟩), .pointer (some ⟨b2, 0, none⟩), .int .i64 10, .int .i64 id] w fun e w' => e = .returned (.bool true) ∧ Ext [] w w' := by
  have HP := Lib.hid hp
  have HQ := Lib.hid hq
  clear hp hq
  go_enter Try.func25, Try.ntmps25
  go_wp2_with (go_at_call 15; fail)
  refine (sdirty_any _ b g h F HP.out).mono ?_
  rintro e w1 ⟨A1, c1, rfl, O1, E1⟩
  have HO1 := Lib.hid O1
  have HE1 := Lib.hid E1
  clear O1 E1
  go_wp2_with (go_at_call 45; fail)
  refine (rdirty_any _ b2 g2 cap h tl F (HQ.out.same HE1.out)).mono ?_
  rintro e w2 ⟨A2, c2, rfl, O2, E2⟩
  rw [drL_ids] at O2 ⊢
  have HO1' := Lib.hid (own_ext HO1.out E2 (by simp))
  have HO2 := Lib.hid O2
  have HE2 := Lib.hid (HE1.out.trans E2)
  clear O2 E2 HO1
  have hl := pgN_length F 32
  have hd := drL_length F (pgN F 32)
  go_wp2_with (go_at_call 32; fail)
  refine (rows_same _ _ _ A1 A2 c1 c2 (drL F (pgN F 32)) HO1'.out HO2.out (by omega)).mono ?_
  rintro e w3 ⟨rfl, E3⟩
  have HE3 := Lib.hid (HE2.out.trans E3)
  clear E3 HO1' HO2
  go_wp2
  go_ret
  exact ⟨rfl, HE3.out⟩

set_option maxHeartbeats 2000000 in
theorem asks_else (w : World) (b g b2 g2 cap h : Nat) (tl : List Value) (F : List (Fr ByteArray)) (hp : sPool w b g F h) (hq : RPool w b2 g2 cap tl F h) (id : Int) (k : Int) (h9 : ¬ k = 9) (h10 : ¬ k = 10) (h11 : ¬ k = 11) (h12 : ¬ k = 12) :
    Calls Try.prog 25 #[.pointer (some ⟨b, 0, none⟩), .pointer (some ⟨b2, 0, none⟩), .int .i64 k, .int .i64 id] w fun e w' => e = .returned (.bool true) ∧ Ext [] w w' := by
  have HP := Lib.hid hp
  have HQ := Lib.hid hq
  clear hp hq
  go_enter Try.func25, Try.ntmps25
  go_wp2
  go_ret
  exact ⟨rfl, Ext.refl _ _⟩

theorem asks_any (w : World) (b g b2 g2 cap h : Nat) (tl : List Value) (F : List (Fr ByteArray)) (hp : sPool w b g F h) (hq : RPool w b2 g2 cap tl F h) (k id : Int) :
    Calls Try.prog 25 #[.pointer (some ⟨b, 0, none⟩), .pointer (some ⟨b2, 0, none⟩), .int .i64 k, .int .i64 id] w fun e w' => e = .returned (.bool true) ∧ Ext [] w w' := by
  by_cases h9 : k = 9
  · subst h9; exact asks_9 w b g b2 g2 cap h tl F hp hq id
  by_cases h10 : k = 10
  · subst h10; exact asks_10 w b g b2 g2 cap h tl F hp hq id
  by_cases h11 : k = 11
  · subst h11; exact asks_11 w b g b2 g2 cap h tl F hp hq id
  by_cases h12 : k = 12
  · subst h12; exact asks_12 w b g b2 g2 cap h tl F hp hq id
  exact asks_else w b g b2 g2 cap h tl F hp hq id k h9 h10 h11 h12

end Go.Proofs.Ytkdmilchklmefaa
