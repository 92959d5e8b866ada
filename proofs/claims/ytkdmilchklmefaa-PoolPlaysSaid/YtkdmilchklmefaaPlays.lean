/- PoolPlays. -/
import Derived.Test.YtkdmilchklmefaaAsks
import Derived.Test.YtkdmilchklmefaaRNew
namespace Go.Proofs.Ytkdmilchklmefaa
open Go.RowKit
set_option linter.unusedVariables false
set_option linter.unusedSimpArgs false

/-- Both pools, in the world they began in. -/
structure PL (w : World) (b g b2 g2 cap : Nat) (tl : List Value) (wr : World) (F : List (Fr ByteArray)) (h : Nat) (K : Int) : Prop where
  p : sPool wr b g F h
  q : RPool wr b2 g2 cap tl F h
  few : Few K F
  ext : Ext [] w wr
  new : w.heap.size ≤ b ∧ w.heap.size ≤ g ∧ w.heap.size ≤ b2 ∧ w.heap.size ≤ g2
theorem PL.same {w wr w' : World} {b g b2 g2 cap h : Nat} {tl : List Value} {F : List (Fr ByteArray)} {K : Int} (a : PL w b g b2 g2 cap tl wr F h K) (e : Ext [] wr w') : PL w b g b2 g2 cap tl w' F h K :=
  ⟨a.p.same e, a.q.same e, a.few, a.ext.trans e, a.new⟩

set_option maxHeartbeats 2000000 in
theorem pplays_many (frames : Int) (A : Option Addr) (n c : Nat) (w : World) (hn : 300 < n) :
    Calls Try.prog 6 #[.int .i64 frames, .slice A n c] w fun e w' => e = .returned (.bool true) ∧ Ext [] w w' := by
  have hn2 : (300 : Int) < (n : Int) := by omega
  go_enter Try.func6, Try.ntmps6
  go_wp2_with (go_at_call 9; fail)
  refine (awake_any _).mono ?_
  rintro e w1 ⟨rfl, E1⟩
  have HE1 := Lib.hid E1
  clear E1
  go_wp2_with (go_at_call 9; fail)
  refine (awake_any _).mono ?_
  rintro e w2 ⟨rfl, E2⟩
  have HE2 := Lib.hid (HE1.out.trans E2)
  clear E2
  go_wp2
  go_ret
  exact ⟨rfl, HE2.out⟩

set_option maxRecDepth 100000 in
set_option maxHeartbeats 8000000 in
theorem pplays_few (frames : Int) (A : Option Addr) (c : Nat) (l : List Op) (w : World) (hn : l.length ≤ 300) (hO : Ops w A l) :
    Calls Try.prog 6 #[.int .i64 frames, .slice A l.length c] w fun e w' => e = .returned (.bool true) ∧ Ext [] w w' := by
  have hn2 : ¬ (300 : Int) < (l.length : Int) := by omega
  have HO := Lib.hid hO
  clear hO
  go_enter Try.func6, Try.ntmps6
  go_wp2_with (go_at_call 9; fail)
  refine (awake_any _).mono ?_
  rintro e w0 ⟨rfl, E0⟩
  have HE0 := Lib.hid E0
  clear E0
  go_wp2_with (go_at_call 10; fail)
  refine (snew_any frames w0).mono ?_
  rintro e w1 ⟨rfl, D1, E1⟩
  have HD1 := Lib.hid D1
  have HE1 := Lib.hid E1
  clear D1 E1
  go_wp2_with (go_at_call 23; fail)
  refine (rnew_any frames w1).mono ?_
  rintro e w2 ⟨rfl, g2, cap, tl, D2, E2, hg2⟩
  have hPL : ∃ b g b2, b = w0.heap.size + 1 ∧ b2 = w1.heap.size ∧ PL w b g b2 g2 cap tl w2 (List.replicate (many frames).toNat szero) 0 0 := by
    have s0 := HE0.out.size
    have s1 := HE1.out.size
    exact ⟨w0.heap.size + 1, w0.heap.size, w1.heap.size, rfl, rfl, HD1.out.same E2, D2, Few.rep _ _ rfl (by omega), (HE0.out.trans HE1.out).trans E2, by omega, by omega, by omega, by omega⟩
  clear HD1 HE1 D2 E2 HE0
  obtain ⟨b, g, b2, hb, hb2, hPL⟩ := hPL
  rw [← hb, ← hb2]
  generalize List.replicate (many frames).toNat szero = F0 at *
  have HA := Lib.hid hPL
  clear hPL hb hb2 hg2
  go_wp2
  go_loopw [26] (fun i wr => ∃ j : Nat, j ≤ l.length ∧ i = .int .i64 j ∧ ∃ F h, PL w b g b2 g2 cap tl wr F h j) (fun i _ => l.length - (intOf i).toNat)
  case atStart => exact ⟨0, Nat.zero_le _, rfl, F0, 0, HA.out⟩
  case round =>
    clear HA
    obtain ⟨j, hj, rfl, F, h, hA⟩ := hrel
    by_cases hlt : j < l.length
    · obtain ⟨o, hx⟩ : ∃ o, l[j]? = some o := ⟨l[j], by simp [hlt]⟩
      obtain ⟨ab, off, rfl, hab, c0, c1, c2, c3⟩ := (HO.out.ext hA.ext).at_ hx
      obtain ⟨ok, op, ox, on⟩ := o
      simp only [] at c0 c1 c2 c3
      have HA := Lib.hid hA
      have HR := Lib.hid (show ∃ z, wr.heap.size = z from ⟨_, rfl⟩)
      have hbox : ∀ w', Ext [b, g, b2, g2] (wr.alloc (.cells #[.int .i64 ok, .int .i64 op, .string ox, .int .u64 on] 53)) w' → Blk w' wr.heap.size 53 [.int .i64 ok, .int .i64 op, .string ox, .int .u64 on] := by
        intro w' he
        refine (Blk.new wr 53 [.int .i64 ok, .int .i64 op, .string ox, .int .u64 on]).ext he ?_
        have h1 := hA.p.hd.lt
        have h2 := hA.p.hc.lt
        have h3 := hA.q.hd.lt
        have h4 := hA.q.hc.lt
        simp
        omega
      have HBX := Lib.hid hbox
      clear hx hA hbox
      go_wp2_with (go_at_call 24; fail)
      have h1 := HA.out.same ((Ext.refl _ _).alloc (.cells #[.int .i64 ok, .int .i64 op, .string ox, .int .u64 on] 53))
      refine (moves_any _ b g b2 g2 cap h tl F h1.p h1.q (h1.few.mono (by omega)) ok op ox on).mono ?_
      rintro e w3 ⟨rfl, P3, Q3, E3⟩
      have h3 : PL w b g b2 g2 cap tl w3 (step ByteArray.empty ox F h ok op on).2.1 (step ByteArray.empty ox F h ok op on).2.2 ((j : Int) + 1) :=
        ⟨P3, Q3, step_few _ _ _ _ _ _ _ h1.few (by omega), h1.ext.new E3 (by have := h1.new; intro x hx; simp at hx; omega), h1.new⟩
      have k0 := (HBX.out w3 E3).cell (k := 0) rfl
      have k1 := (HBX.out w3 E3).cell (k := 1) rfl
      generalize (step ByteArray.empty ox F h ok op on).2.1 = F3 at *
      generalize (step ByteArray.empty ox F h ok op on).2.2 = h3' at *
      have HA3 := Lib.hid h3
      clear P3 Q3 E3 h3 h1 HA HBX c0 c1 c2 c3
      go_wp2_with (go_at_call 25; fail)
      refine (asks_any _ b g b2 g2 cap h3' tl F3 HA3.out.p HA3.out.q ok op).mono ?_
      rintro e w4 ⟨rfl, E4⟩
      have HA4 := Lib.hid (HA3.out.same E4)
      clear E4
      go_wp2
      go_roundw
      case rel => exact ⟨j + 1, by omega, by go_num, _, _, HA4.out⟩
      case measure => simp [intOf]; omega
    · have HA := Lib.hid hA
      clear hA
      go_wp2
      go_loopw [9] (fun i wr => ∃ m : Nat, m ≤ 3 ∧ i = .int .i64 (10 + (m : Int)) ∧ PL w b g b2 g2 cap tl wr F h j) (fun i _ => 13 - (intOf i).toNat)
      case atStart => exact ⟨0, by omega, rfl, HA.out⟩
      case round =>
        clear HA
        obtain ⟨m, hm, rfl, hA⟩ := hrel
        have HA := Lib.hid hA
        clear hA
        by_cases hlt2 : m < 3
        · have hle : (10 + (m : Int)) ≤ 12 := by omega
          go_wp2_with (go_at_call 25; fail)
          refine (asks_any _ b g b2 g2 cap h tl F HA.out.p HA.out.q (10 + (m : Int)) 0).mono ?_
          rintro e w4 ⟨rfl, E4⟩
          have HA4 := Lib.hid (HA.out.same E4)
          clear E4
          go_wp2
          go_roundw
          case rel => exact ⟨m + 1, by omega, by go_num, HA4.out⟩
          case measure => simp [intOf]; omega
        · have hle : ¬ (10 + (m : Int)) ≤ 12 := by omega
          go_wp2
          go_ret
          exact ⟨rfl, HA.out.ext⟩

end Go.Proofs.Ytkdmilchklmefaa
