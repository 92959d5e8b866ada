/- OwnerFails: with a failed node all is lost that it had, and that was on the way to it, and nothing else. -/
import Derived.Test.YtkckkbajaaklnaaFailsMath
import Derived.Test.YtkckkbajaaklnaaOne
namespace Go.Proofs.Ytkckkbajaaklnaa
open Go.RowKit
set_option linter.unusedVariables false
set_option linter.unusedSimpArgs false

theorem zeros46 : (.cells #[.int .i64 0, .int .i64 0, .int .i64 0, .int .i64 0, .int .i64 0, .int .i64 0, .int .i64 0, .int .i64 0, .int .i64 0, .int .i64 0, .int .i64 0, .int .i64 0, .int .i64 0, .int .i64 0, .int .i64 0, .int .i64 0, .int .i64 0, .int .i64 0, .int .i64 0, .int .i64 0, .int .i64 0, .int .i64 0, .int .i64 0, .int .i64 0, .int .i64 0, .int .i64 0, .int .i64 0, .int .i64 0, .int .i64 0, .int .i64 0, .int .i64 0, .int .i64 0] 46 : Obj) = .cells ((arrL (fun _ => 0) 0).map (Value.int .i64)).toArray 46 (0, 0) := rfl
theorem zeros40 : (.cells #[.int .i64 0, .int .i64 0, .int .i64 0, .int .i64 0, .int .i64 0, .int .i64 0, .int .i64 0, .int .i64 0, .int .i64 0, .int .i64 0, .int .i64 0, .int .i64 0, .int .i64 0, .int .i64 0, .int .i64 0, .int .i64 0, .int .i64 0, .int .i64 0, .int .i64 0, .int .i64 0, .int .i64 0, .int .i64 0, .int .i64 0, .int .i64 0, .int .i64 0, .int .i64 0, .int .i64 0, .int .i64 0, .int .i64 0, .int .i64 0, .int .i64 0, .int .i64 0] 40 : Obj) = .cells ((arrL (fun _ => 0) 0).map (Value.int .i64)).toArray 40 (0, 0) := rfl
theorem arrL_zero (f : Nat → Int) : arrL (fun _ => 0) 0 = arrL f 0 := by simp [arrL]

set_option maxRecDepth 100000 in
set_option maxHeartbeats 2000000 in
theorem fails_many (x : Int) (A : Option Addr) (n c : Nat) (w : World) (hn : 1000 < n) :
    Calls Try.prog 6 #[.slice A n c, .int .u8 x] w fun e w' => e = .returned (.bool true) ∧ Ext [] w w' := by
  have hn2 : (1000 : Int) < (n : Int) := by omega
  go_enter Try.func6, Try.ntmps6
  go_wp2_with (go_at_call 8; fail)
  refine (awake_any _).mono ?_
  rintro e w1 ⟨rfl, E1⟩
  have HE1 := Lib.hid E1
  clear E1
  go_wp2_with (go_at_call 8; fail)
  refine (awake_any _).mono ?_
  rintro e w2 ⟨rfl, E2⟩
  have HE2 := Lib.hid (HE1.out.trans E2)
  clear E2
  go_wp2
  go_ret
  exact ⟨rfl, HE2.out⟩

set_option maxRecDepth 100000 in
set_option maxHeartbeats 8000000 in
theorem fails_few (x : Int) (hx0 : 0 ≤ x) (hx1 : x < 256) (A : Option Addr) (c : Nat) (l : List Op) (w : World) (hn : l.length ≤ 1000) (hO : Ops w A l) :
    Calls Try.prog 6 #[.slice A l.length c, .int .u8 x] w fun e w' => e = .returned (.bool true) ∧ Ext [] w w' := by
  have hn2 : ¬ (1000 : Int) < (l.length : Int) := by omega
  have HO := Lib.hid hO
  clear hO
  go_enter Try.func6, Try.ntmps6
  go_wp2_with (go_at_call 8; fail)
  refine (awake_any _).mono ?_
  rintro e w1 ⟨rfl, E1⟩
  have HE1 := Lib.hid E1
  have hs1 := E1.size
  clear E1
  go_wp2_with (go_at_call 9; fail)
  refine (new_any 32 _).mono ?_
  rintro e w2 ⟨rfl, D2, E2⟩
  have HB : Hid (Own1 w (w1.heap.size + 1) w1.heap.size w2 (List.replicate 32 (0, 0))) := ⟨D2, HE1.out.trans E2, by omega⟩
  have HR0 : Hid (Rights (List.replicate 32 (0, 0))) := Rights.home _
  have HL0 : Hid ((List.replicate 32 ((0 : Int), (0 : Int))).length = 32) := by simp [Hid]
  clear D2 E2
  generalize w1.heap.size + 1 = b at *
  generalize w1.heap.size = g at *
  generalize List.replicate 32 ((0 : Int), (0 : Int)) = L0 at *
  clear HE1
  go_wp2
  go_loopw [31] (fun i wr => ∃ j : Nat, j ≤ l.length ∧ i = .int .i64 j ∧ Own1 w b g wr (playL L0 (l.take j))) (fun i _ => l.length - (intOf i).toNat)
  case atStart => exact ⟨0, Nat.zero_le _, rfl, HB.out⟩
  case round =>
    obtain ⟨j, hj, rfl, hb⟩ := hrel
    replace HB := Lib.hid hb
    clear hb
    by_cases hlt : j < l.length
    · obtain ⟨q, hq⟩ : ∃ q, l[j]? = some q := ⟨l[j], by simp [hlt]⟩
      obtain ⟨ab, off, rfl, hab, c0, c1, c2, c3⟩ := (HO.out.ext HB.out.ext).at_ hq
      have HP : Hid (playL L0 (l.take (j + 1)) = doesL (playL L0 (l.take j)) q.k q.p q.a q.b) := by
        unfold Hid
        rw [List.take_add_one, hq, Option.toList_some, playL_snoc]
      have b0 : (0 : Int) ≤ (j : Int) := by omega
      have b1 : (j : Int) < (l.length : Int) := by omega
      clear hq
      go_wp2_with (go_at_call 17; fail)
      refine (HB.out.play q.k q.p q.a q.b).mono ?_
      rintro e w4 ⟨rfl, hb⟩
      replace HB := Lib.hid hb
      clear hb c0 c1 c2 c3
      go_wp2
      go_roundw
      case rel => exact ⟨j + 1, by omega, by go_num, by rw [HP.out]; exact HB.out⟩
      case measure => simp [intOf]; omega
    · have e : j = l.length := by omega
      subst e
      have HR := Lib.hid (HR0.out.play (l.take l.length))
      have hL : (playL L0 (l.take l.length)).length = 32 := by rw [playL_length]; exact HL0.out
      generalize playL L0 (l.take l.length) = L at *
      clear HR0
      have HF0 : Hid (FS w b g wr.heap.size (wr.heap.size + 1) ((wr.alloc (.cells ((arrL (fun _ => 0) 0).map (Value.int .i64)).toArray 46 (0, 0))).alloc (.cells ((arrL (fun _ => 0) 0).map (Value.int .i64)).toArray 40 (0, 0))) L (arrL (fun i => whereK L (i : Int)) 0) (arrL (fun i => whereN L (i : Int)) 0)) := by
        refine ⟨HB.out.same (((Ext.refl _ _).alloc _).alloc _), ?_, ?_, ?_⟩
        · rw [← arrL_zero]; exact heap_alloc2_old _ _ _
        · rw [← arrL_zero]; exact heap_alloc2_new _ _ _
        · have := HB.out.ext.size; omega
      rw [← zeros46, ← zeros40] at HF0
      have hm0 : 0 ≤ x % 8 := by omega
      have hm1 : x % 8 < 8 := by omega
      generalize hwb : wr.heap.size = wb at *
      go_wp2
      generalize x % 8 = m at *
      clear hwb
      generalize hab : wb + 1 = ab at *
      clear hab
      go_loopw [44] (fun i wr => ∃ j : Nat, j ≤ 32 ∧ i = .int .i64 j ∧ FS w b g wb ab wr L (arrL (fun i => whereK L (i : Int)) j) (arrL (fun i => whereN L (i : Int)) j)) (fun i _ => 32 - (intOf i).toNat)
      case atStart => exact ⟨0, by omega, rfl, HF0.out⟩
      case round =>
        obtain ⟨j, hj, rfl, hf⟩ := hrel
        have HF := Lib.hid hf
        clear hf HF0
        by_cases hltj : j < 32
        · have b0 : (0 : Int) ≤ (j : Int) := by omega
          have b1 : (j : Int) < 32 := by omega
          have f0 := HF.out.freew j
          have f1 := HF.out.freea j
          have c0 := HF.out.cellw (arrL_get _ _ hltj)
          have c1 := HF.out.cella (arrL_get _ _ hltj)
          rw [if_neg (Nat.lt_irrefl j)] at c0 c1
          have hne := HF.out.ne.2.2.2.2
          have HNX : Hid (arrL (fun i => whereK L (i : Int)) (j + 1) = (arrL (fun i => whereK L (i : Int)) j).set j (whereK L (j : Int)) ∧ arrL (fun i => whereN L (i : Int)) (j + 1) = (arrL (fun i => whereN L (i : Int)) j).set j (whereN L (j : Int))) := ⟨arrL_next _ hltj, arrL_next _ hltj⟩
          go_wp2_with (go_at_call 19; fail)
          refine (where_any b g L _ HF.out.o.d (j : Int)).mono ?_
          rintro e w4 ⟨rfl, m4, rfl⟩
          have HF4 := Lib.hid (((HF.out.setw j (whereK L (j : Int))).seta j (whereN L (j : Int))).same ((Ext.refl _ _).drewN m4))
          go_wp2
          go_roundw
          case rel => exact ⟨j + 1, by omega, by go_num, by rw [HNX.out.1, HNX.out.2]; exact HF4.out⟩
          case measure => simp [intOf]; omega
        · have e : j = 32 := by omega
          subst e
          go_wp2_with (go_at_call 20; fail)
          refine (fail_any b g L _ HF.out.o.d m).mono ?_
          rintro e w4 ⟨A4, c4, rfl, hi, hu⟩
          have hB4 : wb < wr.heap.size ∧ ab < wr.heap.size ∧ g < wr.heap.size := ⟨lt_of_block HF.out.cw, lt_of_block HF.out.ca, lt_of_block HF.out.o.d.hc⟩
          have HF4 := Lib.hid (HF.out.up hu)
          have HI4 := Lib.hid hi
          clear hi hu HF
          have hlk := failK_length L 0 m
          generalize wr.heap.size = B4 at *
          go_wp2
          go_loopw [12, 61] (fun k i wr => ∃ j : Nat, j ≤ 32 ∧ i = .int .i64 j ∧ k = .int .i64 (lostN L m j) ∧ FS w b g wb ab wr (failL L m) (arrL (fun i => whereK L (i : Int)) 32) (arrL (fun i => whereN L (i : Int)) 32) ∧ Ints wr B4 (.slice A4 (failK L 0 m).length c4) (failK L 0 m)) (fun _ i _ => 32 - (intOf i).toNat)
          case atStart => exact ⟨0, by omega, rfl, rfl, HF4.out, HI4.out⟩
          case round =>
            obtain ⟨j, hj, rfl, rfl, hf, hi⟩ := hrel
            have HF := Lib.hid hf
            have HI := Lib.hid hi
            clear hf hi HF4 HI4
            by_cases hltj : j < 32
            · have b0 : (0 : Int) ≤ (j : Int) := by omega
              have b1 : (j : Int) < 32 := by omega
              obtain ⟨⟨q1, q2⟩, hq⟩ : ∃ q, L[j]? = some q := ⟨L[j]'(by omega), by rw [List.getElem?_eq_getElem (by omega)]⟩
              have c0 := HF.out.cellw (arrL_get _ _ hltj)
              have c1 := HF.out.cella (arrL_get _ _ hltj)
              rw [if_pos hltj] at c0 c1
              rw [(whereK_get hq).1] at c0
              rw [(whereK_get hq).2] at c1
              have hwf := whereK_get (fail_get m hq)
              have hnx := lostN_next m hq
              have hle := lostN_le L m j
              by_cases hg : (q1, q2) = (1, m) ∨ (q1, q2) = (2, m)
              · rw [if_pos hg] at hnx
                have hla := lost_at hq hg
                have hkl : lostN L m j < (failK L 0 m).length := (List.getElem?_eq_some_iff.1 hla).1
                have hq2 : q2 = m := by rcases hg with h | h <;> exact (Prod.mk.inj h).2
                have hq1 : q1 = 1 ∨ q1 = 2 := by rcases hg with h | h; exact .inl (Prod.mk.inj h).1; exact .inr (Prod.mk.inj h).1
                unfold failP at hwf
                rw [if_pos hg] at hwf
                subst hq2
                obtain ⟨gg, rfl⟩ : ∃ gg, A4 = some ⟨gg, 0, none⟩ := by
                  rcases own_form HI.out with ⟨_, h⟩ | ⟨gg, cap, h⟩
                  · omega
                  · injection h with h _ _; exact ⟨gg, h⟩
                have cl := Ints.cell HI.out hla
                have HW : Hid (∀ w', Dir w' 51 57 b g (failL L q2) → Calls Try.prog 19 #[.pointer (some ⟨b, 0, none⟩), .int .i64 (j : Int)] w' fun e w'' => e = .returned (.tuple #[.int .i64 3, .int .i64 q2]) ∧ ∃ m, w'' = w'.drewN m) := fun w' hd => by
                  have := where_any b g _ w' hd (j : Int)
                  rwa [hwf.1, hwf.2] at this
                have b2 : (0 : Int) ≤ (lostN L q2 j : Int) := by omega
                have b3 : (lostN L q2 j : Int) < ((failK L 0 q2).length : Int) := by omega
                have HNX := Lib.hid hnx
                clear hwf hg hla hq hnx
                rcases hq1 with rfl | rfl
                all_goals
                  go_wp2_with (go_at_call 19; fail)
                  refine (HW.out _ HF.out.o.d).mono ?_
                  rintro e w5 ⟨rfl, m5, rfl⟩
                  have HF5 := Lib.hid (HF.out.same ((Ext.refl _ _).drewN m5))
                  have HI5 := Lib.hid (own_ext HI.out ((Ext.refl [] _).drewN m5) (by simp))
                  go_wp2
                  go_roundw
                  case rel => first | exact ⟨j + 1, by omega, by go_num, by rw [HNX.out]; go_num, HF5.out, HI5.out⟩ | ((repeat apply Exists.intro); exact ⟨⟨j + 1, by omega, by go_num, by rw [HNX.out]; go_num, HF5.out, HI5.out⟩, rfl⟩)
                  case measure => simp [intOf]; omega
              · rw [if_neg hg] at hnx
                unfold failP at hwf
                rw [if_neg hg] at hwf
                have HW : Hid (∀ w', Dir w' 51 57 b g (failL L m) → Calls Try.prog 19 #[.pointer (some ⟨b, 0, none⟩), .int .i64 (j : Int)] w' fun e w'' => e = .returned (.tuple #[.int .i64 q1, .int .i64 q2]) ∧ ∃ m, w'' = w'.drewN m) := fun w' hd => by
                  have := where_any b g _ w' hd (j : Int)
                  rwa [hwf.1, hwf.2] at this
                have hd : (q2 == m) = false ∨ ((q2 == m) = true ∧ (q1 == 1) = false ∧ (q1 == 2) = false) := by
                  by_cases h2 : q2 = m
                  · refine .inr ⟨beq_iff_eq.2 h2, beq_eq_false_iff_ne.2 fun h1 => hg (.inl (by rw [h1, h2])), beq_eq_false_iff_ne.2 fun h1 => hg (.inr (by rw [h1, h2]))⟩
                  · exact .inl (beq_eq_false_iff_ne.2 h2)
                have HNX := Lib.hid hnx
                clear hwf hg hq hnx
                rcases hd with hd | ⟨hd1, hd2, hd3⟩
                all_goals
                  go_wp2_with (go_at_call 19; fail)
                  refine (HW.out _ HF.out.o.d).mono ?_
                  rintro e w5 ⟨rfl, m5, rfl⟩
                  have HF5 := Lib.hid (HF.out.same ((Ext.refl _ _).drewN m5))
                  have HI5 := Lib.hid (own_ext HI.out ((Ext.refl [] _).drewN m5) (by simp))
                  go_wp2
                  go_roundw
                  case rel => first | exact ⟨j + 1, by omega, by go_num, by rw [HNX.out]; exact rfl, HF5.out, HI5.out⟩ | ((repeat apply Exists.intro); exact ⟨⟨j + 1, by omega, by go_num, by rw [HNX.out]; exact rfl, HF5.out, HI5.out⟩, rfl⟩)
                  case measure => simp [intOf]; omega
            · have e : j = 32 := by omega
              subst e
              have hall : lostN L m 32 = (failK L 0 m).length := by rw [← hL, lostN_all]
              rw [hall]
              have hfin := (Fine.fail L m).of
              have HFF : Hid (∀ w', Dir w' 51 57 b g (failL L m) → Calls Try.prog 20 #[.pointer (some ⟨b, 0, none⟩), .int .i64 m] w' fun e w'' => ∃ A c, e = .returned (.slice A 0 c) ∧ Upd w' w'' 51 57 b g (failL L m)) := fun w' hd => by
                refine (fail_any b g _ w' hd m).mono ?_
                rintro e w'' ⟨A, c, he, _, hu⟩
                rw [hfin.2.2.1] at he
                rw [hfin.2.2.2] at hu
                exact ⟨A, c, he, hu⟩
              have HLO : Hid (∀ i x, (failK L 0 m)[i]? = some x → ∃ p : Nat, x = (p : Int) ∧ p < L.length ∧ (failL L m)[p]? = some (3, m)) := fun i x h => fail_lost h
              have HAP : Hid (∀ i j x y, i < j → (failK L 0 m)[i]? = some x → (failK L 0 m)[j]? = some y → x < y) := fun i j x y hij hx hy => fail_apart hij hx hy
              have HFI := Lib.hid (Fine.fail L m)
              have hLf : (failL L m).length = 32 := by simp [failL, hL]
              clear hall hfin
              generalize failK L 0 m = lk at *
              generalize failL L m = Lf at *
              go_wp2_with (go_at_call 20; fail)
              refine (HFF.out _ HF.out.o.d).mono ?_
              rintro e w5 ⟨A5, c5, rfl, hu⟩
              have HF5 := Lib.hid (HF.out.up hu)
              have HI5 := Lib.hid (own_ext HI.out hu.2 (by simp; omega))
              clear hu HF HI
              go_wp2
              go_loopw [137] (fun i wr => ∃ (j : Nat) (Lc : List (Int × Int)), j ≤ lk.length ∧ i = .int .i64 j ∧ FS w b g wb ab wr Lc (arrL (fun i => whereK L (i : Int)) 32) (arrL (fun i => whereN L (i : Int)) 32) ∧ Ints wr B4 (.slice A4 lk.length c4) lk ∧ Fine m Lc ∧ Lc.length = 32 ∧ (∀ i p, j ≤ i → lk[i]? = some ((p : Nat) : Int) → Lc[p]? = some (3, m))) (fun i _ => lk.length - (intOf i).toNat)
              case atStart =>
                refine ⟨0, Lf, by omega, rfl, HF5.out, HI5.out, HFI.out, hLf, fun i p _ hp => ?_⟩
                obtain ⟨p', e, _, h⟩ := HLO.out i _ hp
                have : p = p' := by omega
                subst this; exact h
              case round =>
                obtain ⟨j, Lc, hj, rfl, hf, hi, hfi, hlc, hkeep⟩ := hrel
                have HF := Lib.hid hf
                have HI := Lib.hid hi
                have HFC := Lib.hid hfi
                have HKE := Lib.hid hkeep
                clear hf hi hfi hkeep HF5 HI5
                by_cases hltj : j < lk.length
                · obtain ⟨x5, hx5⟩ : ∃ x5, lk[j]? = some x5 := ⟨lk[j], by simp [hltj]⟩
                  obtain ⟨p, rfl, hpl, _⟩ := HLO.out j x5 hx5
                  have hp3 := HKE.out j p (Nat.le_refl _) hx5
                  obtain ⟨gg, rfl⟩ : ∃ gg, A4 = some ⟨gg, 0, none⟩ := by
                    rcases own_form HI.out with ⟨_, h⟩ | ⟨gg, cap, h⟩
                    · omega
                    · injection h with h _ _; exact ⟨gg, h⟩
                  have cl := Ints.cell HI.out hx5
                  have hpc : p < Lc.length := (List.getElem?_eq_some_iff.1 hp3).1
                  have hin : inP Lc (p : Int) := ⟨by omega, by omega⟩
                  have hpl3 : pl Lc (p : Int) = (3, m) := by unfold pl; rw [Int.toNat_natCast, List.getD_eq_getElem?_getD, hp3]; rfl
                  have hin2 : inP (Lc.set p (0, 0)) (p : Int) := ⟨by omega, by simp; omega⟩
                  have hpl0 : pl (Lc.set p (0, 0)) (p : Int) = (0, 0) := by unfold pl; rw [Int.toNat_natCast, List.getD_eq_getElem?_getD, List.getElem?_set_self hpc]; rfl
                  have HH1 : Hid (∀ w', Dir w' 51 57 b g Lc → Calls Try.prog 14 #[.pointer (some ⟨b, 0, none⟩), .int .i64 (p : Int)] w' fun e w'' => e = .returned (.int .i64 0) ∧ Upd w' w'' 51 57 b g (Lc.set p (0, 0))) := fun w' hd => by
                    have := heal_any b g Lc w' hd (p : Int)
                    have e1 : healE Lc (p : Int) = 0 := by unfold healE; rw [if_pos hin, hpl3]; rfl
                    have e2 : healL Lc (p : Int) = Lc.set p (0, 0) := by unfold healL; rw [if_pos ⟨hin, by rw [hpl3]⟩, Int.toNat_natCast]
                    rwa [e1, e2] at this
                  have HH2 : Hid (∀ w', Dir w' 51 57 b g (Lc.set p (0, 0)) → Calls Try.prog 14 #[.pointer (some ⟨b, 0, none⟩), .int .i64 (p : Int)] w' fun e w'' => e = .returned (.int .i64 13) ∧ Upd w' w'' 51 57 b g (Lc.set p (0, 0))) := fun w' hd => by
                    have := heal_any b g _ w' hd (p : Int)
                    have e1 : healE (Lc.set p (0, 0)) (p : Int) = 13 := by unfold healE; rw [if_pos hin2, hpl0]; rfl
                    have e2 : healL (Lc.set p (0, 0)) (p : Int) = Lc.set p (0, 0) := by unfold healL; rw [if_neg (by rw [hpl0]; simp)]
                    rwa [e1, e2] at this
                  have HK2 : Hid (∀ i p', j + 1 ≤ i → lk[i]? = some ((p' : Nat) : Int) → (Lc.set p (0, 0))[p']? = some (3, m)) := fun i p' hi hp' => by
                    have hlt := HAP.out j i _ _ (by omega) hx5 hp'
                    rw [List.getElem?_set_ne (by omega)]
                    exact HKE.out i p' (by omega) hp'
                  have b0 : (0 : Int) ≤ (j : Int) := by omega
                  have b1 : (j : Int) < (lk.length : Int) := by omega
                  have HX := Lib.hid hx5
                  clear hx5 hp3 hin hpl3 hin2 hpl0 hpl
                  go_wp2_with (go_at_call 14; fail)
                  refine (HH1.out _ HF.out.o.d).mono ?_
                  rintro e w6 ⟨rfl, hu⟩
                  replace HF := Lib.hid (HF.out.up hu)
                  replace HI := Lib.hid (own_ext HI.out hu.2 (by simp; omega))
                  clear hu cl
                  have cl := Ints.cell HI.out HX.out
                  go_wp2_with (go_at_call 14; fail)
                  refine (HH2.out _ HF.out.o.d).mono ?_
                  rintro e w7 ⟨rfl, hu⟩
                  replace HF := Lib.hid (HF.out.up hu)
                  replace HI := Lib.hid (own_ext HI.out hu.2 (by simp; omega))
                  clear hu cl
                  go_wp2
                  go_roundw
                  case rel => first | exact ⟨j + 1, Lc.set p (0, 0), by omega, by go_num, HF.out, HI.out, HFC.out.set p, by simp [hlc], HK2.out⟩ | ((repeat apply Exists.intro); exact ⟨⟨j + 1, Lc.set p (0, 0), by omega, by go_num, HF.out, HI.out, HFC.out.set p, by simp [hlc], HK2.out⟩, rfl⟩)
                  case measure => simp [intOf]; omega
                · have HO1 : Hid (∀ w', Dir w' 51 57 b g Lc → Calls Try.prog 18 #[.pointer (some ⟨b, 0, none⟩), .int .i64 m, .int .i64 1] w' fun e w'' => ∃ A c, e = .returned (.slice A 0 c) ∧ Ext [] w' w'') := fun w' hd => by
                    refine (of_some b g Lc w' hd m 1 (by decide)).mono ?_
                    rintro e w'' ⟨A, c, he, _, hu⟩
                    rw [HFC.out.of.1] at he
                    exact ⟨A, c, he, hu⟩
                  have HO2 : Hid (∀ w', Dir w' 51 57 b g Lc → Calls Try.prog 18 #[.pointer (some ⟨b, 0, none⟩), .int .i64 m, .int .i64 2] w' fun e w'' => ∃ A c, e = .returned (.slice A 0 c) ∧ Ext [] w' w'') := fun w' hd => by
                    refine (of_some b g Lc w' hd m 2 (by decide)).mono ?_
                    rintro e w'' ⟨A, c, he, _, hu⟩
                    rw [HFC.out.of.2.1] at he
                    exact ⟨A, c, he, hu⟩
                  go_wp2_with (go_at_call 18; fail)
                  refine (HO1.out _ HF.out.o.d).mono ?_
                  rintro e w6 ⟨A6, c6, rfl, hu⟩
                  replace HF := Lib.hid (HF.out.same hu)
                  clear hu
                  go_wp2_with (go_at_call 18; fail)
                  refine (HO2.out _ HF.out.o.d).mono ?_
                  rintro e w7 ⟨A7, c7, rfl, hu⟩
                  replace HF := Lib.hid (HF.out.same hu)
                  clear hu
                  go_wp2
                  go_ret
                  exact ⟨by first | rfl | (simp; done) | (simp; decide), HF.out.o.ext⟩

end Go.Proofs.Ytkckkbajaaklnaa
