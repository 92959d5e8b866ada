/- PoolVictims. -/
import Derived.Test.YtkdmilchklmefaaPS
namespace Go.Proofs.Ytkdmilchklmefaa
open Go.RowKit
set_option linter.unusedVariables false
set_option linter.unusedSimpArgs false

/-- Who goes has no fixes, can't be unfixed, can be dropped; then there is one less. -/
theorem vict_goes {F F' : List (Fr ByteArray)} {h h' : Nat} {id : Int} (hu : Uniq F) (hv : vict (2 * F.length + 1) F h = some (id, F', h')) :
    ans F' id unfK = 13 ∧ upd F' id unfU = F' ∧ ans F' id drpK = 0 ∧ (upd F' id (drpU ByteArray.empty)).countP cand + 1 = F.countP cand := by
  obtain ⟨al, i, f, hi, hc, hm, hid⟩ := vict_spec _ _ _ _ hv
  simp only [] at al hi hid
  have ht : f.there = true := by unfold cand at hc; rw [Bool.and_eq_true] at hc; exact hc.1
  have h0 : f.fixes = 0 := by unfold cand at hc; rw [Bool.and_eq_true, beq_iff_eq] at hc; exact hc.2
  have hf := (al.uniq hu).found hi ht hid
  have hl := (List.getElem?_eq_some_iff.1 hi).1
  have hg : F'[i] = f := (List.getElem?_eq_some_iff.1 hi).2
  refine ⟨?_, ?_, ?_, ?_⟩
  · rw [ans_hit _ hf hi]; unfold unfK; rw [if_pos h0]
  · rw [upd_hit _ hf hi]; unfold unfU; rw [if_pos h0]; exact set_same hi
  · rw [ans_hit _ hf hi]; unfold drpK; rw [if_neg (by omega)]
  · rw [upd_hit _ hf hi]
    unfold drpU
    rw [if_neg (by omega), ← al.count, List.countP_set hl, hg, if_pos hc]
    have hpos : 0 < F'.countP cand := List.countP_pos_iff.2 ⟨f, List.mem_of_getElem? hi, hc⟩
    have : cand (⟨false, 0, ByteArray.empty, false, 0, false, 0⟩ : Fr ByteArray) = false := rfl
    rw [this]
    simp
    omega
theorem pgN_rise {X : Type} (F : List (Fr X)) (n : Nat) : (pgN F n).Pairwise (· < ·) := by
  unfold pgN
  rw [List.pairwise_map]
  refine List.Pairwise.imp ?_ (List.Pairwise.filter _ List.pairwise_lt_range)
  intro a b h; omega
/-- An Unfix of another page leaves a page as it is. -/
theorem frOf_other {F : List (Fr ByteArray)} (hu : Uniq F) {p q : Int} (hne : p ≠ q) {f : Fr ByteArray} (hq : frOf F q = some f) : frOf (upd F p unfU) q = some f := by
  unfold frOf at hq
  cases hfq : find F q with
  | none => rw [hfq] at hq; exact nomatch hq
  | some j =>
    rw [hfq] at hq
    simp only [] at hq
    obtain ⟨f2, hj2, ht, hid⟩ := find_get hfq
    rw [hq] at hj2; injection hj2 with hj2; subst hj2
    cases hfp : find F p with
    | none => rw [upd_miss _ hfp]; exact frOf_hit hfq hq
    | some i =>
      obtain ⟨fi, hi, hti, hidi⟩ := find_get hfp
      have hij : i ≠ j := by
        rintro rfl
        rw [hi] at hq; injection hq with hq; subst hq
        exact hne (hidi.symm.trans hid)
      rw [upd_hit _ hfp hi]
      have gj : (F.set i (unfU fi))[j]? = some f := by rw [List.getElem?_set_ne hij]; exact hq
      exact frOf_hit ((hu.set hi (fun h => ⟨(unfU_same fi).1.symm.trans h, (unfU_same fi).2⟩)).found gj ht hid) gj
theorem fixed_all {F : List (Fr ByteArray)} (hf : Few 1000 F) (ha : F.any cand = false) {p : Int} (hp : p ∈ pgN F 32) : ∃ f, frOf F p = some f ∧ 0 < f.fixes := by
  obtain ⟨i, rfl, _, hs⟩ := pgN_mem hp
  cases hfi : find F (i : Int) with
  | none => rw [hfi] at hs; exact nomatch hs
  | some j =>
    obtain ⟨f, hj, ht, _⟩ := find_get hfi
    refine ⟨f, frOf_hit hfi hj, ?_⟩
    have hc := List.any_eq_false.1 ha f (List.mem_of_getElem? hj)
    have := hf f (List.mem_of_getElem? hj)
    unfold cand at hc
    rw [ht] at hc
    simp at hc
    omega

set_option maxHeartbeats 2000000 in
theorem pvics_many (frames : Int) (A : Option Addr) (n c : Nat) (w : World) (hn : 300 < n) :
    Calls Try.prog 4 #[.int .i64 frames, .slice A n c] w fun e w' => e = .returned (.bool true) ∧ Ext [] w w' := by
  have hn2 : (300 : Int) < (n : Int) := by omega
  go_enter Try.func4, Try.ntmps4
  go_wp2_with (go_at_call 9; fail)
  refine (awake_any _).mono ?_
  rintro e w1 ⟨rfl, E1⟩
  have HE1 := Lib.hid E1
  clear E1
  go_wp2_with (go_at_call 9; fail)
  refine (awake_any _).mono ?_
  rintro e w2 ⟨rfl, E2⟩
  have HE2 := Lib.hid (HE1.out.trans E2)
  clear E2
  go_wp2
  go_ret
  exact ⟨rfl, HE2.out⟩

set_option maxRecDepth 100000 in
set_option maxHeartbeats 8000000 in
theorem pvics_few (frames : Int) (A : Option Addr) (c : Nat) (l : List Op) (w : World) (hn : l.length ≤ 300) (hO : Ops w A l) :
    Calls Try.prog 4 #[.int .i64 frames, .slice A l.length c] w fun e w' => e = .returned (.bool true) ∧ Ext [] w w' := by
  have hn2 : ¬ (300 : Int) < (l.length : Int) := by omega
  have HO := Lib.hid hO
  clear hO
  go_enter Try.func4, Try.ntmps4
  go_wp2_with (go_at_call 9; fail)
  refine (awake_any _).mono ?_
  rintro e w0 ⟨rfl, E0⟩
  have HE0 := Lib.hid E0
  clear E0
  go_wp2_with (go_at_call 16; fail)
  refine (played_any frames A c l w0 (HO.out.ext HE0.out) hn).mono ?_
  rintro e w1 ⟨rfl, D1, E1⟩
  have hf := playF_few l (List.replicate (many frames).toNat szero, 0) 0 (by omega) (Few.rep _ _ rfl (by omega))
  have hu := playF_uniq l (List.replicate (many frames).toNat szero, 0) (Uniq.rep _ _ rfl)
  generalize (playF l (List.replicate (many frames).toNat szero, 0)).1 = F at *
  generalize (playF l (List.replicate (many frames).toNat szero, 0)).2 = h at *
  have hb : ∃ b g, b = w0.heap.size + 1 ∧ PS w b g w1 F h := ⟨_, _, rfl, D1, hf.mono (by omega), hu, HE0.out.trans E1, by have := HE0.out.size; omega⟩
  obtain ⟨b, g, hbe, hps⟩ := hb
  rw [← hbe]
  have HB := Lib.hid hps
  clear hps hbe D1 E1 hf hu HE0
  go_wp2
  go_loopw [25] (fun i wr => ∃ j : Nat, j ≤ 17 ∧ i = .int .i64 j ∧ ∃ F h, PS w b g wr F h ∧ F.countP cand + j ≤ 16) (fun i _ => 17 - (intOf i).toNat)
  case atStart => exact ⟨0, by omega, rfl, F, h, HB.out, by have h1 := HB.out.p.few; have h2 := List.countP_le_length (p := cand) (l := F); omega⟩
  case round =>
    clear HB
    obtain ⟨j, hj, rfl, F, h, hB, hcnt⟩ := hrel
    have hlt : (j : Int) < 17 := by omega
    have HB := Lib.hid hB
    clear hB
    cases ha : F.any cand with
    | true =>
      obtain ⟨id1, F1, h1, hv1, hvt1⟩ := vic_some (h := h) ha HB.out.p.hand
      obtain ⟨g1, g2, g3, g4⟩ := vict_goes HB.out.uniq hvt1
      have HV1 := Lib.hid hv1
      have HG1 := Lib.hid g1
      have HG2 := Lib.hid g2
      have HG3 := Lib.hid g3
      have HG4 := Lib.hid g4
      clear ha hv1 hvt1 g1 g2 g3 g4
      go_wp2_with (go_at_call 17; fail)
      refine (HB.out.vic_some HV1.out).mono ?_
      rintro e w2 ⟨rfl, hB⟩
      replace HB := Lib.hid hB
      clear hB
      go_wp2_with (go_at_call 18; fail)
      refine (HB.out.unfix id1).mono ?_
      rintro e w3 ⟨rfl, hB, _⟩
      rw [HG2.out] at hB
      rw [HG1.out]
      replace HB := Lib.hid hB
      clear hB
      go_wp2_with (go_at_call 19; fail)
      refine (HB.out.drop id1).mono ?_
      rintro e w4 ⟨rfl, hB⟩
      rw [HG3.out]
      replace HB := Lib.hid hB
      clear hB
      go_wp2
      go_roundw
      case rel => exact ⟨j + 1, by omega, by go_num, _, _, HB.out, by have := HG4.out; omega⟩
      case measure => simp [intOf]; omega
    | false =>
      have HA := Lib.hid ha
      clear ha
      go_wp2_with (go_at_call 17; fail)
      refine (HB.out.vic_none HA.out).mono ?_
      rintro e w2 ⟨rfl, hB⟩
      replace HB := Lib.hid hB
      clear hB
      go_wp2_with (go_at_call 17; fail)
      refine (HB.out.vic_none HA.out).mono ?_
      rintro e w3 ⟨rfl, hB⟩
      replace HB := Lib.hid hB
      clear hB
      go_wp2_with (go_at_call 20; fail)
      refine (spages_any _ b g h F HB.out.p).mono ?_
      rintro e w4 ⟨A1, c1, rfl, O1, E1⟩
      have hb3 : b < w3.heap.size ∧ g < w3.heap.size := ⟨HB.out.p.hd.lt, HB.out.p.hc.lt⟩
      have hall : ∀ k : Nat, ∀ p : Int, (pgN F 32)[k]? = some p → ∃ f, frOf F p = some f ∧ 0 < f.fixes := fun k p hp => fixed_all HB.out.few HA.out (List.mem_of_getElem? hp)
      have hrise := pgN_rise F 32
      have hlen := pgN_length F 32
      replace HB := Lib.hid (HB.out.same E1)
      generalize pgN F 32 = L at *
      have HO1 := Lib.hid O1
      have HL := Lib.hid hall
      have HR := Lib.hid hrise
      have HB3 := Lib.hid hb3
      clear O1 E1 hall hrise hb3
      go_wp2
      go_loopw [54] (fun i wr => ∃ m : Nat, m ≤ L.length ∧ i = .int .i64 m ∧ ∃ F, PS w b g wr F h ∧ sInts wr w3.heap.size (.slice A1 L.length c1) L ∧ ∀ k : Nat, m ≤ k → ∀ p : Int, L[k]? = some p → ∃ f, frOf F p = some f ∧ 0 < f.fixes) (fun i _ => L.length - (intOf i).toNat)
      case atStart => exact ⟨0, Nat.zero_le _, rfl, F, HB.out, HO1.out, fun k _ p hp => HL.out k p hp⟩
      case round =>
        clear HB HL HA HO1
        obtain ⟨m, hm, rfl, F, hB, hO, hall⟩ := hrel
        have HB := Lib.hid hB
        by_cases hlt2 : m < L.length
        · obtain ⟨p, hp⟩ : ∃ p, L[m]? = some p := ⟨L[m], by simp [hlt2]⟩
          obtain ⟨ga, rfl, _⟩ := own_some hO (by omega)
          have cx := own_cell hO (j := m) (v := .int .i64 p) (by rw [List.getElem?_map, hp]; rfl)
          obtain ⟨f, hf, hpos⟩ := hall m (Nat.le_refl _) p hp
          have hans : ans F p unfK = 0 := by unfold ans; rw [hf]; simp only [unfK]; rw [if_neg (by omega)]
          have hnext : ∀ k : Nat, m + 1 ≤ k → ∀ q : Int, L[k]? = some q → ∃ f, frOf (upd F p unfU) q = some f ∧ 0 < f.fixes := by
            intro k hk q hq
            obtain ⟨f2, h1, h2⟩ := hall k (by omega) q hq
            refine ⟨f2, frOf_other hB.uniq ?_ h1, h2⟩
            have hr := List.pairwise_iff_getElem.1 HR.out
            obtain ⟨l1, e1⟩ := List.getElem?_eq_some_iff.1 hp
            obtain ⟨l2, e2⟩ := List.getElem?_eq_some_iff.1 hq
            have := hr m k l1 l2 (by omega)
            rw [e1, e2] at this
            omega
          have HANS := Lib.hid hans
          have HN := Lib.hid hnext
          have HO1 := Lib.hid hO
          clear hB hO hall hf hpos hans hnext hp
          go_wp2_with (go_at_call 18; fail)
          refine (HB.out.unfix p).mono ?_
          rintro e w5 ⟨rfl, hB, hE⟩
          rw [HANS.out]
          have HO2 := Lib.hid (own_ext HO1.out hE (by have := HB3.out; intro k hk; simp at hk; omega))
          replace HB := Lib.hid hB
          clear hB hE
          go_wp2
          go_roundw
          case rel => exact ⟨m + 1, by omega, by go_num, _, HB.out, HO2.out, HN.out⟩
          case measure => simp [intOf]; omega
        · clear hB hO hall
          go_wp2
          go_ret
          exact ⟨rfl, HB.out.ext⟩

end Go.Proofs.Ytkdmilchklmefaa
