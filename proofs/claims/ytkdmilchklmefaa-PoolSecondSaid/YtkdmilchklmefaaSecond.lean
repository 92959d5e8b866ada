/- PoolSecond. -/
import Derived.Test.YtkdmilchklmefaaPS
namespace Go.Proofs.Ytkdmilchklmefaa
open Go.RowKit
set_option linter.unusedVariables false
set_option linter.unusedSimpArgs false

/-- Who was asked for doesn't go, where another may that wasn't. -/
theorem second_chance {F : List (Fr ByteArray)} {h : Nat} {next id : Int} {F0 : List (Fr ByteArray)} {h0 : Nat} (hh : h < F.length) (hu : Uniq F) (hv0 : vict (2 * F0.length + 1) F0 h0 = some (next, F, h)) (hne : next ≠ id) {i : Nat} (hi : find F id = some i) :
    (upd (upd F id mrkU) id mrkU).any cand = true ∧ ∀ r, vict (2 * (upd (upd F id mrkU) id mrkU).length + 1) (upd (upd F id mrkU) id mrkU) h = some r → r.1 ≠ id := by
  obtain ⟨fi, hfi, ht, hid⟩ := find_get hi
  obtain ⟨_, j, fj, hj, hc, hm, hjd⟩ := vict_spec _ _ _ _ hv0
  simp only [] at hj hjd
  have hil := (List.getElem?_eq_some_iff.1 hfi).1
  have hij : i ≠ j := by
    rintro rfl
    rw [hfi] at hj; injection hj with hj; subst hj
    exact hne (hjd.symm.trans hid)
  have u1 : upd F id mrkU = F.set i (mrkU fi) := upd_hit _ hi hfi
  have uq1 : Uniq (F.set i (mrkU fi)) := hu.set hfi (fun h => ⟨h, rfl⟩)
  have f1 : find (F.set i (mrkU fi)) id = some i := uq1.found (List.getElem?_set_self hil) ht hid
  have u2 : upd (upd F id mrkU) id mrkU = (F.set i (mrkU fi)).set i (mrkU (mrkU fi)) := by rw [u1]; exact upd_hit _ f1 (List.getElem?_set_self hil)
  rw [u2, List.set_set]
  have gi : (F.set i (mrkU (mrkU fi)))[i]? = some (mrkU (mrkU fi)) := List.getElem?_set_self hil
  have gj : (F.set i (mrkU (mrkU fi)))[j]? = some fj := by rw [List.getElem?_set_ne hij]; exact hj
  refine ⟨List.any_eq_true.2 ⟨fj, List.mem_of_getElem? gj, hc⟩, fun r hr => ?_⟩
  obtain ⟨m, f, hmi, hf, hft, hfid⟩ := vict_second _ _ h i j (mrkU (mrkU fi)) fj r (by simpa using hh) hij gi gj hc hm (.inl rfl) hr
  intro e
  rw [List.getElem?_set_ne (fun e => hmi e.symm)] at hf
  exact hmi (hu m i f fi hf hfi hft ht ((hfid.trans e).trans hid.symm))

set_option maxHeartbeats 2000000 in
theorem psec_many (frames id : Int) (A : Option Addr) (n c : Nat) (w : World) (hn : 300 < n) :
    Calls Try.prog 5 #[.int .i64 frames, .int .i64 id, .slice A n c] w fun e w' => e = .returned (.bool true) ∧ Ext [] w w' := by
  have hn2 : (300 : Int) < (n : Int) := by omega
  go_enter Try.func5, Try.ntmps5
  go_wp2_with (go_at_call 9; fail)
  refine (awake_any _).mono ?_
  rintro e w1 ⟨rfl, E1⟩
  have HE1 := Lib.hid E1
  clear E1
  go_wp2_with (go_at_call 9; fail)
  refine (awake_any _).mono ?_
  rintro e w2 ⟨rfl, E2⟩
  have HE2 := Lib.hid (HE1.out.trans E2)
  clear E2
  go_wp2
  go_ret
  exact ⟨rfl, HE2.out⟩

set_option maxRecDepth 100000 in
set_option maxHeartbeats 8000000 in
theorem psec_few (frames id : Int) (A : Option Addr) (c : Nat) (l : List Op) (w : World) (hn : l.length ≤ 300) (hO : Ops w A l) :
    Calls Try.prog 5 #[.int .i64 frames, .int .i64 id, .slice A l.length c] w fun e w' => e = .returned (.bool true) ∧ Ext [] w w' := by
  have hn2 : ¬ (300 : Int) < (l.length : Int) := by omega
  have HO := Lib.hid hO
  clear hO
  go_enter Try.func5, Try.ntmps5
  go_wp2_with (go_at_call 9; fail)
  refine (awake_any _).mono ?_
  rintro e w0 ⟨rfl, E0⟩
  have HE0 := Lib.hid E0
  clear E0
  go_wp2_with (go_at_call 16; fail)
  refine (played_any frames A c l w0 (HO.out.ext HE0.out) hn).mono ?_
  rintro e w1 ⟨rfl, D1, E1⟩
  have hf := playF_few l (List.replicate (many frames).toNat szero, 0) 0 (by omega) (Few.rep _ _ rfl (by omega))
  have hu := playF_uniq l (List.replicate (many frames).toNat szero, 0) (Uniq.rep _ _ rfl)
  generalize (playF l (List.replicate (many frames).toNat szero, 0)).1 = F at *
  generalize (playF l (List.replicate (many frames).toNat szero, 0)).2 = h at *
  have hb : ∃ b g, b = w0.heap.size + 1 ∧ PS w b g w1 F h := ⟨_, _, rfl, D1, hf.mono (by omega), hu, HE0.out.trans E1, by have := HE0.out.size; omega⟩
  obtain ⟨b, g, hbe, hps⟩ := hb
  rw [← hbe]
  have HB := Lib.hid hps
  clear hps hbe D1 E1 hf hu HE0
  cases ha : F.any cand with
  | false =>
    have HA := Lib.hid ha
    clear ha
    go_wp2_with (go_at_call 17; fail)
    refine (HB.out.vic_none HA.out).mono ?_
    rintro e w2 ⟨rfl, hB⟩
    replace HB := Lib.hid hB
    clear hB
    go_wp2_with (go_at_call 17; fail)
    refine (HB.out.vic_none HA.out).mono ?_
    rintro e w3 ⟨rfl, hB⟩
    replace HB := Lib.hid hB
    clear hB
    go_wp2_with (go_at_call 21; fail)
    refine (HB.out.get id).mono ?_
    rintro e w4 ⟨rfl, hB⟩
    replace HB := Lib.hid hB
    clear hB
    generalize (find F id).isSome = o1 at *
    go_wp2
    go_ret
    exact ⟨rfl, HB.out.ext⟩
  | true =>
    obtain ⟨id1, F1, h1, hv1, hvt1⟩ := vic_some (h := h) ha HB.out.p.hand
    have al1 : Alike F F1 := by have := (vict_spec _ _ _ _ hvt1).1; exact this
    have ha1 : F1.any cand = true := al1.any.trans ha
    have HV1 := Lib.hid hv1
    have HA1 := Lib.hid ha1
    clear ha hv1 hvt1 al1 ha1
    go_wp2_with (go_at_call 17; fail)
    refine (HB.out.vic_some HV1.out).mono ?_
    rintro e w2 ⟨rfl, hB⟩
    replace HB := Lib.hid hB
    clear hB HV1
    obtain ⟨id2, F2, h2, hv2, hvt2⟩ := vic_some (h := h1) HA1.out HB.out.p.hand
    have HV2 := Lib.hid hv2
    have HT2 := Lib.hid hvt2
    clear hv2 hvt2
    go_wp2_with (go_at_call 17; fail)
    refine (HB.out.vic_some HV2.out).mono ?_
    rintro e w3 ⟨rfl, hB⟩
    replace HB := Lib.hid hB
    have hh2 := hB.p.hand
    have hu2 := hB.uniq
    have HH2 := Lib.hid hh2
    have HU2 := Lib.hid hu2
    clear hB HV2 hh2 hu2
    cases hfi : find F2 id with
    | none =>
      have HF := Lib.hid hfi
      clear hfi
      go_wp2_with (go_at_call 21; fail)
      refine (HB.out.get id).mono ?_
      rintro e w4 ⟨rfl, hB⟩
      replace HB := Lib.hid hB
      clear hB
      rw [HF.out]
      simp only [Option.isSome_none]
      go_wp2
      go_ret
      exact ⟨rfl, HB.out.ext⟩
    | some i =>
      have HF := Lib.hid hfi
      clear hfi
      by_cases hne : id2 = id
      · subst hne
        go_wp2_with (go_at_call 21; fail)
        refine (HB.out.get id2).mono ?_
        rintro e w4 ⟨rfl, hB⟩
        replace HB := Lib.hid hB
        clear hB
        rw [HF.out]
        simp only [Option.isSome_some]
        go_wp2
        go_ret
        exact ⟨rfl, HB.out.ext⟩
      · obtain ⟨ha4, hr4⟩ := second_chance HH2.out HU2.out HT2.out hne HF.out
        have HA4 := Lib.hid ha4
        have HR4 := Lib.hid hr4
        clear ha4 hr4
        go_wp2_with (go_at_call 21; fail)
        refine (HB.out.get id).mono ?_
        rintro e w4 ⟨rfl, hB⟩
        replace HB := Lib.hid hB
        clear hB
        rw [HF.out]
        simp only [Option.isSome_some]
        go_wp2_with (go_at_call 21; fail)
        refine (HB.out.get id).mono ?_
        rintro e w5 ⟨rfl, hB⟩
        replace HB := Lib.hid hB
        clear hB
        obtain ⟨id5, F5, h5, hv5, hvt5⟩ := vic_some (h := h2) HA4.out HB.out.p.hand
        have hne5 := HR4.out _ hvt5
        simp only [] at hne5
        have hne6 : (id5 != id) = true := by simpa using hne5
        have HV5 := Lib.hid hv5
        clear hv5 hvt5
        go_wp2_with (go_at_call 17; fail)
        refine (HB.out.vic_some HV5.out).mono ?_
        rintro e w6 ⟨rfl, hB⟩
        replace HB := Lib.hid hB
        clear hB
        go_wp2
        go_ret
        exact ⟨rfl, HB.out.ext⟩

end Go.Proofs.Ytkdmilchklmefaa
