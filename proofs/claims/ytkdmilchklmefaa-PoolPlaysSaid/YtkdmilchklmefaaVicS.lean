/- Victim: the page that is to go next. -/
import Derived.Test.YtkdmilchklmefaaFindS
import Derived.Test.YtkdmilchklmefaaPure
namespace Go.Proofs.Ytkdmilchklmefaa
open Go.RowKit
set_option linter.unusedVariables false
set_option linter.unusedSimpArgs false


set_option maxHeartbeats 2000000 in
theorem svictim_none (w : World) (b g h : Nat) (F : List (Fr ByteArray)) (hp : sPool w b g F h) (ha : F.any cand = false) :
    Calls Try.prog 17 #[.pointer (some ⟨b, 0, none⟩)] w fun e w' => e = .returned (.tuple #[.int .i64 0, .int .i64 8]) ∧ w = w' := by
  have hfew := hp.few
  have c0 := hp.frames
  have HP := Lib.hid hp
  have HA : Hid (∀ f ∈ F, cand f = false) := fun f hf => by have := List.any_eq_false.1 ha f hf; simpa using this
  clear hp ha
  go_enter Try.func17, Try.ntmps17
  go_wp2
  go_loop [4, 14] (fun s k => s = .bool false ∧ ∃ j : Nat, j ≤ F.length ∧ k = .int .i64 j) (fun _ k => F.length - (intOf k).toNat)
  case atStart => exact ⟨rfl, 0, Nat.zero_le _, rfl⟩
  case round =>
    obtain ⟨rfl, j, hj, rfl⟩ := hrel
    by_cases hlt : j < F.length
    · obtain ⟨q, hq⟩ : ∃ q, F[j]? = some q := ⟨F[j], by simp [hlt]⟩
      have hn := HA.out q (List.mem_of_getElem? hq)
      obtain ⟨k0, _, _, _, k4, _⟩ := HP.out.cells hq
      obtain ⟨th, qi, qx, qm, qf, qd, qr⟩ := q
      simp only [cand] at hn k0 k4
      clear hq
      cases th with
      | false =>
        clear hn
        go_wp2
        go_round
        case rel => exact ⟨rfl, j + 1, by omega, by go_num⟩
        case measure => simp [intOf]; omega
      | true =>
        have hb : (qf == 0) = false := by simpa using hn
        clear hn
        go_wp2
        go_round
        case rel => exact ⟨rfl, j + 1, by omega, by go_num⟩
        case measure => simp [intOf]; omega
    · go_wp2
      go_ret2
      exact ⟨rfl, rfl⟩

set_option maxHeartbeats 4000000 in
theorem svictim_some (w : World) (b g h : Nat) (F : List (Fr ByteArray)) (hp : sPool w b g F h) (hfx : ∀ f ∈ F, 0 ≤ f.fixes) (ha : F.any cand = true) (K : Nat) (id : Int) (F' : List (Fr ByteArray)) (h' : Nat) (hv : vict K F h = some (id, F', h')) :
    Calls Try.prog 17 #[.pointer (some ⟨b, 0, none⟩)] w fun e w' => e = .returned (.tuple #[.int .i64 id, .int .i64 0]) ∧ PU Value.string 66 71 w w' b g F' h' := by
  have hfew := hp.few
  have c0 := hp.frames
  have HP := Lib.hid hp
  have HA := Lib.hid ha
  have HV := Lib.hid hv
  have HX := Lib.hid hfx
  clear hp ha hv hfx
  go_enter Try.func17, Try.ntmps17
  go_wp2
  go_loop [4, 14] (fun s k => ∃ j : Nat, j ≤ F.length ∧ k = .int .i64 j ∧ s = .bool ((F.take j).any cand)) (fun _ k => F.length - (intOf k).toNat)
  case atStart => exact ⟨0, Nat.zero_le _, rfl, rfl⟩
  case round =>
    obtain ⟨j, hj, rfl, rfl⟩ := hrel
    by_cases hlt : j < F.length
    · obtain ⟨q, hq⟩ : ∃ q, F[j]? = some q := ⟨F[j], by simp [hlt]⟩
      have hs : (F.take (j + 1)).any cand = ((F.take j).any cand || cand q) := by rw [List.take_add_one, hq, Option.toList_some, List.any_append]; simp
      obtain ⟨k0, _, _, _, k4, _⟩ := HP.out.cells hq
      obtain ⟨th, qi, qx, qm, qf, qd, qr⟩ := q
      simp only [cand] at hs k0 k4
      have HS := Lib.hid hs
      clear hs hq
      cases hacc : (F.take j).any cand with
      | true =>
        rw [hacc] at HS
        clear hacc
        go_wp2
        go_round
        case rel => exact ⟨j + 1, by omega, by go_num, by rw [HS.out]; simp⟩
        case measure => simp [intOf]; omega
      | false =>
        rw [hacc] at HS
        clear hacc
        cases th with
        | false =>
          go_wp2
          go_round
          case rel => exact ⟨j + 1, by omega, by go_num, by rw [HS.out]; simp⟩
          case measure => simp [intOf]; omega
        | true =>
          cases hb : (qf == 0) with
          | true =>
            have e : qf = 0 := by simpa using hb
            subst e
            clear hb
            go_wp2
            go_round
            case rel => exact ⟨j + 1, by omega, by go_num, by rw [HS.out]; simp⟩
            case measure => simp [intOf]; omega
          | false =>
            rw [hb] at HS
            go_wp2
            go_round
            case rel => exact ⟨j + 1, by omega, by go_num, by rw [HS.out]; simp⟩
            case measure => simp [intOf]; omega
    · have e : j = F.length := by omega
      subst e
      have hall : (F.take F.length).any cand = true := by rw [List.take_length]; exact HA.out
      rw [hall]
      clear hall
      go_wp2
      go_loopg [6] K (fun kq p wr => ∃ (Fc : List (Fr ByteArray)) (hc : Nat), sPool wr b g Fc hc ∧ Fc.length = F.length ∧ (∀ f ∈ Fc, 0 ≤ f.fixes) ∧ vict kq Fc hc = some (id, F', h') ∧ Ext [b, g] w wr)
      case atStart => exact ⟨F, h, HP.out, rfl, HX.out, HV.out, Ext.refl _ _⟩
      case round =>
        obtain ⟨Fc, hc, hp, hlen, hfx, hv, hext⟩ := hrel
        have hcl := hp.hand
        obtain ⟨q, hq⟩ : ∃ q, Fc[hc]? = some q := ⟨Fc[hc], by simp [hcl]⟩
        have hq0 := hfx q (List.mem_of_getElem? hq)
        obtain ⟨k0, k1, _, k3, k4, _⟩ := hp.cells hq
        have f3 := hp.free (hc * 7 + 3)
        have fb := hp.freeb 1
        have cb0 := hp.frames
        have cb1 := hp.handc
        have hne := hp.ne
        rw [hlen] at cb0
        have b0 : (0 : Int) ≤ (hc : Int) := by omega
        have b1 : (hc : Int) < (F.length : Int) := by omega
        cases gk with
        | zero => simp [vict] at hv
        | succ gk =>
        unfold vict at hv
        rw [hq] at hv
        simp only [] at hv
        have HQ := Lib.hid hq
        have HP2 := Lib.hid hp
        have HE := Lib.hid hext
        have HL := Lib.hid hlen
        have HFX := Lib.hid hfx
        have HV2 := Lib.hid hv
        have hgn : g ≠ b := fun e => hne e.symm
        obtain ⟨th, qi, qx, qm, qf, qd, qr⟩ := q
        simp only [cand] at HV2 k0 k1 k3 k4 hq0
        clear hp hq hv hfx hext HV HP hlen hcl
        by_cases hw : hc + 1 = F.length
        · have hnx : Hid (nxt Fc.length hc = 0) := by unfold Hid nxt; rw [HL.out, if_pos hw]
          have hb : (((hc : Int) + 1) == (F.length : Int)) = true := beq_iff_eq.2 (by omega)
          have hn0 : 0 < Fc.length := by rw [HL.out]; omega
          have HT : Hid (∀ n m, sPool ((((wr.drewN n).setCell ⟨b, 1, none⟩ (.int .i64 ((hc : Int) + 1))).drewN m).setCell ⟨b, 1, none⟩ (.int .i64 0)) b g Fc 0) := fun n m => HP2.out.turn3 _ hn0 n m
          have HET : Hid (∀ n m, Ext [b, g] w ((((wr.drewN n).setCell ⟨b, 1, none⟩ (.int .i64 ((hc : Int) + 1))).drewN m).setCell ⟨b, 1, none⟩ (.int .i64 0))) := fun n m => (((HE.out.drewN n).setCell (.inl (by simp)) _).drewN m).setCell (.inl (by simp)) _
          clear hw hn0
          cases th with
          | false =>
            have HVV : Hid (vict gk Fc (0) = some (id, F', h')) := by unfold Hid; have := HV2.out; rw [hnx.out] at this; simpa using this
            clear HV2 hnx
            go_wp2
            repeat (go_quiet (fail); go_wp2)
            go_roundg gk
            case measure => omega
            case rel => exact ⟨Fc, 0, HT.out _ _, HL.out, HFX.out, HVV.out, HET.out _ _⟩
          | true =>
            by_cases hf0 : 0 < qf
            · have hqb : (qf == 0) = false := beq_eq_false_iff_ne.2 (by omega)
              have HVV : Hid (vict gk Fc (0) = some (id, F', h')) := by unfold Hid; have := HV2.out; rw [hnx.out, hqb] at this; simpa using this
              clear HV2 hnx hqb
              go_wp2
              repeat (go_quiet (fail); go_wp2)
              go_roundg gk
              case measure => omega
              case rel => exact ⟨Fc, 0, HT.out _ _, HL.out, HFX.out, HVV.out, HET.out _ _⟩
            · have hq00 : qf = 0 := by omega
              subst hq00
              clear hf0 hq0
              cases qm with
              | true =>
                have HVV : Hid (vict gk (Fc.set hc ⟨true, qi, qx, false, 0, qd, qr⟩) (0) = some (id, F', h')) := by unfold Hid; have := HV2.out; rw [hnx.out] at this; simpa using this
                have HS : Hid (∀ n m, sPool (((((wr.drewN n).setCell ⟨b, 1, none⟩ (.int .i64 ((hc : Int) + 1))).drewN m).setCell ⟨b, 1, none⟩ (.int .i64 0)).setCell ⟨g, hc * 7 + 3, none⟩ (.bool false)) b g (Fc.set hc ⟨true, qi, qx, false, 0, qd, qr⟩) (0)) := fun n m => (HT.out n m).set HQ.out (by omega) rfl
                have HES : Hid (∀ n m, Ext [b, g] w (((((wr.drewN n).setCell ⟨b, 1, none⟩ (.int .i64 ((hc : Int) + 1))).drewN m).setCell ⟨b, 1, none⟩ (.int .i64 0)).setCell ⟨g, hc * 7 + 3, none⟩ (.bool false))) := fun n m => (HET.out n m).setCell (.inl (by simp)) _
                have HFS : Hid (∀ f ∈ Fc.set hc ⟨true, qi, qx, false, 0, qd, qr⟩, 0 ≤ f.fixes) := fun f hf => by
                  rcases List.mem_or_eq_of_mem_set hf with h1 | h1
                  · exact HFX.out f h1
                  · subst h1; simp
                clear HV2 hnx
                go_wp2
                repeat (go_quiet (fail); go_wp2)
                go_roundg gk
                case measure => omega
                case rel => exact ⟨_, 0, HS.out _ _, by rw [List.length_set]; exact HL.out, HFS.out, HVV.out, HES.out _ _⟩
              | false =>
                have HVV : Hid ((qi, Fc, 0) = (id, F', h')) := by unfold Hid; have := HV2.out; rw [hnx.out] at this; simpa using this
                clear HV2 hnx
                go_wp2
                repeat (go_quiet (fail); go_wp2)
                go_ret2
                obtain ⟨rfl, e2⟩ := Prod.mk.inj HVV.out
                obtain ⟨rfl, rfl⟩ := Prod.mk.inj e2
                exact ⟨rfl, HT.out _ _, HET.out _ _⟩
        · have hnx : Hid (nxt Fc.length hc = hc + 1) := by unfold Hid nxt; rw [HL.out, if_neg hw]
          have hb : (((hc : Int) + 1) == (F.length : Int)) = false := beq_eq_false_iff_ne.2 (by omega)
          have hn0 : hc + 1 < Fc.length := by rw [HL.out]; omega
          have HT : Hid (∀ n m, sPool (((wr.drewN n).setCell ⟨b, 1, none⟩ (.int .i64 ((hc : Int) + 1))).drewN m) b g Fc (hc + 1)) := fun n m => ((HP2.out.same ((Ext.refl _ _).drewN n)).turn hn0).same ((Ext.refl _ _).drewN m)
          have HET : Hid (∀ n m, Ext [b, g] w (((wr.drewN n).setCell ⟨b, 1, none⟩ (.int .i64 ((hc : Int) + 1))).drewN m)) := fun n m => ((HE.out.drewN n).setCell (.inl (by simp)) _).drewN m
          clear hw hn0
          cases th with
          | false =>
            have HVV : Hid (vict gk Fc (hc + 1) = some (id, F', h')) := by unfold Hid; have := HV2.out; rw [hnx.out] at this; simpa using this
            clear HV2 hnx
            go_wp2
            repeat (go_quiet (fail); go_wp2)
            go_roundg gk
            case measure => omega
            case rel => exact ⟨Fc, hc + 1, HT.out _ _, HL.out, HFX.out, HVV.out, HET.out _ _⟩
          | true =>
            by_cases hf0 : 0 < qf
            · have hqb : (qf == 0) = false := beq_eq_false_iff_ne.2 (by omega)
              have HVV : Hid (vict gk Fc (hc + 1) = some (id, F', h')) := by unfold Hid; have := HV2.out; rw [hnx.out, hqb] at this; simpa using this
              clear HV2 hnx hqb
              go_wp2
              repeat (go_quiet (fail); go_wp2)
              go_roundg gk
              case measure => omega
              case rel => exact ⟨Fc, hc + 1, HT.out _ _, HL.out, HFX.out, HVV.out, HET.out _ _⟩
            · have hq00 : qf = 0 := by omega
              subst hq00
              clear hf0 hq0
              cases qm with
              | true =>
                have HVV : Hid (vict gk (Fc.set hc ⟨true, qi, qx, false, 0, qd, qr⟩) (hc + 1) = some (id, F', h')) := by unfold Hid; have := HV2.out; rw [hnx.out] at this; simpa using this
                have HS : Hid (∀ n m, sPool ((((wr.drewN n).setCell ⟨b, 1, none⟩ (.int .i64 ((hc : Int) + 1))).drewN m).setCell ⟨g, hc * 7 + 3, none⟩ (.bool false)) b g (Fc.set hc ⟨true, qi, qx, false, 0, qd, qr⟩) (hc + 1)) := fun n m => (HT.out n m).set HQ.out (by omega) rfl
                have HES : Hid (∀ n m, Ext [b, g] w ((((wr.drewN n).setCell ⟨b, 1, none⟩ (.int .i64 ((hc : Int) + 1))).drewN m).setCell ⟨g, hc * 7 + 3, none⟩ (.bool false))) := fun n m => (HET.out n m).setCell (.inl (by simp)) _
                have HFS : Hid (∀ f ∈ Fc.set hc ⟨true, qi, qx, false, 0, qd, qr⟩, 0 ≤ f.fixes) := fun f hf => by
                  rcases List.mem_or_eq_of_mem_set hf with h1 | h1
                  · exact HFX.out f h1
                  · subst h1; simp
                clear HV2 hnx
                go_wp2
                repeat (go_quiet (fail); go_wp2)
                go_roundg gk
                case measure => omega
                case rel => exact ⟨_, hc + 1, HS.out _ _, by rw [List.length_set]; exact HL.out, HFS.out, HVV.out, HES.out _ _⟩
              | false =>
                have HVV : Hid ((qi, Fc, hc + 1) = (id, F', h')) := by unfold Hid; have := HV2.out; rw [hnx.out] at this; simpa using this
                clear HV2 hnx
                go_wp2
                repeat (go_quiet (fail); go_wp2)
                go_ret2
                obtain ⟨rfl, e2⟩ := Prod.mk.inj HVV.out
                obtain ⟨rfl, rfl⟩ := Prod.mk.inj e2
                exact ⟨rfl, HT.out _ _, HET.out _ _⟩

end Go.Proofs.Ytkdmilchklmefaa
