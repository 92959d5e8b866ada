/- The reference's Victim. -/
import Derived.Test.YtkdmilchklmefaaRPut
namespace Go.Proofs.Ytkdmilchklmefaa
open Go.RowKit
set_option linter.unusedVariables false
set_option linter.unusedSimpArgs false

theorem pg_sign {f : Fr ByteArray} (hv : (f.there = true → 0 ≤ f.id ∧ f.id < 32) ∧ 0 ≤ f.fixes) : (f.there = true ∧ pg f = f.id ∧ 0 ≤ f.id) ∨ (f.there = false ∧ pg f = -1) := by
  cases h : f.there with
  | true => left; refine ⟨rfl, ?_, (hv.1 h).1⟩; unfold pg; rw [if_pos h]
  | false => right; refine ⟨rfl, ?_⟩; unfold pg; rw [h]; rfl

set_option maxHeartbeats 1000000 in
theorem rvictim_none (w : World) (b g cap h : Nat) (tl : List Value) (F : List (Fr ByteArray)) (hp : RPool w b g cap tl F h) (ha : F.any cand = false) :
    Calls Try.prog 42 #[.pointer (some ⟨b, 0, none⟩)] w fun e w' => e = .returned (.tuple #[.int .i64 0, .int .i64 8]) ∧ w = w' := by
  have hfew := hp.few
  have c0 := hp.frames
  have HP := Lib.hid hp
  have HA : Hid (∀ f ∈ F, cand f = false) := fun f hf => by have := List.any_eq_false.1 ha f hf; simpa using this
  clear hp ha
  go_enter Try.func42, Try.ntmps42
  go_wp2
  go_loop [4, 13] (fun s k => s = .bool false ∧ ∃ j : Nat, j ≤ F.length ∧ k = .int .i64 j) (fun _ k => F.length - (intOf k).toNat)
  case atStart => exact ⟨rfl, 0, Nat.zero_le _, rfl⟩
  case round =>
    obtain ⟨rfl, j, hj, rfl⟩ := hrel
    by_cases hlt : j < F.length
    · obtain ⟨q, hq⟩ : ∃ q, F[j]? = some q := ⟨F[j], by simp [hlt]⟩
      have hn := HA.out q (List.mem_of_getElem? hq)
      obtain ⟨k0, _, _, k3, _, _⟩ := HP.out.cells hq
      have hs := pg_sign (HP.out.val q (List.mem_of_getElem? hq))
      clear hq
      rcases hs with ⟨h1, h2, h3⟩ | ⟨h1, h2⟩
      · rw [h2] at k0
        have hb : (q.fixes == 0) = false := by unfold cand at hn; rw [h1] at hn; simpa using hn
        generalize q.id = qi at *
        generalize q.fixes = qf at *
        clear hn h1 h2
        go_wp2
        go_round
        case rel => exact ⟨rfl, j + 1, by omega, by go_num⟩
        case measure => simp [intOf]; omega
      · rw [h2] at k0
        clear hn h1 h2
        go_wp2
        go_round
        case rel => exact ⟨rfl, j + 1, by omega, by go_num⟩
        case measure => simp [intOf]; omega
    · go_wp2
      go_loop [6] (fun _ => True) (fun _ => 1)
      case atStart => trivial
      case round =>
        go_wp2
        go_ret2
        exact ⟨rfl, rfl⟩

set_option maxHeartbeats 4000000 in
theorem rvictim_some (w : World) (b g cap h : Nat) (tl : List Value) (F : List (Fr ByteArray)) (hp : RPool w b g cap tl F h) (ha : F.any cand = true) (K : Nat) (id : Int) (F' : List (Fr ByteArray)) (h' : Nat) (hv : vict K F h = some (id, F', h')) :
    Calls Try.prog 42 #[.pointer (some ⟨b, 0, none⟩)] w fun e w' => e = .returned (.tuple #[.int .i64 id, .int .i64 0]) ∧ RU w w' b g cap tl F' h' := by
  have hfew := hp.few
  have c0 := hp.frames
  have HP := Lib.hid hp
  have HA := Lib.hid ha
  have HV := Lib.hid hv
  clear hp ha hv
  go_enter Try.func42, Try.ntmps42
  go_wp2
  go_loop [4, 13] (fun s k => ∃ j : Nat, j ≤ F.length ∧ k = .int .i64 j ∧ s = .bool ((F.take j).any cand)) (fun _ k => F.length - (intOf k).toNat)
  case atStart => exact ⟨0, Nat.zero_le _, rfl, rfl⟩
  case round =>
    obtain ⟨j, hj, rfl, rfl⟩ := hrel
    by_cases hlt : j < F.length
    · obtain ⟨q, hq⟩ : ∃ q, F[j]? = some q := ⟨F[j], by simp [hlt]⟩
      have hs : (F.take (j + 1)).any cand = ((F.take j).any cand || (q.there && (q.fixes == 0))) := by rw [List.take_add_one, hq, Option.toList_some, List.any_append]; simp [cand]
      obtain ⟨k0, _, _, k3, _, _⟩ := HP.out.cells hq
      have hsg := pg_sign (HP.out.val q (List.mem_of_getElem? hq))
      clear hq
      rcases hsg with ⟨h1, h2, h3⟩ | ⟨h1, h2⟩
      · rw [h2] at k0
        rw [h1] at hs
        generalize q.id = qi at *
        generalize q.fixes = qf at *
        have HS := Lib.hid hs
        clear hs h1 h2
        cases hacc : (F.take j).any cand with
        | true =>
          rw [hacc] at HS
          clear hacc
          go_wp2
          go_round
          case rel => exact ⟨j + 1, by omega, by go_num, by rw [HS.out]; simp⟩
          case measure => simp [intOf]; omega
        | false =>
          rw [hacc] at HS
          clear hacc
          cases hb : (qf == 0) with
          | true =>
            have e : qf = 0 := by simpa using hb
            subst e
            clear hb
            go_wp2
            go_round
            case rel => exact ⟨j + 1, by omega, by go_num, by rw [HS.out]; simp⟩
            case measure => simp [intOf]; omega
          | false =>
            rw [hb] at HS
            go_wp2
            go_round
            case rel => exact ⟨j + 1, by omega, by go_num, by rw [HS.out]; simp⟩
            case measure => simp [intOf]; omega
      · rw [h2] at k0
        rw [h1] at hs
        have HS := Lib.hid hs
        clear hs h1 h2
        cases hacc : (F.take j).any cand with
        | true =>
          rw [hacc] at HS
          clear hacc
          go_wp2
          go_round
          case rel => exact ⟨j + 1, by omega, by go_num, by rw [HS.out]; simp⟩
          case measure => simp [intOf]; omega
        | false =>
          rw [hacc] at HS
          clear hacc
          go_wp2
          go_round
          case rel => exact ⟨j + 1, by omega, by go_num, by rw [HS.out]; simp⟩
          case measure => simp [intOf]; omega
    · have e : j = F.length := by omega
      subst e
      have hall : (F.take F.length).any cand = true := by rw [List.take_length]; exact HA.out
      rw [hall]
      clear hall
      go_wp2
      go_loopg [6] K (fun kq p wr => ∃ (Fc : List (Fr ByteArray)) (hc : Nat), RPool wr b g cap tl Fc hc ∧ Fc.length = F.length ∧ vict kq Fc hc = some (id, F', h') ∧ Ext [b, g] w wr)
      case atStart => exact ⟨F, h, HP.out, rfl, HV.out, Ext.refl _ _⟩
      case round =>
        obtain ⟨Fc, hc, hp, hlen, hv, hext⟩ := hrel
        have hcl := hp.hand
        obtain ⟨q, hq⟩ : ∃ q, Fc[hc]? = some q := ⟨Fc[hc], by simp [hcl]⟩
        obtain ⟨k0, k1, k2, k3, k4, k5⟩ := hp.cells hq
        have hsg := pg_sign (hp.val q (List.mem_of_getElem? hq))
        have f2 := hp.free (hc * 6 + 2)
        have fb := hp.freeb 1
        have cb0 := hp.frames
        have cb1 := hp.handc
        have hne := hp.ne
        have hbl := hp.hd.lt
        have hgl := hp.hc.lt
        rw [hlen] at cb0
        have b0 : (0 : Int) ≤ (hc : Int) := by omega
        have b1 : (hc : Int) < (F.length : Int) := by omega
        cases gk with
        | zero => simp [vict] at hv
        | succ gk =>
        unfold vict at hv
        rw [hq] at hv
        simp only [] at hv
        have HQ := Lib.hid hq
        have HP2 := Lib.hid hp
        have HE := Lib.hid hext
        have HL := Lib.hid hlen
        have HV2 := Lib.hid hv
        have hgn : g ≠ b := fun e => hne e.symm
        have hm : ((hc : Int) + 1) % (F.length : Int) = ((nxt Fc.length hc : Nat) : Int) := by
          rw [hlen]; unfold nxt
          by_cases e : hc + 1 = F.length
          · rw [if_pos e]; have : (hc : Int) + 1 = (F.length : Int) := by omega
            rw [this, Int.emod_self]; rfl
          · rw [if_neg e, Int.emod_eq_of_lt (by omega) (by omega)]; rfl
        have HT : Hid (∀ w'', Ext [] (wr.setCell ⟨b, 1, none⟩ (.int .i64 (((hc : Int) + 1) % (F.length : Int)))) w'' → RPool w'' b g cap tl Fc (nxt Fc.length hc)) := fun w'' he => by
          rw [hm] at he
          exact (hp.turn (nxt_lt hcl)).same he
        have HET : Hid (∀ w'', Ext [] (wr.setCell ⟨b, 1, none⟩ (.int .i64 (((hc : Int) + 1) % (F.length : Int)))) w'' → Ext [b, g] w w'') := fun w'' he => (hext.setCell (.inl (by simp)) _).trans he.any
        have HS : Hid (∀ w'', Ext [] ((wr.setCell ⟨b, 1, none⟩ (.int .i64 (((hc : Int) + 1) % (F.length : Int)))).setCell ⟨g, hc * 6 + 2, none⟩ (.bool false)) w'' → RPool w'' b g cap tl (Fc.set hc { q with mark := false }) (nxt Fc.length hc)) := fun w'' he => by
          rw [hm] at he
          exact ((hp.turn (nxt_lt hcl)).set (f' := { q with mark := false }) hq (by omega) rfl (hp.val q (List.mem_of_getElem? hq))).same he
        have HES : Hid (∀ w'', Ext [] ((wr.setCell ⟨b, 1, none⟩ (.int .i64 (((hc : Int) + 1) % (F.length : Int)))).setCell ⟨g, hc * 6 + 2, none⟩ (.bool false)) w'' → Ext [b, g] w w'') := fun w'' he => ((hext.setCell (.inl (by simp)) _).setCell (.inl (by simp)) _).trans he.any
        have hq0 : 0 ≤ q.fixes := (hp.val q (List.mem_of_getElem? hq)).2
        clear hp hq hv hext HV HP hlen hcl HP2 HE hm
        rcases hsg with ⟨h1, h2, h3⟩ | ⟨h1, h2⟩
        · rw [h2] at k0
          by_cases hf0 : 0 < q.fixes
          · have HVV : Hid (vict gk Fc (nxt Fc.length hc) = some (id, F', h')) := by
              unfold Hid
              have := HV2.out
              unfold cand at this
              rw [h1, show (q.fixes == 0) = false from beq_eq_false_iff_ne.2 (by omega)] at this
              simpa using this
            generalize q.id = qi at *
            generalize q.fixes = qf at *
            clear HV2 h1 h2 HS HES
            go_wp2
            go_region
            go_wp2
            go_roundg gk
            case measure => omega
            case rel => exact ⟨Fc, _, HT.out _ (((Ext.refl _ _).alloc _).drew), HL.out, HVV.out, HET.out _ (((Ext.refl _ _).alloc _).drew)⟩
          · have e0 : q.fixes = 0 := by omega
            rw [e0] at k3
            cases hmk : q.mark with
            | true =>
              rw [hmk] at k2
              have HVV : Hid (vict gk (Fc.set hc { q with mark := false }) (nxt Fc.length hc) = some (id, F', h')) := by
                have hcd : cand q = true := by unfold cand; rw [h1, e0]; rfl
                have := HV2.out
                rw [if_pos hcd, if_pos hmk] at this
                exact this
              generalize ({ q with mark := false } : Fr ByteArray) = q' at *
              generalize q.id = qi at *
              clear HV2 h1 h2 e0 hmk hf0 hq0
              go_wp2
              go_region
              go_wp2
              go_roundg gk
              case measure => omega
              case rel => exact ⟨_, _, HS.out _ (((Ext.refl _ _).alloc _).drew), by rw [List.length_set]; exact HL.out, HVV.out, HES.out _ (((Ext.refl _ _).alloc _).drew)⟩
            | false =>
              rw [hmk] at k2
              have HVV : Hid ((q.id, Fc, nxt Fc.length hc) = (id, F', h')) := by
                unfold Hid
                have := HV2.out
                unfold cand at this
                rw [h1, e0, hmk] at this
                simpa using this
              generalize q.id = qi at *
              clear HV2 h1 h2 e0 hmk hf0 hq0 HS HES
              go_wp2
              go_region
              go_wp2
              go_ret2
              obtain ⟨rfl, e2⟩ := Prod.mk.inj HVV.out
              obtain ⟨rfl, rfl⟩ := Prod.mk.inj e2
              exact ⟨rfl, HT.out _ (((Ext.refl _ _).alloc _).drew), HET.out _ (((Ext.refl _ _).alloc _).drew)⟩
        · rw [h2] at k0
          have HVV : Hid (vict gk Fc (nxt Fc.length hc) = some (id, F', h')) := by
            unfold Hid
            have := HV2.out
            unfold cand at this
            rw [h1] at this
            simpa using this
          clear HV2 h1 h2 HS HES
          go_wp2
          go_region
          go_wp2
          go_roundg gk
          case measure => omega
          case rel => exact ⟨Fc, _, HT.out _ (((Ext.refl _ _).alloc _).drew), HL.out, HVV.out, HET.out _ (((Ext.refl _ _).alloc _).drew)⟩

end Go.Proofs.Ytkdmilchklmefaa
