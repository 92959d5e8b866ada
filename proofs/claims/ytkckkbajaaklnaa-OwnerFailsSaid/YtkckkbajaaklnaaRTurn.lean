/- The reference's turn, Ship, Land, Leave, Heal. -/
import Derived.Test.YtkckkbajaaklnaaRef
namespace Go.Proofs.Ytkckkbajaaklnaa
open Go.RowKit
set_option linter.unusedVariables false
set_option linter.unusedSimpArgs false

set_option maxHeartbeats 1000000 in
theorem rturn_any (b g : Nat) (L : List (Int × Int)) (w : World) (h : Dir w 61 70 b g L) (x fk fn tk tn : Int) :
    Calls Try.prog 36 #[.pointer (some ⟨b, 0, none⟩), .int .i64 x, .agg #[.int .i64 fk, .int .i64 fn], .agg #[.int .i64 tk, .int .i64 tn]] w fun e w' =>
      e = .returned (.int .i64 (turnE L x fk fn tk tn)) ∧ Upd w w' 61 70 b g (turnL L x fk fn tk tn) := by
  have hgs : g < w.heap.size := lt_of_block h.hc
  have hne : g ≠ w.heap.size := by omega
  have hne1 : g ≠ w.heap.size + 1 := by omega
  have hbs : b < w.heap.size := lt_of_block h.hd
  have hnb : b ≠ w.heap.size := by omega
  have hnb1 : b ≠ w.heap.size + 1 := by omega
  unfold turnE turnL turnOk
  have hc := h.cell
  have hf := h.few
  by_cases hx : inP L x
  · obtain ⟨p, rfl⟩ := Int.eq_ofNat_of_zero_le hx.1
    have hp : p < L.length := by have := hx.2; omega
    have hv := pl_get hp
    rw [show pl L (p : Int) = ((pl L (p : Int)).1, (pl L (p : Int)).2) from rfl]
    generalize (pl L (p : Int)).1 = k at *
    generalize (pl L (p : Int)).2 = v at *
    obtain ⟨c0, c1⟩ := h.cells hv
    have f0 := h.free (p * 2)
    have f1 := h.free (p * 2 + 1)
    have b0 : (0 : Int) ≤ (p : Int) := by omega
    have b1 : (p : Int) < (L.length : Int) := by omega
    have H := Lib.hid h
    have HX := Lib.hid hx
    have HV := Lib.hid hv
    rcases Bool.eq_false_or_eq_true (nodeB fn) with hn | hn
    rotate_left
    · simp only [hx, hn, true_and, Bool.false_eq_true, false_and, if_false]
      have HN := Lib.hid hn
      clear hn h hx hv
      go_enter Try.func36, Try.ntmps36
      go_wp2_with (first | (go_at_call 34; refine (rok_yes _ ((H.out.alloc _).alloc _) HX.out).mono ?_; rintro e w' ⟨rfl, rfl⟩) | (go_at_call 35; (with_reducible refine (rnode_is fn _ HN.out).mono ?_); rintro e w' ⟨rfl, rfl⟩))
      go_ret
      exact ⟨rfl, (H.out.alloc _).alloc _, ((Ext.refl _ _).alloc _).alloc _⟩
    · rcases Bool.eq_false_or_eq_true (nodeB tn) with hm | hm
      rotate_left
      · simp only [hx, hn, hm, true_and, Bool.false_eq_true, false_and, and_false, if_false]
        have HN := Lib.hid hn
        have HM := Lib.hid hm
        clear hn hm h hx hv
        go_enter Try.func36, Try.ntmps36
        go_wp2_with (first | (go_at_call 34; refine (rok_yes _ ((H.out.alloc _).alloc _) HX.out).mono ?_; rintro e w' ⟨rfl, rfl⟩) | (go_at_call 35; (with_reducible refine (rnode_is fn _ HN.out).mono ?_); rintro e w' ⟨rfl, rfl⟩) | (go_at_call 35; (with_reducible refine (rnode_is tn _ HM.out).mono ?_); rintro e w' ⟨rfl, rfl⟩))
        go_ret
        exact ⟨rfl, (H.out.alloc _).alloc _, ((Ext.refl _ _).alloc _).alloc _⟩
      · simp only [hx, hn, hm, true_and, if_true, Prod.mk.injEq]
        have HN := Lib.hid hn
        have HM := Lib.hid hm
        clear hn hm h hx hv
        by_cases hk : k = fk ∧ v = fn
        · obtain ⟨rfl, rfl⟩ := hk
          simp only [and_self, if_true, Int.toNat_natCast]
          go_enter Try.func36, Try.ntmps36
          go_wp2_with (first | (go_at_call 34; refine (rok_yes _ ((H.out.alloc _).alloc _) HX.out).mono ?_; rintro e w' ⟨rfl, rfl⟩) | (go_at_call 35; (with_reducible refine (rnode_is v _ HN.out).mono ?_); rintro e w' ⟨rfl, rfl⟩) | (go_at_call 35; (with_reducible refine (rnode_is tn _ HM.out).mono ?_); rintro e w' ⟨rfl, rfl⟩))
          go_quiet (fail)
          go_wp2
          go_region
          go_wp2
          go_ret
          first
          | exact ⟨rfl, Upd.set ((H.out.alloc _).alloc _) (((Ext.refl _ _).alloc _).alloc _) hp _ _ _⟩
          | (trace_state; fail)
        · rw [if_neg hk, if_neg hk]
          have hd : (k == fk) = false ∨ ((k == fk) = true ∧ (v == fn) = false) := by
            by_cases h1 : k = fk
            · right; exact ⟨beq_iff_eq.2 h1, beq_eq_false_iff_ne.2 fun h2 => hk ⟨h1, h2⟩⟩
            · left; exact beq_eq_false_iff_ne.2 h1
          clear hk
          rcases hd with hd | ⟨hd, hd2⟩
          all_goals
            go_enter Try.func36, Try.ntmps36
            go_wp2_with (first | (go_at_call 34; refine (rok_yes _ ((H.out.alloc _).alloc _) HX.out).mono ?_; rintro e w' ⟨rfl, rfl⟩) | (go_at_call 35; (with_reducible refine (rnode_is fn _ HN.out).mono ?_); rintro e w' ⟨rfl, rfl⟩) | (go_at_call 35; (with_reducible refine (rnode_is tn _ HM.out).mono ?_); rintro e w' ⟨rfl, rfl⟩))
            go_quiet (fail)
            go_wp2
            go_ret
            exact ⟨rfl, ((H.out.alloc _).alloc _).drewN _, (((Ext.refl _ _).alloc _).alloc _).drewN _⟩
  · simp only [hx, false_and, if_false]
    have H := Lib.hid h
    have HX := Lib.hid hx
    clear h hx
    go_enter Try.func36, Try.ntmps36
    go_wp2_with (go_at_call 34; refine (rok_no _ ((H.out.alloc _).alloc _) HX.out).mono ?_; rintro e w' ⟨rfl, rfl⟩)
    go_ret
    exact ⟨rfl, (H.out.alloc _).alloc _, ((Ext.refl _ _).alloc _).alloc _⟩

set_option maxHeartbeats 400000 in
theorem rship_any (b g : Nat) (L : List (Int × Int)) (w : World) (h : Dir w 61 70 b g L) (x f t : Int) :
    Calls Try.prog 25 #[.pointer (some ⟨b, 0, none⟩), .int .i64 x, .int .i64 f, .int .i64 t] w fun e w' => e = .returned (.int .i64 (shipE L x f t)) ∧ Upd w w' 61 70 b g (shipL L x f t) := by
  have H := Lib.hid h
  clear h
  unfold shipE shipL
  by_cases hft : f = t
  · subst hft
    rw [if_pos rfl, if_pos rfl]
    go_enter Try.func25, Try.ntmps25
    go_wp2
    go_ret
    exact ⟨rfl, Upd.refl H.out 0⟩
  · rw [if_neg hft, if_neg hft]
    have hb : (f == t) = false := beq_eq_false_iff_ne.2 hft
    clear hft
    go_enter Try.func25, Try.ntmps25
    go_wp2_with (go_at_call 36; refine (rturn_any b g L _ H.out x 1 f 2 t).mono ?_; rintro e w' ⟨rfl, hu⟩)
    go_ret
    exact ⟨rfl, hu⟩

set_option maxHeartbeats 400000 in
theorem rland_any (b g : Nat) (L : List (Int × Int)) (w : World) (h : Dir w 61 70 b g L) (x f : Int) :
    Calls Try.prog 26 #[.pointer (some ⟨b, 0, none⟩), .int .i64 x, .int .i64 f] w fun e w' => e = .returned (.int .i64 (landE L x f)) ∧ Upd w w' 61 70 b g (landL L x f) := by
  have H := Lib.hid h
  clear h
  go_enter Try.func26, Try.ntmps26
  go_wp2_with (go_at_call 36; refine (rturn_any b g L _ H.out x 2 f 1 f).mono ?_; rintro e w' ⟨rfl, hu⟩)
  go_ret
  exact ⟨rfl, hu⟩

set_option maxHeartbeats 400000 in
theorem rleave_any (b g : Nat) (L : List (Int × Int)) (w : World) (h : Dir w 61 70 b g L) (x f : Int) :
    Calls Try.prog 27 #[.pointer (some ⟨b, 0, none⟩), .int .i64 x, .int .i64 f] w fun e w' => e = .returned (.int .i64 (leaveE L x f)) ∧ Upd w w' 61 70 b g (leaveL L x f) := by
  have H := Lib.hid h
  clear h
  go_enter Try.func27, Try.ntmps27
  go_wp2_with (go_at_call 36; refine (rturn_any b g L _ H.out x 1 f 0 0).mono ?_; rintro e w' ⟨rfl, hu⟩)
  go_ret
  exact ⟨rfl, hu⟩

set_option maxHeartbeats 1000000 in
theorem rheal_any (b g : Nat) (L : List (Int × Int)) (w : World) (h : Dir w 61 70 b g L) (x : Int) (hnodes : ∀ q ∈ L, nodeB q.2 = true) :
    Calls Try.prog 30 #[.pointer (some ⟨b, 0, none⟩), .int .i64 x] w fun e w' => e = .returned (.int .i64 (healE L x)) ∧ Upd w w' 61 70 b g (healL L x) := by
  by_cases hx : inP L x
  · obtain ⟨p, rfl⟩ := Int.eq_ofNat_of_zero_le hx.1
    have hp : p < L.length := by have := hx.2; omega
    have hv := pl_get hp
    have hnq : nodeB (pl L (p : Int)).2 = true := hnodes _ (List.mem_of_getElem? hv)
    have hwk : whereK L (p : Int) = (pl L (p : Int)).1 := by unfold whereK; rw [if_pos hx]
    have hwn : whereN L (p : Int) = (pl L (p : Int)).2 := by unfold whereN; rw [if_pos hx]
    have hw := rwhere_any b g L w h p
    rw [hwk, hwn] at hw
    have ht : ∀ w', Dir w' 61 70 b g L → Calls Try.prog 36 #[.pointer (some ⟨b, 0, none⟩), .int .i64 (p : Int), .agg #[.int .i64 (pl L (p : Int)).1, .int .i64 (pl L (p : Int)).2], .agg #[.int .i64 0, .int .i64 0]] w' fun e w'' =>
        e = .returned (.int .i64 0) ∧ Upd w' w'' 61 70 b g (L.set p (0, 0)) := fun w' hd => by
      have := rturn_any b g L w' hd p (pl L (p : Int)).1 (pl L (p : Int)).2 0 0
      have hh : turnOk L (p : Int) (pl L (p : Int)).2 0 := ⟨hx, hnq, by decide⟩
      have e1 : turnE L (p : Int) (pl L (p : Int)).1 (pl L (p : Int)).2 0 0 = 0 := by unfold turnE; rw [if_pos hh]; exact if_pos rfl
      have e2 : turnL L (p : Int) (pl L (p : Int)).1 (pl L (p : Int)).2 0 0 = L.set p (0, 0) := by unfold turnL; rw [if_pos ⟨hh, rfl⟩, Int.toNat_natCast]
      rwa [e1, e2] at this
    unfold healE healL
    clear hv hnq hwk hwn
    generalize (pl L (p : Int)).1 = k at *
    generalize (pl L (p : Int)).2 = v at *
    have HW := Lib.hid hw
    have HT := Lib.hid ht
    have H := Lib.hid h
    have HX := Lib.hid hx
    simp only [hx, true_and, if_true, Int.toNat_natCast]
    clear hw ht h hx
    by_cases hk : k = 3
    · subst hk
      simp only [if_true]
      go_enter Try.func30, Try.ntmps30
      go_wp2_with (go_at_call 32; fail)
      refine HW.out.mono ?_
      rintro e w1 ⟨rfl, E1⟩
      have HE := Lib.hid E1
      clear E1
      go_wp2_with (first | (go_at_call 34; refine (rok_yes _ ((H.out.ext HE.out (by simp) (by simp)).alloc _) HX.out).mono ?_; rintro e w' ⟨rfl, rfl⟩) | (go_at_call 36; fail))
      refine (HT.out _ ((H.out.ext HE.out (by simp) (by simp)).alloc _)).mono ?_
      rintro e w2 ⟨rfl, D2, E2⟩
      have HD2 := Lib.hid D2
      have HE2 := Lib.hid (((HE.out.mono (S' := [g]) (by simp)).alloc _).trans E2)
      clear D2 E2
      go_wp2
      go_ret
      exact ⟨rfl, HD2.out, HE2.out⟩
    · simp only [hk, if_false]
      have hb2 : (k != 3) = true := by rw [bne_iff_ne]; exact hk
      clear hk
      go_enter Try.func30, Try.ntmps30
      go_wp2_with (go_at_call 32; fail)
      refine HW.out.mono ?_
      rintro e w1 ⟨rfl, E1⟩
      have HE := Lib.hid E1
      clear E1
      go_wp2_with (first | (go_at_call 34; refine (rok_yes _ ((H.out.ext HE.out (by simp) (by simp)).alloc _) HX.out).mono ?_; rintro e w' ⟨rfl, rfl⟩))
      go_ret
      exact ⟨rfl, (H.out.ext HE.out (by simp) (by simp)).alloc _, (HE.out.mono (by simp)).alloc _⟩
  · have hwk : whereK L x = 0 := by unfold whereK; rw [if_neg hx]
    have hwn : whereN L x = 0 := by unfold whereN; rw [if_neg hx]
    have hw := rwhere_any b g L w h x
    rw [hwk, hwn] at hw
    have ht : ∀ w', Dir w' 61 70 b g L → Calls Try.prog 36 #[.pointer (some ⟨b, 0, none⟩), .int .i64 x, .agg #[.int .i64 0, .int .i64 0], .agg #[.int .i64 0, .int .i64 0]] w' fun e w'' =>
        e = .returned (.int .i64 1) ∧ Upd w' w'' 61 70 b g L := fun w' hd => by
      have := rturn_any b g L w' hd x 0 0 0 0
      have e1 : turnE L x 0 0 0 0 = 1 := by unfold turnE; rw [if_neg (fun hh => hx hh.1)]
      have e2 : turnL L x 0 0 0 0 = L := by unfold turnL; rw [if_neg (fun hh => hx hh.1.1)]
      rwa [e1, e2] at this
    unfold healE healL
    simp only [hx, false_and, if_false]
    have HW := Lib.hid hw
    have HT := Lib.hid ht
    have H := Lib.hid h
    have HX := Lib.hid hx
    clear hw ht h hx hwk hwn
    go_enter Try.func30, Try.ntmps30
    go_wp2_with (go_at_call 32; fail)
    refine HW.out.mono ?_
    rintro e w1 ⟨rfl, E1⟩
    have HE := Lib.hid E1
    clear E1
    go_wp2_with (first | (go_at_call 34; refine (rok_no _ ((H.out.ext HE.out (by simp) (by simp)).alloc _) HX.out).mono ?_; rintro e w' ⟨rfl, rfl⟩) | (go_at_call 36; fail))
    refine (HT.out _ ((H.out.ext HE.out (by simp) (by simp)).alloc _)).mono ?_
    rintro e w2 ⟨rfl, D2, E2⟩
    have HD2 := Lib.hid D2
    have HE2 := Lib.hid (((HE.out.mono (S' := [g]) (by simp)).alloc _).trans E2)
    clear D2 E2
    go_wp2
    go_ret
    exact ⟨rfl, HD2.out, HE2.out⟩

end Go.Proofs.Ytkckkbajaaklnaa
