/- The reference's directory: ok, node, Where, Ask, turn and what goes by it. -/
import Derived.Test.YtkckkbajaaklnaaShip
import Derived.Test.YtkckkbajaaklnaaAsk
import Derived.Test.YtkckkbajaaklnaaNew
import Derived.Test.YtkckkbajaaklnaaOwn
namespace Go.Proofs.Ytkckkbajaaklnaa
open Go.RowKit
set_option linter.unusedVariables false
set_option linter.unusedSimpArgs false

def okB (L : List (Int × Int)) (x : Int) : Bool := decide (inP L x)

set_option maxHeartbeats 400000 in
theorem rok_cell (b g n : Nat) (w : World) (hc : w.cell? ⟨b, 0, none⟩ = some (.slice (some ⟨g, 0, none⟩) n n)) (hn : n ≤ 32) (x : Int) :
    Calls Try.prog 34 #[.pointer (some ⟨b, 0, none⟩), .int .i64 x] w fun e w' => e = .returned (.bool (decide (0 ≤ x ∧ x < n))) ∧ w = w' := by
  by_cases h0 : 0 ≤ x
  · by_cases h1 : x < n
    · have e : decide (0 ≤ x ∧ x < (n : Int)) = true := decide_eq_true ⟨h0, h1⟩
      rw [e]; clear e
      go_enter Try.func34, Try.ntmps34
      go_wp2
      go_ret
      exact ⟨rfl, rfl⟩
    · have e : decide (0 ≤ x ∧ x < (n : Int)) = false := decide_eq_false fun h => h1 h.2
      rw [e]; clear e
      go_enter Try.func34, Try.ntmps34
      go_wp2
      go_ret
      exact ⟨rfl, rfl⟩
  · have e : decide (0 ≤ x ∧ x < (n : Int)) = false := decide_eq_false fun h => h0 h.1
    rw [e]; clear e
    go_enter Try.func34, Try.ntmps34
    go_wp2
    go_ret
    exact ⟨rfl, rfl⟩

theorem rok_yes {b g : Nat} {L : List (Int × Int)} (w : World) (h : Dir w 61 70 b g L) {x : Int} (hx : inP L x) :
    Calls Try.prog 34 #[.pointer (some ⟨b, 0, none⟩), .int .i64 x] w fun e w' => e = .returned (.bool true) ∧ w = w' := by
  have := rok_cell b g L.length w h.cell h.few x
  rwa [decide_eq_true (show (0 ≤ x ∧ x < (L.length : Int)) from hx)] at this
theorem rok_no {b g : Nat} {L : List (Int × Int)} (w : World) (h : Dir w 61 70 b g L) {x : Int} (hx : ¬ inP L x) :
    Calls Try.prog 34 #[.pointer (some ⟨b, 0, none⟩), .int .i64 x] w fun e w' => e = .returned (.bool false) ∧ w = w' := by
  have := rok_cell b g L.length w h.cell h.few x
  rwa [decide_eq_false (show ¬ (0 ≤ x ∧ x < (L.length : Int)) from hx)] at this

set_option maxHeartbeats 400000 in
theorem rnode_any (n : Int) (w : World) : Calls Try.prog 35 #[.int .i64 n] w fun e w' => e = .returned (.bool (nodeB n)) ∧ w = w' := by
  by_cases h0 : 0 ≤ n
  · by_cases h1 : n < 8
    · have e : nodeB n = true := by unfold nodeB; simp [h0, h1]
      rw [e]; clear e
      go_enter Try.func35, Try.ntmps35
      go_wp2
      go_ret
      exact ⟨rfl, rfl⟩
    · have e : nodeB n = false := by unfold nodeB; simp [h1]
      rw [e]; clear e
      go_enter Try.func35, Try.ntmps35
      go_wp2
      go_ret
      exact ⟨rfl, rfl⟩
  · have e : nodeB n = false := by unfold nodeB; simp [h0]
    rw [e]; clear e
    go_enter Try.func35, Try.ntmps35
    go_wp2
    go_ret
    exact ⟨rfl, rfl⟩
theorem rnode_is {b : Bool} (n : Int) (w : World) (h : nodeB n = b) : Calls Try.prog 35 #[.int .i64 n] w fun e w' => e = .returned (.bool b) ∧ w = w' := by
  subst h; exact rnode_any n w

set_option maxHeartbeats 1000000 in
theorem rwhere_any (b g : Nat) (L : List (Int × Int)) (w : World) (h : Dir w 61 70 b g L) (x : Int) :
    Calls Try.prog 32 #[.pointer (some ⟨b, 0, none⟩), .int .i64 x] w fun e w' => e = .returned (.agg #[.int .i64 (whereK L x), .int .i64 (whereN L x)]) ∧ Ext [] w w' := by
  have hgs : g < w.heap.size := lt_of_block h.hc
  have hne : g ≠ w.heap.size := by omega
  have hbs : b < w.heap.size := lt_of_block h.hd
  have hnb : b ≠ w.heap.size := by omega
  by_cases hx : inP L x
  · obtain ⟨p, rfl⟩ := Int.eq_ofNat_of_zero_le hx.1
    have hp : p < L.length := by have := hx.2; omega
    obtain ⟨c0, c1⟩ := h.cells (pl_get hp)
    unfold whereK whereN
    rw [if_pos hx, if_pos hx]
    generalize (pl L (p : Int)).1 = k at *
    generalize (pl L (p : Int)).2 = v at *
    have hc := h.cell
    have hf := h.few
    have H := Lib.hid h
    have HX := Lib.hid hx
    clear h hx
    have b0 : (0 : Int) ≤ (p : Int) := by omega
    have b1 : (p : Int) < (L.length : Int) := by omega
    go_enter Try.func32, Try.ntmps32
    go_wp2_with (go_at_call 34; refine (rok_yes _ (H.out.alloc _) HX.out).mono ?_; rintro e w' ⟨rfl, rfl⟩)
    refine bodyPost_ret (v := .agg #[.int .i64 k, .int .i64 v]) (by simp [results, Try.results32, go_sem]) rfl ⟨rfl, ?_⟩
    exact (Ext.refl _ _).alloc _
  · unfold whereK whereN
    rw [if_neg hx, if_neg hx]
    have H := Lib.hid h
    have HX := Lib.hid hx
    clear h hx
    go_enter Try.func32, Try.ntmps32
    go_wp2_with (go_at_call 34; refine (rok_no _ (H.out.alloc _) HX.out).mono ?_; rintro e w' ⟨rfl, rfl⟩)
    refine bodyPost_ret (v := .agg #[.int .i64 0, .int .i64 0]) (by simp [results, Try.results32, go_sem]) rfl ⟨rfl, ?_⟩
    exact (Ext.refl _ _).alloc _

set_option maxHeartbeats 1000000 in
theorem rask_any (b g : Nat) (L : List (Int × Int)) (w : World) (h : Dir w 61 70 b g L) (x n : Int) :
    Calls Try.prog 24 #[.pointer (some ⟨b, 0, none⟩), .int .i64 x, .int .i64 n] w fun e w' =>
      e = .returned (.tuple #[.int .i64 (askA L x n), .int .i64 (askE L x n)]) ∧ Upd w w' 61 70 b g (askL L x n) := by
  have hgs : g < w.heap.size := lt_of_block h.hc
  have hbs : b < w.heap.size := lt_of_block h.hd
  have hne : g ≠ w.heap.size := by omega
  have hnb : b ≠ w.heap.size := by omega
  unfold askA askE askL
  by_cases hx : inP L x
  · obtain ⟨p, rfl⟩ := Int.eq_ofNat_of_zero_le hx.1
    have hp : p < L.length := by have := hx.2; omega
    have hv := pl_get hp
    generalize (pl L (p : Int)).1 = k at *
    generalize (pl L (p : Int)).2 = v at *
    obtain ⟨c0, c1⟩ := h.cells hv
    have f0 := h.free (p * 2)
    have f1 := h.free (p * 2 + 1)
    have hc := h.cell
    have hf := h.few
    have b0 : (0 : Int) ≤ (p : Int) := by omega
    have b1 : (p : Int) < (L.length : Int) := by omega
    have H := Lib.hid h
    have HX := Lib.hid hx
    have HV := Lib.hid hv
    rcases Bool.eq_false_or_eq_true (nodeB n) with hn | hn
    rotate_left
    · simp only [hx, hn, true_and, Bool.false_eq_true, false_and, if_false]
      have HN := Lib.hid hn
      clear hn h hx hv
      go_enter Try.func24, Try.ntmps24
      go_wp2_with (first | (go_at_call 34; refine (rok_yes _ H.out HX.out).mono ?_; rintro e w' ⟨rfl, rfl⟩) | (go_at_call 35; refine (rnode_is n _ HN.out).mono ?_; rintro e w' ⟨rfl, rfl⟩))
      go_ret2
      exact ⟨rfl, Upd.refl H.out 0⟩
    · simp only [hx, hn, true_and, if_true, Int.toNat_natCast]
      have HN := Lib.hid hn
      clear hn h hx hv
      by_cases hk : k = 0
      · subst hk
        simp only [if_true]
        go_enter Try.func24, Try.ntmps24
        go_wp2_with (first | (go_at_call 34; refine (rok_yes _ H.out HX.out).mono ?_; rintro e w' ⟨rfl, rfl⟩) | (go_at_call 35; refine (rnode_is n _ HN.out).mono ?_; rintro e w' ⟨rfl, rfl⟩))
        go_ret2
        exact ⟨rfl, (Upd.set H.out (Ext.refl _ _) hp 1 n 0).1.alloc _, (Upd.set H.out (Ext.refl _ _) hp 1 n 0).2.alloc _⟩
      · simp only [hk, if_false]
        have hkb : (k == 0) = false := beq_eq_false_iff_ne.2 hk
        clear hk
        by_cases hm : k = 1 ∧ v = n
        · obtain ⟨rfl, rfl⟩ := hm
          simp only [and_self, if_true]
          go_enter Try.func24, Try.ntmps24
          go_wp2_with (first | (go_at_call 34; refine (rok_yes _ H.out HX.out).mono ?_; rintro e w' ⟨rfl, rfl⟩) | (go_at_call 35; refine (rnode_is v _ HN.out).mono ?_; rintro e w' ⟨rfl, rfl⟩))
          go_ret2
          exact ⟨rfl, H.out.alloc _, (Ext.refl _ _).alloc _⟩
        · rw [if_neg hm]
          have hd : (k == 1) = false ∨ ((k == 1) = true ∧ (v == n) = false) := by
            by_cases h1 : k = 1
            · exact .inr ⟨beq_iff_eq.2 h1, beq_eq_false_iff_ne.2 fun h2 => hm ⟨h1, h2⟩⟩
            · exact .inl (beq_eq_false_iff_ne.2 h1)
          clear hm
          rcases hd with hd | ⟨hd, hd2⟩
          all_goals
            go_enter Try.func24, Try.ntmps24
            go_wp2_with (first | (go_at_call 34; refine (rok_yes _ H.out HX.out).mono ?_; rintro e w' ⟨rfl, rfl⟩) | (go_at_call 35; refine (rnode_is n _ HN.out).mono ?_; rintro e w' ⟨rfl, rfl⟩))
            go_ret2
            exact ⟨rfl, H.out.alloc _, (Ext.refl _ _).alloc _⟩
  · simp only [hx, false_and, if_false]
    have H := Lib.hid h
    have HX := Lib.hid hx
    clear h hx
    go_enter Try.func24, Try.ntmps24
    go_wp2_with (go_at_call 34; refine (rok_no _ H.out HX.out).mono ?_; rintro e w' ⟨rfl, rfl⟩)
    go_ret2
    exact ⟨rfl, Upd.refl H.out 0⟩

end Go.Proofs.Ytkckkbajaaklnaa
