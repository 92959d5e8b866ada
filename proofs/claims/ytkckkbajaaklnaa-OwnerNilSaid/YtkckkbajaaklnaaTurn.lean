/- turn, and what goes by it: Ship, Land, Leave; Heal. -/
import Derived.Test.YtkckkbajaaklnaaAt
namespace Go.Proofs.Ytkckkbajaaklnaa
open Go.RowKit
set_option linter.unusedVariables false
set_option linter.unusedSimpArgs false

def turnOk (L : List (Int × Int)) (x fn tn : Int) : Prop := inP L x ∧ nodeB fn = true ∧ nodeB tn = true
instance (L : List (Int × Int)) (x fn tn : Int) : Decidable (turnOk L x fn tn) := by unfold turnOk; infer_instance
def turnE (L : List (Int × Int)) (x fk fn _tk tn : Int) : Int := if turnOk L x fn tn then (if pl L x = (fk, fn) then 0 else 13) else 1
def turnL (L : List (Int × Int)) (x fk fn tk tn : Int) : List (Int × Int) := if turnOk L x fn tn ∧ pl L x = (fk, fn) then L.set x.toNat (tk, tn) else L

set_option maxHeartbeats 400000 in
theorem turn_none (d : Value) (w : World) (x fk fn tk tn : Int) (h : ∀ w' : World, (∀ p : Addr, p.block < w.heap.size → w'.cell? p = w.cell? p) → NoPage w' d x) :
    Calls Try.prog 23 #[d, .int .i64 x, .agg #[.int .i64 fk, .int .i64 fn], .agg #[.int .i64 tk, .int .i64 tn]] w fun e w' => e = .returned (.int .i64 1) ∧ Ext [] w w' := by
  have HD : ∀ o1 o2, NoPage ((w.alloc o1).alloc o2) d x := fun o1 o2 => h _ fun p hp => by rw [World.cell?_alloc_lt _ _ _ (by simp; omega), World.cell?_alloc_lt _ _ _ hp]
  have H := Lib.hid HD
  clear h HD
  go_enter Try.func23, Try.ntmps23
  go_wp2_with (go_at_call 21; refine (show Calls _ _ _ _ _ from H.out _ _).mono ?_; rintro e w' ⟨rfl, rfl⟩)
  go_ret
  exact ⟨rfl, ((Ext.refl _ _).alloc _).alloc _⟩

set_option maxHeartbeats 400000 in
theorem turn_bad (b g : Nat) (L : List (Int × Int)) (w : World) (h : Dir w 51 57 b g L) (p : Nat) (hp : p < L.length) (fk fn tk tn : Int) (hn : nodeB fn = false ∨ (nodeB fn = true ∧ nodeB tn = false)) :
    Calls Try.prog 23 #[.pointer (some ⟨b, 0, none⟩), .int .i64 (p : Int), .agg #[.int .i64 fk, .int .i64 fn], .agg #[.int .i64 tk, .int .i64 tn]] w fun e w' => e = .returned (.int .i64 1) ∧ Upd w w' 51 57 b g L := by
  have H := Lib.hid h
  clear h
  rcases hn with hn | ⟨hn, hm⟩
  · have HN := Lib.hid hn
    clear hn
    go_enter Try.func23, Try.ntmps23
    go_wp2_with (first | (go_at_call 21; refine (at_in b g L _ ((H.out.alloc _).alloc _) p hp).mono ?_; rintro e w' ⟨rfl, rfl⟩) | (go_at_call 22; refine (node_is fn _ HN.out).mono ?_; rintro e w' ⟨rfl, rfl⟩))
    go_ret
    exact ⟨rfl, (H.out.alloc _).alloc _, ((Ext.refl _ _).alloc _).alloc _⟩
  · have HN := Lib.hid hn
    clear hn
    have HM := Lib.hid hm
    clear hm
    go_enter Try.func23, Try.ntmps23
    go_wp2_with (first | (go_at_call 21; refine (at_in b g L _ ((H.out.alloc _).alloc _) p hp).mono ?_; rintro e w' ⟨rfl, rfl⟩) | (go_at_call 22; (with_reducible refine (node_is fn _ HN.out).mono ?_); rintro e w' ⟨rfl, rfl⟩) | (go_at_call 22; (with_reducible refine (node_is tn _ HM.out).mono ?_); rintro e w' ⟨rfl, rfl⟩))
    go_ret
    exact ⟨rfl, (H.out.alloc _).alloc _, ((Ext.refl _ _).alloc _).alloc _⟩

theorem far_new {w : World} {g : Nat} (hg : g < w.heap.size) (o : Nat) (o1 : Obj) : (w.alloc o1).cell? ⟨g, o, none⟩ = w.cell? ⟨g, o, none⟩ := World.cell?_alloc_past _ _ _ hg

set_option maxHeartbeats 1000000 in
theorem turn_good (b g : Nat) (L : List (Int × Int)) (w : World) (h : Dir w 51 57 b g L) (p : Nat) (hp : p < L.length) (fk fn tk tn : Int) (hn : nodeB fn = true) (hm : nodeB tn = true) (hv : L[p]? = some (fk, fn)) :
    Calls Try.prog 23 #[.pointer (some ⟨b, 0, none⟩), .int .i64 (p : Int), .agg #[.int .i64 fk, .int .i64 fn], .agg #[.int .i64 tk, .int .i64 tn]] w fun e w' => e = .returned (.int .i64 0) ∧ Upd w w' 51 57 b g (L.set p (tk, tn)) := by
  have hgs : g < w.heap.size := lt_of_block h.hc
  have hne : g ≠ w.heap.size := by omega
  have hne1 : g ≠ w.heap.size + 1 := by omega
  obtain ⟨c0, c1⟩ := h.cells hv
  have f0 := h.free (p * 2)
  have f1 := h.free (p * 2 + 1)
  have H := Lib.hid h
  have HN := Lib.hid hn
  have HM := Lib.hid hm
  have HV := Lib.hid hv
  clear h hn hm hv
  go_enter Try.func23, Try.ntmps23
  go_wp2_with (first | (go_at_call 21; refine (at_in b g L _ ((H.out.alloc _).alloc _) p hp).mono ?_; rintro e w' ⟨rfl, rfl⟩) | (go_at_call 22; (with_reducible refine (node_is fn _ HN.out).mono ?_); rintro e w' ⟨rfl, rfl⟩) | (go_at_call 22; (with_reducible refine (node_is tn _ HM.out).mono ?_); rintro e w' ⟨rfl, rfl⟩))
  go_quiet (fail)
  go_wp2
  go_ret
  exact ⟨rfl, Upd.set ((H.out.alloc _).alloc _) (((Ext.refl _ _).alloc _).alloc _) hp _ _ _⟩

set_option maxHeartbeats 1000000 in
theorem turn_state (b g : Nat) (L : List (Int × Int)) (w : World) (h : Dir w 51 57 b g L) (p : Nat) (hp : p < L.length) (k v fk fn tk tn : Int) (hn : nodeB fn = true) (hm : nodeB tn = true) (hv : L[p]? = some (k, v))
    (hd : (k == fk) = false ∨ ((k == fk) = true ∧ (v == fn) = false)) :
    Calls Try.prog 23 #[.pointer (some ⟨b, 0, none⟩), .int .i64 (p : Int), .agg #[.int .i64 fk, .int .i64 fn], .agg #[.int .i64 tk, .int .i64 tn]] w fun e w' => e = .returned (.int .i64 13) ∧ Upd w w' 51 57 b g L := by
  have hgs : g < w.heap.size := lt_of_block h.hc
  have hne : g ≠ w.heap.size := by omega
  have hne1 : g ≠ w.heap.size + 1 := by omega
  obtain ⟨c0, c1⟩ := h.cells hv
  have H := Lib.hid h
  have HN := Lib.hid hn
  have HM := Lib.hid hm
  have HV := Lib.hid hv
  clear h hn hm hv
  rcases hd with hd | ⟨hd, hd2⟩
  all_goals
    go_enter Try.func23, Try.ntmps23
    go_wp2_with (first | (go_at_call 21; refine (at_in b g L _ ((H.out.alloc _).alloc _) p hp).mono ?_; rintro e w' ⟨rfl, rfl⟩) | (go_at_call 22; (with_reducible refine (node_is fn _ HN.out).mono ?_); rintro e w' ⟨rfl, rfl⟩) | (go_at_call 22; (with_reducible refine (node_is tn _ HM.out).mono ?_); rintro e w' ⟨rfl, rfl⟩))
    go_quiet (fail)
    go_wp2
    go_ret
    exact ⟨rfl, ((H.out.alloc _).alloc _).drewN _, (((Ext.refl _ _).alloc _).alloc _).drewN _⟩

theorem turn_any (b g : Nat) (L : List (Int × Int)) (w : World) (h : Dir w 51 57 b g L) (x fk fn tk tn : Int) :
    Calls Try.prog 23 #[.pointer (some ⟨b, 0, none⟩), .int .i64 x, .agg #[.int .i64 fk, .int .i64 fn], .agg #[.int .i64 tk, .int .i64 tn]] w fun e w' =>
      e = .returned (.int .i64 (turnE L x fk fn tk tn)) ∧ Upd w w' 51 57 b g (turnL L x fk fn tk tn) := by
  unfold turnE turnL turnOk
  by_cases hx : inP L x
  · obtain ⟨p, rfl⟩ := Int.eq_ofNat_of_zero_le hx.1
    have hp : p < L.length := by have := hx.2; omega
    have hv := pl_get hp
    rw [show pl L (p : Int) = ((pl L (p : Int)).1, (pl L (p : Int)).2) from rfl]
    generalize (pl L (p : Int)).1 = k at *
    generalize (pl L (p : Int)).2 = v at *
    rcases Bool.eq_false_or_eq_true (nodeB fn) with hn | hn
    rotate_left
    · simp only [hx, hn, true_and, Bool.false_eq_true, false_and, if_false]
      exact turn_bad b g L w h p hp fk fn tk tn (.inl hn)
    · rcases Bool.eq_false_or_eq_true (nodeB tn) with hm | hm
      rotate_left
      · simp only [hx, hn, hm, true_and, Bool.false_eq_true, false_and, and_false, if_false]
        exact turn_bad b g L w h p hp fk fn tk tn (.inr ⟨hn, hm⟩)
      · simp only [hx, hn, hm, true_and, if_true, Prod.mk.injEq]
        by_cases hk : k = fk ∧ v = fn
        · obtain ⟨rfl, rfl⟩ := hk
          simp only [and_self, if_true, Int.toNat_natCast]
          exact turn_good b g L w h p hp k v tk tn hn hm hv
        · rw [if_neg hk, if_neg hk]
          refine turn_state b g L w h p hp k v fk fn tk tn hn hm hv ?_
          by_cases h1 : k = fk
          · right; exact ⟨beq_iff_eq.2 h1, beq_eq_false_iff_ne.2 fun h2 => hk ⟨h1, h2⟩⟩
          · left; exact beq_eq_false_iff_ne.2 h1
  · simp only [hx, false_and, if_false]
    refine (turn_none _ w x fk fn tk tn fun w' hw => ?_).mono fun e w' ⟨he, hw⟩ => ⟨he, h.ext hw (by simp) (by simp), hw.mono (by simp)⟩
    exact at_out' b g L w' (by rw [hw _ (by have := lt_of_block h.hd; exact this)]; exact h.cell) h.few x hx

end Go.Proofs.Ytkckkbajaaklnaa
