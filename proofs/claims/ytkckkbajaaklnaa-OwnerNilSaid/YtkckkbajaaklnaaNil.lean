/- A nil directory, and the zero one. -/
import Derived.Test.YtkckkbajaaklnaaROf
import Derived.Test.YtkckkbajaaklnaaShip
import Derived.Test.YtkckkbajaaklnaaAsk
import Derived.Test.YtkckkbajaaklnaaAwake
namespace Go.Proofs.Ytkckkbajaaklnaa
open Go.RowKit
set_option linter.unusedVariables false
set_option linter.unusedSimpArgs false

/-- No directory, or one without pages. -/
def DZ (w : World) (d : Value) : Prop := d = .pointer none ∨ ∃ b, d = .pointer (some ⟨b, 0, none⟩) ∧ b < w.heap.size ∧ w.cell? ⟨b, 0, none⟩ = some (.slice none 0 0)

theorem DZ.ext {w w' : World} {d : Value} (h : DZ w d) (he : Ext [] w w') : DZ w' d := by
  rcases h with h | ⟨b, hd, hb, hc⟩
  · exact .inl h
  · exact .inr ⟨b, hd, Nat.lt_of_lt_of_le hb he.size, (World.cell?_of_block (he.block b hb (by simp))).trans hc⟩
theorem DZ.none {w : World} {d : Value} (h : DZ w d) (x : Int) : NoPage w d x := by
  rcases h with rfl | ⟨b, rfl, hb, hc⟩
  · exact at_nil w x
  · exact at_zero w b hc x

theorem Ext.ofDraw {w w' : World} (h : ∃ n, w' = w.drewN n) : Ext [] w w' := by obtain ⟨n, rfl⟩ := h; exact (Ext.refl _ _).drewN n

theorem turn_dz (d : Value) (w : World) (h : DZ w d) (x fk fn tk tn : Int) :
    Calls Try.prog 23 #[d, .int .i64 x, .agg #[.int .i64 fk, .int .i64 fn], .agg #[.int .i64 tk, .int .i64 tn]] w fun e w' => e = .returned (.int .i64 1) ∧ Ext [] w w' := by
  refine turn_none d w x fk fn tk tn fun w' hw => ?_
  rcases h with rfl | ⟨b, rfl, hb, hc⟩
  · exact at_nil w' x
  · exact at_zero w' b (by rw [hw _ hb]; exact hc) x

set_option maxHeartbeats 400000 in
theorem ship_dz (d : Value) (w : World) (h : DZ w d) (x f t : Int) :
    Calls Try.prog 12 #[d, .int .i64 x, .int .i64 f, .int .i64 t] w fun e w' => e = .returned (.int .i64 1) ∧ Ext [] w w' := by
  have H := Lib.hid h
  clear h
  by_cases hft : f = t
  · subst hft
    go_enter Try.func12, Try.ntmps12
    go_wp2
    go_ret
    exact ⟨rfl, Ext.refl _ _⟩
  · have hb : (f == t) = false := beq_eq_false_iff_ne.2 hft
    clear hft
    go_enter Try.func12, Try.ntmps12
    go_wp2_with (go_at_call 23; refine (turn_dz d _ H.out x 1 f 2 t).mono ?_; rintro e w' ⟨rfl, hu⟩)
    go_ret
    exact ⟨rfl, hu⟩

set_option maxHeartbeats 400000 in
theorem land_dz (d : Value) (w : World) (h : DZ w d) (x f : Int) :
    Calls Try.prog 11 #[d, .int .i64 x, .int .i64 f] w fun e w' => e = .returned (.int .i64 1) ∧ Ext [] w w' := by
  have H := Lib.hid h
  clear h
  go_enter Try.func11, Try.ntmps11
  go_wp2_with (go_at_call 23; refine (turn_dz d _ H.out x 2 f 1 f).mono ?_; rintro e w' ⟨rfl, hu⟩)
  go_ret
  exact ⟨rfl, hu⟩

set_option maxHeartbeats 400000 in
theorem leave_dz (d : Value) (w : World) (h : DZ w d) (x f : Int) :
    Calls Try.prog 13 #[d, .int .i64 x, .int .i64 f] w fun e w' => e = .returned (.int .i64 1) ∧ Ext [] w w' := by
  have H := Lib.hid h
  clear h
  go_enter Try.func13, Try.ntmps13
  go_wp2_with (go_at_call 23; refine (turn_dz d _ H.out x 1 f 0 0).mono ?_; rintro e w' ⟨rfl, hu⟩)
  go_ret
  exact ⟨rfl, hu⟩

set_option maxHeartbeats 1000000 in
theorem of_dz (d : Value) (w : World) (h : DZ w d) (n k : Int) :
    Calls Try.prog 18 #[d, .int .i64 n, .int .i64 k] w fun e w' => e = .returned (.slice none 0 0) ∧ w = w' := by
  rcases h with rfl | ⟨b, rfl, hb, hc⟩
  · go_enter Try.func18, Try.ntmps18
    go_wp2
    go_ret
    exact ⟨rfl, rfl⟩
  · by_cases hk : k = 0
    · subst hk
      exact of_zero _ (.inr ⟨_, rfl⟩) w n
    · have hkb : (k != 0) = true := by rw [bne_iff_ne]; exact hk
      clear hk
      go_enter Try.func18, Try.ntmps18
      go_wp2
      go_loop [7, 21] (fun v i => v = .slice none 0 0 ∧ i = .int .i64 0) (fun _ _ => 0)
      case atStart => exact ⟨rfl, rfl⟩
      case round =>
        obtain ⟨rfl, rfl⟩ := hrel
        go_wp2
        go_ret
        exact ⟨rfl, rfl⟩

set_option maxHeartbeats 1000000 in
theorem fail_dz (d : Value) (w : World) (h : DZ w d) (n : Int) :
    Calls Try.prog 20 #[d, .int .i64 n] w fun e w' => (∃ A c, e = .returned (.slice A 0 c)) ∧ Ext [] w w' := by
  have H := Lib.hid h
  clear h
  obtain ⟨i0, hi, hz0, hz1, hz2⟩ := info_parts Try.info3
  go_enter Try.func20, Try.ntmps20
  go_wp2_with (first
    | (go_at_call 18; (with_reducible refine (of_dz d _ H.out n 1).mono ?_); rintro e w' ⟨rfl, rfl⟩)
    | (go_at_call 18; (with_reducible refine (of_dz d _ H.out n 2).mono ?_); rintro e w' ⟨rfl, rfl⟩)
    | (at_builtin; refine wpList_append_own2 _ rfl (.tmp 10) (.tmp 13) 42 rfl w.heap.size 0 3 i0 (.int .i64 0) 1 8 Try.underlying42 hi hz0 hz1 hz2 rfl (by decide) _ _ 0 0 [] [] rfl (World.ownsRow_nil _ _ _ _) rfl (World.ownsRow_nil _ _ _ _) (by simp) (by simp) (by simp) (Nat.le_refl _) ?kk))
  case kk =>
    intro v' w1 ho hg
    have he : Ext [] w w1 := (Ext.refl _ _).grown hg (fun k hk => by simp [Value.ownBlock] at hk)
    obtain ⟨A, c, rfl⟩ := own_val ho
    have HO := Lib.hid ho
    have HE := Lib.hid he
    clear ho hg he
    go_wp2
    go_loop [17] (fun i => i = .int .i64 0) (fun _ => 0)
    case atStart => rfl
    case round =>
      subst hrel
      go_wp2_with (go_at_call 33; fail)
      refine (sort_own _ w.heap.size 0 _ [] (by simpa using HO.out) (by omega) HE.out.size).mono ?_
      rintro e w2 ⟨rfl, l', _, _, _, hb⟩
      have HE2 := Lib.hid (HE.out.below hb (Nat.le_refl _))
      clear hb
      go_wp2
      go_ret
      exact ⟨⟨A, c, rfl⟩, HE2.out⟩

/-- The call's own row, and a directory without pages. -/
structure NS (w0 w : World) (d : Value) (c : Array Value) : Prop where
  box : w.heap[w0.heap.size]? = some (.cells c 37 (0, 0))
  dz : DZ w d
  ext : Ext [] w0 w
theorem NS.cell {w0 w : World} {d : Value} {c : Array Value} (h : NS w0 w d c) (i : Nat) : w.cell? ⟨w0.heap.size, i, none⟩ = c[i]? := cell_of_row w _ i c 37 (0, 0) h.box
theorem NS.same {w0 w w' : World} {d : Value} {c : Array Value} (h : NS w0 w d c) (u : Ext [] w w') : NS w0 w' d c :=
  ⟨(u.block _ (lt_of_block h.box) (by simp)).trans h.box, h.dz.ext u, h.ext.trans u⟩
theorem NS.drew {w0 w : World} {d : Value} {c : Array Value} (h : NS w0 w d c) : NS w0 w.drew d c := h.same (Ext.refl _ _).drew

set_option maxRecDepth 100000 in
set_option maxHeartbeats 4000000 in
theorem nil_false (k p a b : Int) (w : World) :
    Calls Try.prog 7 #[.agg #[.int .i64 k, .int .i64 p, .int .i64 a, .int .i64 b], .bool false] w fun e w' => e = .returned (.bool true) ∧ Ext [] w w' := by
  go_enter Try.func7, Try.ntmps7
  go_wp2_with (go_at_call 8; fail)
  refine (awake_any _).mono ?_
  rintro e w1 ⟨rfl, E1⟩
  have hst : NS w w1 (.pointer none) #[.int .i64 k, .int .i64 p, .int .i64 a, .int .i64 b] := by
    have h1 := (E1.block w.heap.size (by simp) (by simp)).trans (heap_alloc_new w (.cells #[.int .i64 k, .int .i64 p, .int .i64 a, .int .i64 b] 37))
    have h2 := ((Ext.refl [] w).alloc (.cells #[.int .i64 k, .int .i64 p, .int .i64 a, .int .i64 b] 37)).trans E1
    exact ⟨h1, .inl rfl, h2⟩
  have hlt : w.heap.size < w1.heap.size := by have := E1.size; simp at this; omega
  have hne : w.heap.size ≠ w1.heap.size := by omega
  have HB := Lib.hid hst
  clear hst E1
  have k1 := HB.out.cell 1
  have k2 := HB.out.cell 2
  have k3 := HB.out.cell 3
  simp only [List.getElem?_toArray, List.getElem?_cons_succ, List.getElem?_cons_zero] at k1 k2 k3
  go_wp2_with (go_at_call 10; fail)
  refine (ask_none _ _ p a (HB.out.dz.none p)).mono ?_
  rintro e w2 ⟨rfl, hu⟩
  replace HB := Lib.hid (HB.out.same (Ext.ofDraw hu))
  clear hu k1 k2 k3 hlt hne
  have k1 := HB.out.cell 1
  have k2 := HB.out.cell 2
  have k3 := HB.out.cell 3
  simp only [List.getElem?_toArray, List.getElem?_cons_succ, List.getElem?_cons_zero] at k1 k2 k3
  go_wp2_with (go_at_call 19; fail)
  refine (where_none _ _ p (HB.out.dz.none p)).mono ?_
  rintro e w3 ⟨rfl, hu⟩
  replace HB := Lib.hid (HB.out.same (Ext.ofDraw hu))
  clear hu k1 k2 k3
  have k1 := HB.out.cell 1
  have k2 := HB.out.cell 2
  have k3 := HB.out.cell 3
  simp only [List.getElem?_toArray, List.getElem?_cons_succ, List.getElem?_cons_zero] at k1 k2 k3
  go_wp2_with (go_at_call 12; fail)
  refine (ship_dz _ _ HB.out.dz p a b).mono ?_
  rintro e w4 ⟨rfl, hu⟩
  replace HB := Lib.hid (HB.out.same hu)
  clear hu k1 k2 k3
  have k1 := HB.out.cell 1
  have k2 := HB.out.cell 2
  have k3 := HB.out.cell 3
  simp only [List.getElem?_toArray, List.getElem?_cons_succ, List.getElem?_cons_zero] at k1 k2 k3
  go_wp2_with (go_at_call 11; fail)
  refine (land_dz _ _ HB.out.dz p a).mono ?_
  rintro e w5 ⟨rfl, hu⟩
  replace HB := Lib.hid (HB.out.same hu)
  clear hu k1 k2 k3
  go_wp2
  replace HB := Lib.hid HB.out.drew
  go_region_held3 (fun w' => w'.cell? ⟨w.heap.size, 1, none⟩ = some (.int .i64 p) ∧ w'.cell? ⟨w.heap.size, 2, none⟩ = some (.int .i64 a) ∧ w'.cell? ⟨w.heap.size, 3, none⟩ = some (.int .i64 b))
    (first | exact ⟨HB.out.cell 1, HB.out.cell 2, HB.out.cell 3⟩ | go_keep)
    (first
      | (go_at_call 13; refine (leave_dz _ _ HB.out.dz p a).mono ?_; rintro e w' ⟨rfl, hu⟩; replace HB := Lib.hid (HB.out.same hu); clear hu)
      | (go_at_call 14; refine (heal_none _ _ p (HB.out.dz.none p)).mono ?_; rintro e w' ⟨rfl, rfl⟩)
      | (go_at_call 20; refine (fail_dz _ _ HB.out.dz a).mono ?_; rintro e w' ⟨⟨A, c, rfl⟩, hu⟩; replace HB := Lib.hid (HB.out.same hu); clear hu)
      | (go_at_call 18; refine (of_dz _ _ HB.out.dz a b).mono ?_; rintro e w' ⟨rfl, rfl⟩))
  all_goals
    go_wp2
    go_ret
    exact ⟨by first | (simp; done) | (simp; decide), HB.out.ext⟩

set_option maxRecDepth 100000 in
set_option maxHeartbeats 4000000 in
theorem nil_true (k p a b : Int) (w : World) :
    Calls Try.prog 7 #[.agg #[.int .i64 k, .int .i64 p, .int .i64 a, .int .i64 b], .bool true] w fun e w' => e = .returned (.bool true) ∧ Ext [] w w' := by
  go_enter Try.func7, Try.ntmps7
  go_wp2_with (go_at_call 8; fail)
  refine (awake_any _).mono ?_
  rintro e w1 ⟨rfl, E1⟩
  have hst : NS w (w1.alloc (.cells #[.slice none 0 0] 51)) (.pointer (some ⟨w1.heap.size, 0, none⟩)) #[.int .i64 k, .int .i64 p, .int .i64 a, .int .i64 b] := by
    have h1 := (E1.block w.heap.size (by simp) (by simp)).trans (heap_alloc_new w (.cells #[.int .i64 k, .int .i64 p, .int .i64 a, .int .i64 b] 37))
    have h2 := ((Ext.refl [] w).alloc (.cells #[.int .i64 k, .int .i64 p, .int .i64 a, .int .i64 b] 37)).trans E1
    exact ⟨(Below.heap_alloc _ _ _ (lt_of_block h1)).trans h1, .inr ⟨_, rfl, by simp, by simp⟩, h2.alloc _⟩
  have hlt : w.heap.size < w1.heap.size := by have := E1.size; simp at this; omega
  have hne : w.heap.size ≠ w1.heap.size := by omega
  have HB := Lib.hid hst
  clear hst E1
  have k1 := HB.out.cell 1
  have k2 := HB.out.cell 2
  have k3 := HB.out.cell 3
  simp only [List.getElem?_toArray, List.getElem?_cons_succ, List.getElem?_cons_zero] at k1 k2 k3
  go_wp2_with (go_at_call 10; fail)
  refine (ask_none _ _ p a (HB.out.dz.none p)).mono ?_
  rintro e w2 ⟨rfl, hu⟩
  replace HB := Lib.hid (HB.out.same (Ext.ofDraw hu))
  clear hu k1 k2 k3 hlt hne
  have k1 := HB.out.cell 1
  have k2 := HB.out.cell 2
  have k3 := HB.out.cell 3
  simp only [List.getElem?_toArray, List.getElem?_cons_succ, List.getElem?_cons_zero] at k1 k2 k3
  go_wp2_with (go_at_call 19; fail)
  refine (where_none _ _ p (HB.out.dz.none p)).mono ?_
  rintro e w3 ⟨rfl, hu⟩
  replace HB := Lib.hid (HB.out.same (Ext.ofDraw hu))
  clear hu k1 k2 k3
  have k1 := HB.out.cell 1
  have k2 := HB.out.cell 2
  have k3 := HB.out.cell 3
  simp only [List.getElem?_toArray, List.getElem?_cons_succ, List.getElem?_cons_zero] at k1 k2 k3
  go_wp2_with (go_at_call 12; fail)
  refine (ship_dz _ _ HB.out.dz p a b).mono ?_
  rintro e w4 ⟨rfl, hu⟩
  replace HB := Lib.hid (HB.out.same hu)
  clear hu k1 k2 k3
  have k1 := HB.out.cell 1
  have k2 := HB.out.cell 2
  have k3 := HB.out.cell 3
  simp only [List.getElem?_toArray, List.getElem?_cons_succ, List.getElem?_cons_zero] at k1 k2 k3
  go_wp2_with (go_at_call 11; fail)
  refine (land_dz _ _ HB.out.dz p a).mono ?_
  rintro e w5 ⟨rfl, hu⟩
  replace HB := Lib.hid (HB.out.same hu)
  clear hu k1 k2 k3
  go_wp2
  replace HB := Lib.hid HB.out.drew
  go_region_held3 (fun w' => w'.cell? ⟨w.heap.size, 1, none⟩ = some (.int .i64 p) ∧ w'.cell? ⟨w.heap.size, 2, none⟩ = some (.int .i64 a) ∧ w'.cell? ⟨w.heap.size, 3, none⟩ = some (.int .i64 b))
    (first | exact ⟨HB.out.cell 1, HB.out.cell 2, HB.out.cell 3⟩ | go_keep)
    (first
      | (go_at_call 13; refine (leave_dz _ _ HB.out.dz p a).mono ?_; rintro e w' ⟨rfl, hu⟩; replace HB := Lib.hid (HB.out.same hu); clear hu)
      | (go_at_call 14; refine (heal_none _ _ p (HB.out.dz.none p)).mono ?_; rintro e w' ⟨rfl, rfl⟩)
      | (go_at_call 20; refine (fail_dz _ _ HB.out.dz a).mono ?_; rintro e w' ⟨⟨A, c, rfl⟩, hu⟩; replace HB := Lib.hid (HB.out.same hu); clear hu)
      | (go_at_call 18; refine (of_dz _ _ HB.out.dz a b).mono ?_; rintro e w' ⟨rfl, rfl⟩))
  all_goals
    go_wp2
    go_ret
    exact ⟨by first | (simp; done) | (simp; decide), HB.out.ext⟩

theorem nil_any (k p a b : Int) (zero : Bool) (w : World) :
    Calls Try.prog 7 #[.agg #[.int .i64 k, .int .i64 p, .int .i64 a, .int .i64 b], .bool zero] w fun e w' => e = .returned (.bool true) ∧ Ext [] w w' := by
  cases zero
  · exact nil_false k p a b w
  · exact nil_true k p a b w

end Go.Proofs.Ytkckkbajaaklnaa
