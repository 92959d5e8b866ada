/- does: a call of both directories. -/
import Derived.Test.YtkckkbajaaklnaaInts
import Derived.Test.YtkckkbajaaklnaaROf
import Derived.Test.YtkckkbajaaklnaaRTurn
namespace Go.Proofs.Ytkckkbajaaklnaa
open Go.RowKit
set_option linter.unusedVariables false
set_option linter.unusedSimpArgs false

/-- Both directories, with their places; the call's own row, and what it may turn. -/
structure St (w0 : World) (b g b2 g2 : Nat) (w : World) (o : Obj) (L1 L2 : List (Int × Int)) : Prop where
  d1 : Dir w 51 57 b g L1
  d2 : Dir w 61 70 b2 g2 L2
  box : w.heap[w0.heap.size]? = some o
  ext : Ext [g, g2] w0 w
  old : b < w0.heap.size ∧ g < w0.heap.size ∧ b2 < w0.heap.size ∧ g2 < w0.heap.size
  apart : b ≠ g2 ∧ g ≠ b2 ∧ g ≠ g2 ∧ b ≠ b2

theorem Dir.apart {w : World} {b g b2 g2 : Nat} {L1 L2 : List (Int × Int)} (h1 : Dir w 51 57 b g L1) (h2 : Dir w 61 70 b2 g2 L2) : b ≠ g2 ∧ g ≠ b2 ∧ g ≠ g2 ∧ b ≠ b2 := by
  refine ⟨?_, ?_, ?_, ?_⟩
  · rintro rfl; have := h1.hd.symm.trans h2.hc; simp at this
  · rintro rfl; have := h1.hc.symm.trans h2.hd; simp at this
  · rintro rfl; have := h1.hc.symm.trans h2.hc; simp at this
  · rintro rfl; have := h1.hd.symm.trans h2.hd; simp at this

section
variable {w0 w w' : World} {b g b2 g2 : Nat} {o : Obj} {L1 L2 L' : List (Int × Int)}
theorem St.start (h1 : Dir w0 51 57 b g L1) (h2 : Dir w0 61 70 b2 g2 L2) : St w0 b g b2 g2 (w0.alloc o) o L1 L2 :=
  ⟨h1.alloc _, h2.alloc _, heap_alloc_new _ _, (Ext.refl _ _).alloc _, ⟨lt_of_block h1.hd, lt_of_block h1.hc, lt_of_block h2.hd, lt_of_block h2.hc⟩, h1.apart h2⟩
theorem St.drew (h : St w0 b g b2 g2 w o L1 L2) : St w0 b g b2 g2 w.drew o L1 L2 := ⟨h.d1.drewN 1, h.d2.drewN 1, h.box, h.ext.drew, h.old, h.apart⟩
theorem St.drewN (h : St w0 b g b2 g2 w o L1 L2) (n : Nat) : St w0 b g b2 g2 (w.drewN n) o L1 L2 := ⟨h.d1.drewN n, h.d2.drewN n, h.box, h.ext.drewN n, h.old, h.apart⟩
theorem St.up1 (h : St w0 b g b2 g2 w o L1 L2) (u : Upd w w' 51 57 b g L') : St w0 b g b2 g2 w' o L' L2 :=
  ⟨u.1, h.d2.ext u.2 (by simp; exact fun e => h.apart.2.1 e.symm) (by simp; exact fun e => h.apart.2.2.1 e.symm),
   (u.2.block _ (lt_of_block h.box) (by simp; have := h.old; omega)).trans h.box, h.ext.trans (u.2.mono (by simp)), h.old, h.apart⟩
theorem St.up2 (h : St w0 b g b2 g2 w o L1 L2) (u : Upd w w' 61 70 b2 g2 L') : St w0 b g b2 g2 w' o L1 L' :=
  ⟨h.d1.ext u.2 (by simp; exact h.apart.1) (by simp; exact h.apart.2.2.1), u.1,
   (u.2.block _ (lt_of_block h.box) (by simp; have := h.old; omega)).trans h.box, h.ext.trans (u.2.mono (by simp)), h.old, h.apart⟩
theorem St.same (h : St w0 b g b2 g2 w o L1 L2) (u : Ext [] w w') : St w0 b g b2 g2 w' o L1 L2 :=
  ⟨h.d1.ext u (by simp) (by simp), h.d2.ext u (by simp) (by simp), (u.block _ (lt_of_block h.box) (by simp)).trans h.box, h.ext.trans (u.mono (by simp)), h.old, h.apart⟩
theorem St.cell {c : Array Value} {t : TypeId} (h : St w0 b g b2 g2 w (.cells c t (0, 0)) L1 L2) (i : Nat) : w.cell? ⟨w0.heap.size, i, none⟩ = c[i]? := cell_of_row w _ i c t (0, 0) h.box
end

set_option maxRecDepth 100000 in
set_option maxHeartbeats 2000000 in
theorem does_ship (w : World) (b g b2 g2 : Nat) (L : List (Int × Int)) (h1 : Dir w 51 57 b g L) (h2 : Dir w 61 70 b2 g2 L) (p a bb : Int) :
    Calls Try.prog 16 #[.pointer (some ⟨b, 0, none⟩), .pointer (some ⟨b2, 0, none⟩), .agg #[.int .i64 2, .int .i64 p, .int .i64 a, .int .i64 bb]] w fun e w' =>
      e = .returned (.bool true) ∧ St w b g b2 g2 w' (.cells #[.int .i64 2, .int .i64 p, .int .i64 a, .int .i64 bb] 37) (shipL L p a bb) (shipL L p a bb) := by
  have hst : St w b g b2 g2 (w.alloc (.cells #[.int .i64 2, .int .i64 p, .int .i64 a, .int .i64 bb] 37)).drew _ L L := (St.start h1 h2).drew
  have HB := Lib.hid hst
  clear hst h1 h2
  go_enter Try.func16, Try.ntmps16
  go_wp2
  go_region_held3 (fun w' => w'.cell? ⟨w.heap.size, 1, none⟩ = some (.int .i64 p) ∧ w'.cell? ⟨w.heap.size, 2, none⟩ = some (.int .i64 a) ∧ w'.cell? ⟨w.heap.size, 3, none⟩ = some (.int .i64 bb))
    (first | exact ⟨HB.out.cell 1, HB.out.cell 2, HB.out.cell 3⟩ | go_keep)
    (first
      | (go_at_call 12; refine (ship_any b g L _ HB.out.d1 p a bb).mono ?_; rintro e w' ⟨rfl, hu⟩; replace HB := Lib.hid (HB.out.up1 hu); clear hu)
      | (go_at_call 25; refine (rship_any b2 g2 L _ HB.out.d2 p a bb).mono ?_; rintro e w' ⟨rfl, hu⟩; replace HB := Lib.hid (HB.out.up2 hu); clear hu))
  all_goals
    go_wp2
    go_ret
    exact ⟨by simp, HB.out⟩

set_option maxRecDepth 100000 in
set_option maxHeartbeats 2000000 in
theorem does_land (w : World) (b g b2 g2 : Nat) (L : List (Int × Int)) (h1 : Dir w 51 57 b g L) (h2 : Dir w 61 70 b2 g2 L) (p a bb : Int) :
    Calls Try.prog 16 #[.pointer (some ⟨b, 0, none⟩), .pointer (some ⟨b2, 0, none⟩), .agg #[.int .i64 3, .int .i64 p, .int .i64 a, .int .i64 bb]] w fun e w' =>
      e = .returned (.bool true) ∧ St w b g b2 g2 w' (.cells #[.int .i64 3, .int .i64 p, .int .i64 a, .int .i64 bb] 37) (landL L p a) (landL L p a) := by
  have hst : St w b g b2 g2 (w.alloc (.cells #[.int .i64 3, .int .i64 p, .int .i64 a, .int .i64 bb] 37)).drew _ L L := (St.start h1 h2).drew
  have HB := Lib.hid hst
  clear hst h1 h2
  go_enter Try.func16, Try.ntmps16
  go_wp2
  go_region_held3 (fun w' => w'.cell? ⟨w.heap.size, 1, none⟩ = some (.int .i64 p) ∧ w'.cell? ⟨w.heap.size, 2, none⟩ = some (.int .i64 a) ∧ w'.cell? ⟨w.heap.size, 3, none⟩ = some (.int .i64 bb))
    (first | exact ⟨HB.out.cell 1, HB.out.cell 2, HB.out.cell 3⟩ | go_keep)
    (first
      | (go_at_call 11; refine (land_any b g L _ HB.out.d1 p a).mono ?_; rintro e w' ⟨rfl, hu⟩; replace HB := Lib.hid (HB.out.up1 hu); clear hu)
      | (go_at_call 26; refine (rland_any b2 g2 L _ HB.out.d2 p a).mono ?_; rintro e w' ⟨rfl, hu⟩; replace HB := Lib.hid (HB.out.up2 hu); clear hu))
  all_goals
    go_wp2
    go_ret
    exact ⟨by simp, HB.out⟩

set_option maxRecDepth 100000 in
set_option maxHeartbeats 2000000 in
theorem does_leave (w : World) (b g b2 g2 : Nat) (L : List (Int × Int)) (h1 : Dir w 51 57 b g L) (h2 : Dir w 61 70 b2 g2 L) (p a bb : Int) :
    Calls Try.prog 16 #[.pointer (some ⟨b, 0, none⟩), .pointer (some ⟨b2, 0, none⟩), .agg #[.int .i64 4, .int .i64 p, .int .i64 a, .int .i64 bb]] w fun e w' =>
      e = .returned (.bool true) ∧ St w b g b2 g2 w' (.cells #[.int .i64 4, .int .i64 p, .int .i64 a, .int .i64 bb] 37) (leaveL L p a) (leaveL L p a) := by
  have hst : St w b g b2 g2 (w.alloc (.cells #[.int .i64 4, .int .i64 p, .int .i64 a, .int .i64 bb] 37)).drew _ L L := (St.start h1 h2).drew
  have HB := Lib.hid hst
  clear hst h1 h2
  go_enter Try.func16, Try.ntmps16
  go_wp2
  go_region_held3 (fun w' => w'.cell? ⟨w.heap.size, 1, none⟩ = some (.int .i64 p) ∧ w'.cell? ⟨w.heap.size, 2, none⟩ = some (.int .i64 a) ∧ w'.cell? ⟨w.heap.size, 3, none⟩ = some (.int .i64 bb))
    (first | exact ⟨HB.out.cell 1, HB.out.cell 2, HB.out.cell 3⟩ | go_keep)
    (first
      | (go_at_call 13; refine (leave_any b g L _ HB.out.d1 p a).mono ?_; rintro e w' ⟨rfl, hu⟩; replace HB := Lib.hid (HB.out.up1 hu); clear hu)
      | (go_at_call 27; refine (rleave_any b2 g2 L _ HB.out.d2 p a).mono ?_; rintro e w' ⟨rfl, hu⟩; replace HB := Lib.hid (HB.out.up2 hu); clear hu))
  all_goals
    go_wp2
    go_ret
    exact ⟨by simp, HB.out⟩

set_option maxRecDepth 100000 in
set_option maxHeartbeats 2000000 in
theorem does_heal (w : World) (b g b2 g2 : Nat) (L : List (Int × Int)) (h1 : Dir w 51 57 b g L) (h2 : Dir w 61 70 b2 g2 L) (hnodes : ∀ q ∈ L, nodeB q.2 = true) (p a bb : Int) :
    Calls Try.prog 16 #[.pointer (some ⟨b, 0, none⟩), .pointer (some ⟨b2, 0, none⟩), .agg #[.int .i64 6, .int .i64 p, .int .i64 a, .int .i64 bb]] w fun e w' =>
      e = .returned (.bool true) ∧ St w b g b2 g2 w' (.cells #[.int .i64 6, .int .i64 p, .int .i64 a, .int .i64 bb] 37) (healL L p) (healL L p) := by
  have HN := Lib.hid hnodes
  clear hnodes
  have hst : St w b g b2 g2 (w.alloc (.cells #[.int .i64 6, .int .i64 p, .int .i64 a, .int .i64 bb] 37)).drew _ L L := (St.start h1 h2).drew
  have HB := Lib.hid hst
  clear hst h1 h2
  go_enter Try.func16, Try.ntmps16
  go_wp2
  go_region_held3 (fun w' => w'.cell? ⟨w.heap.size, 1, none⟩ = some (.int .i64 p) ∧ w'.cell? ⟨w.heap.size, 2, none⟩ = some (.int .i64 a) ∧ w'.cell? ⟨w.heap.size, 3, none⟩ = some (.int .i64 bb))
    (first | exact ⟨HB.out.cell 1, HB.out.cell 2, HB.out.cell 3⟩ | go_keep)
    (first
      | (go_at_call 14; refine (heal_any b g L _ HB.out.d1 p).mono ?_; rintro e w' ⟨rfl, hu⟩; replace HB := Lib.hid (HB.out.up1 hu); clear hu)
      | (go_at_call 30; refine (rheal_any b2 g2 L _ HB.out.d2 p HN.out).mono ?_; rintro e w' ⟨rfl, hu⟩; replace HB := Lib.hid (HB.out.up2 hu); clear hu))
  all_goals
    go_wp2
    go_ret
    exact ⟨by simp, HB.out⟩

set_option maxRecDepth 100000 in
set_option maxHeartbeats 2000000 in
theorem does_ask (w : World) (b g b2 g2 : Nat) (L : List (Int × Int)) (h1 : Dir w 51 57 b g L) (h2 : Dir w 61 70 b2 g2 L) (p a bb : Int) :
    Calls Try.prog 16 #[.pointer (some ⟨b, 0, none⟩), .pointer (some ⟨b2, 0, none⟩), .agg #[.int .i64 1, .int .i64 p, .int .i64 a, .int .i64 bb]] w fun e w' =>
      e = .returned (.bool true) ∧ St w b g b2 g2 w' (.cells #[.int .i64 1, .int .i64 p, .int .i64 a, .int .i64 bb] 37) (askL L p a) (askL L p a) := by
  have hst : St w b g b2 g2 (w.alloc (.cells #[.int .i64 1, .int .i64 p, .int .i64 a, .int .i64 bb] 37)) _ L L := St.start h1 h2
  have HB := Lib.hid hst
  clear hst h1 h2
  go_enter Try.func16, Try.ntmps16
  go_wp2_with (go_at_call 10; fail)
  refine (ask_any b g L _ HB.out.d1 p a).mono ?_
  rintro e w1 ⟨rfl, hu⟩
  replace HB := Lib.hid (HB.out.up1 hu)
  clear hu
  have k1 := HB.out.cell 1
  have k2 := HB.out.cell 2
  go_wp2_with (go_at_call 24; fail)
  refine (rask_any b2 g2 L _ HB.out.d2 p a).mono ?_
  rintro e w2 ⟨rfl, hu⟩
  replace HB := Lib.hid (HB.out.up2 hu)
  clear hu k1 k2
  go_wp2
  go_ret
  exact ⟨by simp, HB.out⟩

set_option maxRecDepth 100000 in
set_option maxHeartbeats 2000000 in
theorem does_where (w : World) (b g b2 g2 : Nat) (L : List (Int × Int)) (h1 : Dir w 51 57 b g L) (h2 : Dir w 61 70 b2 g2 L) (p a bb : Int) :
    Calls Try.prog 16 #[.pointer (some ⟨b, 0, none⟩), .pointer (some ⟨b2, 0, none⟩), .agg #[.int .i64 8, .int .i64 p, .int .i64 a, .int .i64 bb]] w fun e w' =>
      e = .returned (.bool true) ∧ St w b g b2 g2 w' (.cells #[.int .i64 8, .int .i64 p, .int .i64 a, .int .i64 bb] 37) L L := by
  have hst : St w b g b2 g2 (w.alloc (.cells #[.int .i64 8, .int .i64 p, .int .i64 a, .int .i64 bb] 37)) _ L L := St.start h1 h2
  have HB := Lib.hid hst
  clear hst h1 h2
  go_enter Try.func16, Try.ntmps16
  go_wp2_with (go_at_call 19; fail)
  refine (where_any b g L _ HB.out.d1 p).mono ?_
  rintro e w1 ⟨rfl, n1, rfl⟩
  replace HB := Lib.hid (HB.out.drewN n1)
  have k1 := HB.out.cell 1
  go_wp2_with (go_at_call 32; fail)
  refine (rwhere_any b2 g2 L _ HB.out.d2 p).mono ?_
  rintro e w2 ⟨rfl, hu⟩
  replace HB := Lib.hid (HB.out.same hu)
  clear hu k1
  go_wp2
  go_ret
  exact ⟨by simp, HB.out.same ((Ext.refl _ _).alloc _)⟩

set_option maxRecDepth 100000 in
set_option maxHeartbeats 2000000 in
theorem does_none (w : World) (b g b2 g2 : Nat) (L : List (Int × Int)) (h1 : Dir w 51 57 b g L) (h2 : Dir w 61 70 b2 g2 L) (k p a bb : Int) (hk : ¬ (1 ≤ k ∧ k ≤ 8)) :
    Calls Try.prog 16 #[.pointer (some ⟨b, 0, none⟩), .pointer (some ⟨b2, 0, none⟩), .agg #[.int .i64 k, .int .i64 p, .int .i64 a, .int .i64 bb]] w fun e w' =>
      e = .returned (.bool true) ∧ St w b g b2 g2 w' (.cells #[.int .i64 k, .int .i64 p, .int .i64 a, .int .i64 bb] 37) L L := by
  have hst : St w b g b2 g2 (w.alloc (.cells #[.int .i64 k, .int .i64 p, .int .i64 a, .int .i64 bb] 37)) _ L L := St.start h1 h2
  have HB := Lib.hid hst
  have k1 : (k == 1) = false := beq_eq_false_iff_ne.2 (by omega)
  have k2 : (k == 2) = false := beq_eq_false_iff_ne.2 (by omega)
  have k3 : (k == 3) = false := beq_eq_false_iff_ne.2 (by omega)
  have k4 : (k == 4) = false := beq_eq_false_iff_ne.2 (by omega)
  have k5 : (k == 5) = false := beq_eq_false_iff_ne.2 (by omega)
  have k6 : (k == 6) = false := beq_eq_false_iff_ne.2 (by omega)
  have k7 : (k == 7) = false := beq_eq_false_iff_ne.2 (by omega)
  have k8 : (k == 8) = false := beq_eq_false_iff_ne.2 (by omega)
  clear hst h1 h2 hk
  go_enter Try.func16, Try.ntmps16
  go_wp2
  go_ret
  exact ⟨rfl, HB.out⟩

/-- What may be known of two answers. -/
structure Two (w0 : World) (b g b2 g2 : Nat) (w : World) (o : Obj) (L1 L2 : List (Int × Int)) (r1 r2 : Option Value) (l : List Int) : Prop where
  st : St w0 b g b2 g2 w o L1 L2
  one : ∀ v, r1 = some v → ∃ base, g < base ∧ g2 < base ∧ w.ownsRow base 3 1 v l.length (l.map (Value.int .i64))
  two : ∀ v, r2 = some v → ∃ base, g < base ∧ g2 < base ∧ w.ownsRow base 3 1 v l.length (l.map (Value.int .i64))

theorem Two.put1 {w0 w w' : World} {b g b2 g2 : Nat} {o : Obj} {L1 L2 L' : List (Int × Int)} {r1 r2 : Option Value} {l : List Int} (h : Two w0 b g b2 g2 w o L1 L2 r1 r2 l) {v : Value} (u : Upd w w' 51 57 b g L')
    (hv : Ints w' w.heap.size v l) : Two w0 b g b2 g2 w' o L' L2 (some v) r2 l :=
  ⟨h.st.up1 u, fun v' e => by injection e with e; subst e; exact ⟨_, lt_of_block h.st.d1.hc, lt_of_block h.st.d2.hc, hv⟩,
   fun v' e => by obtain ⟨base, x1, x2, x3⟩ := h.two v' e; exact ⟨base, x1, x2, own_ext x3 u.2 (by simp; exact x1)⟩⟩
theorem Two.put2 {w0 w w' : World} {b g b2 g2 : Nat} {o : Obj} {L1 L2 L' : List (Int × Int)} {r1 r2 : Option Value} {l : List Int} (h : Two w0 b g b2 g2 w o L1 L2 r1 r2 l) {v : Value} (u : Upd w w' 61 70 b2 g2 L')
    (hv : Ints w' w.heap.size v l) : Two w0 b g b2 g2 w' o L1 L' r1 (some v) l :=
  ⟨h.st.up2 u, fun v' e => by obtain ⟨base, x1, x2, x3⟩ := h.one v' e; exact ⟨base, x1, x2, own_ext x3 u.2 (by simp; exact x2)⟩,
   fun v' e => by injection e with e; subst e; exact ⟨_, lt_of_block h.st.d1.hc, lt_of_block h.st.d2.hc, hv⟩⟩
theorem Two.alike {w0 w : World} {b g b2 g2 : Nat} {o : Obj} {L1 L2 : List (Int × Int)} {l : List Int} {A1 A2 : Option Addr} {c1 c2 : Nat} (h : Two w0 b g b2 g2 w o L1 L2 (some (.slice A1 l.length c1)) (some (.slice A2 l.length c2)) l) (hl : l.length ≤ 1000000) :
    Calls Try.prog 28 #[.slice A1 l.length c1, .slice A2 l.length c2] w fun e w' => e = .returned (.bool true) ∧ St w0 b g b2 g2 w' o L1 L2 := by
  obtain ⟨b1, _, _, o1⟩ := h.one _ rfl
  obtain ⟨b2, _, _, o2⟩ := h.two _ rfl
  exact (ints_same w b1 b2 A1 A2 c1 c2 l o1 o2 hl).mono fun e w' ⟨he, hw⟩ => ⟨he, h.st.same hw⟩

set_option maxRecDepth 100000 in
set_option maxHeartbeats 2000000 in
theorem does_fail (w : World) (b g b2 g2 : Nat) (L : List (Int × Int)) (h1 : Dir w 51 57 b g L) (h2 : Dir w 61 70 b2 g2 L) (p a bb : Int) :
    Calls Try.prog 16 #[.pointer (some ⟨b, 0, none⟩), .pointer (some ⟨b2, 0, none⟩), .agg #[.int .i64 5, .int .i64 p, .int .i64 a, .int .i64 bb]] w fun e w' =>
      e = .returned (.bool true) ∧ St w b g b2 g2 w' (.cells #[.int .i64 5, .int .i64 p, .int .i64 a, .int .i64 bb] 37) (failL L a) (failL L a) := by
  have hl : (failK L 0 a).length ≤ 32 := by
    have := h1.few
    have := failK_length L 0 a
    omega
  have hst : Two w b g b2 g2 (w.alloc (.cells #[.int .i64 5, .int .i64 p, .int .i64 a, .int .i64 bb] 37)).drew _ L L none none (failK L 0 a) := ⟨(St.start h1 h2).drew, (fun v e => nomatch e), (fun v e => nomatch e)⟩
  have HB := Lib.hid hst
  clear hst h1 h2
  go_enter Try.func16, Try.ntmps16
  go_wp2
  go_region_held3 (fun w' => w'.cell? ⟨w.heap.size, 1, none⟩ = some (.int .i64 p) ∧ w'.cell? ⟨w.heap.size, 2, none⟩ = some (.int .i64 a) ∧ w'.cell? ⟨w.heap.size, 3, none⟩ = some (.int .i64 bb))
    (first | exact ⟨HB.out.st.cell 1, HB.out.st.cell 2, HB.out.st.cell 3⟩ | exact ⟨HB.out.cell 1, HB.out.cell 2, HB.out.cell 3⟩ | go_keep)
    (first
      | (go_at_call 20; refine (fail_any b g L _ HB.out.st.d1 a).mono ?_; rintro e w' ⟨A1, c1, rfl, hi, hu⟩; replace HB := Lib.hid (HB.out.put1 hu hi); clear hu hi)
      | (go_at_call 29; refine (rfail_any b2 g2 L _ HB.out.st.d2 a).mono ?_; rintro e w' ⟨A2, c2, rfl, hi, hu⟩; replace HB := Lib.hid (HB.out.put2 hu hi); clear hu hi)
      | (go_at_call 28; refine (HB.out.alike (by omega)).mono ?_; rintro e w' ⟨rfl, hu⟩; replace HB := Lib.hid hu; clear hu))
  all_goals
    go_wp2
    go_ret
    exact ⟨by simp, HB.out⟩

set_option maxRecDepth 100000 in
set_option maxHeartbeats 2000000 in
theorem does_of (w : World) (b g b2 g2 : Nat) (L : List (Int × Int)) (h1 : Dir w 51 57 b g L) (h2 : Dir w 61 70 b2 g2 L) (p a bb : Int) :
    Calls Try.prog 16 #[.pointer (some ⟨b, 0, none⟩), .pointer (some ⟨b2, 0, none⟩), .agg #[.int .i64 7, .int .i64 p, .int .i64 a, .int .i64 bb]] w fun e w' =>
      e = .returned (.bool true) ∧ St w b g b2 g2 w' (.cells #[.int .i64 7, .int .i64 p, .int .i64 a, .int .i64 bb] 37) L L := by
  have hl : (ofL L a bb).length ≤ 32 := by
    have := h1.few
    have := ofK_length L 0 a bb
    unfold ofL
    split
    · simp
    · omega
  have hst : Two w b g b2 g2 (w.alloc (.cells #[.int .i64 7, .int .i64 p, .int .i64 a, .int .i64 bb] 37)).drew _ L L none none (ofL L a bb) := ⟨(St.start h1 h2).drew, (fun v e => nomatch e), (fun v e => nomatch e)⟩
  have HB := Lib.hid hst
  clear hst h1 h2
  go_enter Try.func16, Try.ntmps16
  go_wp2
  go_region_held3 (fun w' => w'.cell? ⟨w.heap.size, 1, none⟩ = some (.int .i64 p) ∧ w'.cell? ⟨w.heap.size, 2, none⟩ = some (.int .i64 a) ∧ w'.cell? ⟨w.heap.size, 3, none⟩ = some (.int .i64 bb))
    (first | exact ⟨HB.out.st.cell 1, HB.out.st.cell 2, HB.out.st.cell 3⟩ | exact ⟨HB.out.cell 1, HB.out.cell 2, HB.out.cell 3⟩ | go_keep)
    (first
      | (go_at_call 18; refine (of_any b g L _ HB.out.st.d1 a bb).mono ?_; rintro e w' ⟨A1, c1, rfl, hi, hu⟩; replace HB := Lib.hid (HB.out.put1 ⟨HB.out.st.d1.ext hu (by simp) (by simp), hu.mono (by simp)⟩ hi); clear hu hi)
      | (go_at_call 31; refine (rof_any b2 g2 L _ HB.out.st.d2 a bb).mono ?_; rintro e w' ⟨A2, c2, rfl, hi, hu⟩; replace HB := Lib.hid (HB.out.put2 ⟨HB.out.st.d2.ext hu (by simp) (by simp), hu.mono (by simp)⟩ hi); clear hu hi)
      | (go_at_call 28; refine (HB.out.alike (by omega)).mono ?_; rintro e w' ⟨rfl, hu⟩; replace HB := Lib.hid hu; clear hu))
  all_goals
    go_wp2
    go_ret
    exact ⟨by simp, HB.out⟩

/-- What a call makes of the places. -/
def doesL (L : List (Int × Int)) (k p a bb : Int) : List (Int × Int) :=
  if k = 1 then askL L p a else if k = 2 then shipL L p a bb else if k = 3 then landL L p a else if k = 4 then leaveL L p a else if k = 5 then failL L a else if k = 6 then healL L p else L

theorem does_any (w : World) (b g b2 g2 : Nat) (L : List (Int × Int)) (h1 : Dir w 51 57 b g L) (h2 : Dir w 61 70 b2 g2 L) (hnodes : ∀ q ∈ L, nodeB q.2 = true) (k p a bb : Int) :
    Calls Try.prog 16 #[.pointer (some ⟨b, 0, none⟩), .pointer (some ⟨b2, 0, none⟩), .agg #[.int .i64 k, .int .i64 p, .int .i64 a, .int .i64 bb]] w fun e w' =>
      e = .returned (.bool true) ∧ Dir w' 51 57 b g (doesL L k p a bb) ∧ Dir w' 61 70 b2 g2 (doesL L k p a bb) ∧ Ext [g, g2] w w' := by
  by_cases hk : 1 ≤ k ∧ k ≤ 8
  · have : k = 1 ∨ k = 2 ∨ k = 3 ∨ k = 4 ∨ k = 5 ∨ k = 6 ∨ k = 7 ∨ k = 8 := by omega
    rcases this with rfl | rfl | rfl | rfl | rfl | rfl | rfl | rfl
    · exact (does_ask w b g b2 g2 L h1 h2 p a bb).mono fun e w' ⟨he, s⟩ => ⟨he, s.d1, s.d2, s.ext⟩
    · exact (does_ship w b g b2 g2 L h1 h2 p a bb).mono fun e w' ⟨he, s⟩ => ⟨he, s.d1, s.d2, s.ext⟩
    · exact (does_land w b g b2 g2 L h1 h2 p a bb).mono fun e w' ⟨he, s⟩ => ⟨he, s.d1, s.d2, s.ext⟩
    · exact (does_leave w b g b2 g2 L h1 h2 p a bb).mono fun e w' ⟨he, s⟩ => ⟨he, s.d1, s.d2, s.ext⟩
    · exact (does_fail w b g b2 g2 L h1 h2 p a bb).mono fun e w' ⟨he, s⟩ => ⟨he, s.d1, s.d2, s.ext⟩
    · exact (does_heal w b g b2 g2 L h1 h2 hnodes p a bb).mono fun e w' ⟨he, s⟩ => ⟨he, s.d1, s.d2, s.ext⟩
    · exact (does_of w b g b2 g2 L h1 h2 p a bb).mono fun e w' ⟨he, s⟩ => ⟨he, s.d1, s.d2, s.ext⟩
    · exact (does_where w b g b2 g2 L h1 h2 p a bb).mono fun e w' ⟨he, s⟩ => ⟨he, s.d1, s.d2, s.ext⟩
  · have e : doesL L k p a bb = L := by
      unfold doesL
      rw [if_neg (by omega), if_neg (by omega), if_neg (by omega), if_neg (by omega), if_neg (by omega), if_neg (by omega)]
    rw [e]
    exact (does_none w b g b2 g2 L h1 h2 k p a bb hk).mono fun e w' ⟨he, s⟩ => ⟨he, s.d1, s.d2, s.ext⟩

end Go.Proofs.Ytkckkbajaaklnaa
