/- moves: a call of both pools. -/
import Derived.Test.YtkdmilchklmefaaScript
import Derived.Test.YtkdmilchklmefaaRTot
namespace Go.Proofs.Ytkdmilchklmefaa
open Go.RowKit
set_option linter.unusedVariables false
set_option linter.unusedSimpArgs false

/-- Both pools; the call's own row. -/
structure MS (w0 : World) (b g b2 g2 cap : Nat) (tl : List Value) (w : World) (c : List Value) (F F2 : List (Fr ByteArray)) (h h2 : Nat) : Prop where
  p : sPool w b g F h
  q : RPool w b2 g2 cap tl F2 h2
  box : Blk w w0.heap.size 53 c
  ext : Ext [b, g, b2, g2] w0 w
  old : b < w0.heap.size ∧ g < w0.heap.size ∧ b2 < w0.heap.size ∧ g2 < w0.heap.size
theorem apart2 {w : World} {b g b2 g2 cap h h2 : Nat} {tl : List Value} {F F2 : List (Fr ByteArray)} (p : sPool w b g F h) (q : RPool w b2 g2 cap tl F2 h2) : b ≠ b2 ∧ b ≠ g2 ∧ g ≠ b2 ∧ g ≠ g2 :=
  ⟨p.hd.apart q.hd (by decide), p.hd.apart q.hc (by decide), p.hc.apart q.hd (by decide), p.hc.apart q.hc (by decide)⟩
section
variable {w0 w w' : World} {b g b2 g2 cap h h2 h' : Nat} {tl : List Value} {c : List Value} {F F2 F' : List (Fr ByteArray)}
theorem MS.start (p : sPool w0 b g F h) (q : RPool w0 b2 g2 cap tl F2 h2) (c : List Value) : MS w0 b g b2 g2 cap tl (w0.alloc (.cells c.toArray 53)) c F F2 h h2 :=
  ⟨p.same ((Ext.refl _ _).alloc _), q.same ((Ext.refl _ _).alloc _), Blk.new _ _ _, (Ext.refl _ _).alloc _, p.hd.lt, p.hc.lt, q.hd.lt, q.hc.lt⟩
theorem MS.same (m : MS w0 b g b2 g2 cap tl w c F F2 h h2) (e : Ext [] w w') : MS w0 b g b2 g2 cap tl w' c F F2 h h2 :=
  ⟨m.p.same e, m.q.same e, m.box.ext e (by simp), m.ext.trans e.any, m.old⟩
theorem MS.up1 (m : MS w0 b g b2 g2 cap tl w c F F2 h h2) (u : sPU w w' b g F' h') : MS w0 b g b2 g2 cap tl w' c F' F2 h' h2 := by
  have a := apart2 m.p m.q
  have o := m.old
  exact ⟨u.1, m.q.ext u.2 (by simp; omega) (by simp; omega), m.box.ext u.2 (by simp; omega), m.ext.trans (u.2.mono (by intro x hx; simp at hx ⊢; omega)), m.old⟩
theorem MS.up2 (m : MS w0 b g b2 g2 cap tl w c F F2 h h2) (u : RU w w' b2 g2 cap tl F' h') : MS w0 b g b2 g2 cap tl w' c F F' h h' := by
  have a := apart2 m.p m.q
  have o := m.old
  exact ⟨m.p.ext u.2 (by simp; omega) (by simp; omega), u.1, m.box.ext u.2 (by simp; omega), m.ext.trans (u.2.mono (by intro x hx; simp at hx ⊢; omega)), m.old⟩
end

set_option maxRecDepth 100000 in
set_option maxHeartbeats 2000000 in
theorem moves2 (w : World) (b g b2 g2 cap h : Nat) (tl : List Value) (F : List (Fr ByteArray)) (hp : sPool w b g F h) (hq : RPool w b2 g2 cap tl F h) (hF : Few 1000000 F) (id : Int) (x : ByteArray) (n : Int) :
    Calls Try.prog 24 #[.pointer (some ⟨b, 0, none⟩), .pointer (some ⟨b2, 0, none⟩), .agg #[.int .i64 2, .int .i64 id, .string x, .int .u64 n]] w fun e w' =>
      e = .returned (.bool true) ∧ MS w b g b2 g2 cap tl w' [.int .i64 2, .int .i64 id, .string x, .int .u64 n] (putL F id x) (putL F id x) h h := by
  have HF := Lib.hid hF
  have hst := (MS.start hp hq [.int .i64 2, .int .i64 id, .string x, .int .u64 n]).same ((Ext.refl _ _).drew)
  have HB := Lib.hid hst
  clear hst hp hq hF
  go_enter Try.func24, Try.ntmps24
  go_wp2
  go_region_held3 (fun w' => w'.cell? ⟨w.heap.size, 1, none⟩ = some (.int .i64 id) ∧ w'.cell? ⟨w.heap.size, 2, none⟩ = some (.string x) ∧ w'.cell? ⟨w.heap.size, 3, none⟩ = some (.int .u64 n))
    (first | exact ⟨HB.out.box.cell (k := 1) rfl, HB.out.box.cell (k := 2) rfl, HB.out.box.cell (k := 3) rfl⟩ | go_keep)
    (first
      | (go_at_call 11; refine (sput_any _ b g h F HB.out.p id x).mono ?_; rintro e w' ⟨rfl, hu⟩; replace HB := Lib.hid (HB.out.up1 hu); clear hu)
      | (go_at_call 38; refine (rput_any _ b2 g2 cap h tl F HB.out.q id x).mono ?_; rintro e w' ⟨rfl, hu⟩; replace HB := Lib.hid (HB.out.up2 hu); clear hu))
  all_goals
    go_wp2
    go_ret
    exact ⟨by simp, HB.out⟩

set_option maxRecDepth 100000 in
set_option maxHeartbeats 2000000 in
theorem moves3 (w : World) (b g b2 g2 cap h : Nat) (tl : List Value) (F : List (Fr ByteArray)) (hp : sPool w b g F h) (hq : RPool w b2 g2 cap tl F h) (hF : Few 1000000 F) (id : Int) (x : ByteArray) (n : Int) :
    Calls Try.prog 24 #[.pointer (some ⟨b, 0, none⟩), .pointer (some ⟨b2, 0, none⟩), .agg #[.int .i64 3, .int .i64 id, .string x, .int .u64 n]] w fun e w' =>
      e = .returned (.bool true) ∧ MS w b g b2 g2 cap tl w' [.int .i64 3, .int .i64 id, .string x, .int .u64 n] (upd F id (setU x n)) (upd F id (setU x n)) h h := by
  have HF := Lib.hid hF
  have hst := (MS.start hp hq [.int .i64 3, .int .i64 id, .string x, .int .u64 n]).same ((Ext.refl _ _).drew)
  have HB := Lib.hid hst
  clear hst hp hq hF
  go_enter Try.func24, Try.ntmps24
  go_wp2
  go_region_held3 (fun w' => w'.cell? ⟨w.heap.size, 1, none⟩ = some (.int .i64 id) ∧ w'.cell? ⟨w.heap.size, 2, none⟩ = some (.string x) ∧ w'.cell? ⟨w.heap.size, 3, none⟩ = some (.int .u64 n))
    (first | exact ⟨HB.out.box.cell (k := 1) rfl, HB.out.box.cell (k := 2) rfl, HB.out.box.cell (k := 3) rfl⟩ | go_keep)
    (first
      | (go_at_call 13; refine (sset_any _ b g h F HB.out.p id x n).mono ?_; rintro e w' ⟨rfl, hu⟩; replace HB := Lib.hid (HB.out.up1 hu); clear hu)
      | (go_at_call 39; refine (rset_any _ b2 g2 cap h tl F HB.out.q id x n).mono ?_; rintro e w' ⟨rfl, hu⟩; replace HB := Lib.hid (HB.out.up2 hu); clear hu))
  all_goals
    go_wp2
    go_ret
    exact ⟨by simp, HB.out⟩

set_option maxRecDepth 100000 in
set_option maxHeartbeats 2000000 in
theorem moves4 (w : World) (b g b2 g2 cap h : Nat) (tl : List Value) (F : List (Fr ByteArray)) (hp : sPool w b g F h) (hq : RPool w b2 g2 cap tl F h) (hF : Few 1000000 F) (id : Int) (x : ByteArray) (n : Int) :
    Calls Try.prog 24 #[.pointer (some ⟨b, 0, none⟩), .pointer (some ⟨b2, 0, none⟩), .agg #[.int .i64 4, .int .i64 id, .string x, .int .u64 n]] w fun e w' =>
      e = .returned (.bool true) ∧ MS w b g b2 g2 cap tl w' [.int .i64 4, .int .i64 id, .string x, .int .u64 n] (upd F id clnU) (upd F id clnU) h h := by
  have HF := Lib.hid hF
  have hst := (MS.start hp hq [.int .i64 4, .int .i64 id, .string x, .int .u64 n]).same ((Ext.refl _ _).drew)
  have HB := Lib.hid hst
  clear hst hp hq hF
  go_enter Try.func24, Try.ntmps24
  go_wp2
  go_region_held3 (fun w' => w'.cell? ⟨w.heap.size, 1, none⟩ = some (.int .i64 id) ∧ w'.cell? ⟨w.heap.size, 2, none⟩ = some (.string x) ∧ w'.cell? ⟨w.heap.size, 3, none⟩ = some (.int .u64 n))
    (first | exact ⟨HB.out.box.cell (k := 1) rfl, HB.out.box.cell (k := 2) rfl, HB.out.box.cell (k := 3) rfl⟩ | go_keep)
    (first
      | (go_at_call 12; refine (sclean_any _ b g h F HB.out.p id).mono ?_; rintro e w' ⟨rfl, hu⟩; replace HB := Lib.hid (HB.out.up1 hu); clear hu)
      | (go_at_call 40; refine (rclean_any _ b2 g2 cap h tl F HB.out.q id).mono ?_; rintro e w' ⟨rfl, hu⟩; replace HB := Lib.hid (HB.out.up2 hu); clear hu))
  all_goals
    go_wp2
    go_ret
    exact ⟨by simp, HB.out⟩

set_option maxRecDepth 100000 in
set_option maxHeartbeats 2000000 in
theorem moves5 (w : World) (b g b2 g2 cap h : Nat) (tl : List Value) (F : List (Fr ByteArray)) (hp : sPool w b g F h) (hq : RPool w b2 g2 cap tl F h) (hF : Few 1000000 F) (id : Int) (x : ByteArray) (n : Int) :
    Calls Try.prog 24 #[.pointer (some ⟨b, 0, none⟩), .pointer (some ⟨b2, 0, none⟩), .agg #[.int .i64 5, .int .i64 id, .string x, .int .u64 n]] w fun e w' =>
      e = .returned (.bool true) ∧ MS w b g b2 g2 cap tl w' [.int .i64 5, .int .i64 id, .string x, .int .u64 n] (upd F id fixU) (upd F id fixU) h h := by
  have HF := Lib.hid hF
  have hst := (MS.start hp hq [.int .i64 5, .int .i64 id, .string x, .int .u64 n]).same ((Ext.refl _ _).drew)
  have HB := Lib.hid hst
  clear hst hp hq hF
  go_enter Try.func24, Try.ntmps24
  go_wp2
  go_region_held3 (fun w' => w'.cell? ⟨w.heap.size, 1, none⟩ = some (.int .i64 id) ∧ w'.cell? ⟨w.heap.size, 2, none⟩ = some (.string x) ∧ w'.cell? ⟨w.heap.size, 3, none⟩ = some (.int .u64 n))
    (first | exact ⟨HB.out.box.cell (k := 1) rfl, HB.out.box.cell (k := 2) rfl, HB.out.box.cell (k := 3) rfl⟩ | go_keep)
    (first
      | (go_at_call 34; refine (sfix_any _ b g h F HB.out.p HF.out id).mono ?_; rintro e w' ⟨rfl, hu⟩; replace HB := Lib.hid (HB.out.up1 hu); clear hu)
      | (go_at_call 41; refine (rfix_any _ b2 g2 cap h tl F HB.out.q id HF.out).mono ?_; rintro e w' ⟨rfl, hu⟩; replace HB := Lib.hid (HB.out.up2 hu); clear hu))
  all_goals
    go_wp2
    go_ret
    exact ⟨by simp, HB.out⟩

set_option maxRecDepth 100000 in
set_option maxHeartbeats 2000000 in
theorem moves6 (w : World) (b g b2 g2 cap h : Nat) (tl : List Value) (F : List (Fr ByteArray)) (hp : sPool w b g F h) (hq : RPool w b2 g2 cap tl F h) (hF : Few 1000000 F) (id : Int) (x : ByteArray) (n : Int) :
    Calls Try.prog 24 #[.pointer (some ⟨b, 0, none⟩), .pointer (some ⟨b2, 0, none⟩), .agg #[.int .i64 6, .int .i64 id, .string x, .int .u64 n]] w fun e w' =>
      e = .returned (.bool true) ∧ MS w b g b2 g2 cap tl w' [.int .i64 6, .int .i64 id, .string x, .int .u64 n] (upd F id unfU) (upd F id unfU) h h := by
  have HF := Lib.hid hF
  have hst := (MS.start hp hq [.int .i64 6, .int .i64 id, .string x, .int .u64 n]).same ((Ext.refl _ _).drew)
  have HB := Lib.hid hst
  clear hst hp hq hF
  go_enter Try.func24, Try.ntmps24
  go_wp2
  go_region_held3 (fun w' => w'.cell? ⟨w.heap.size, 1, none⟩ = some (.int .i64 id) ∧ w'.cell? ⟨w.heap.size, 2, none⟩ = some (.string x) ∧ w'.cell? ⟨w.heap.size, 3, none⟩ = some (.int .u64 n))
    (first | exact ⟨HB.out.box.cell (k := 1) rfl, HB.out.box.cell (k := 2) rfl, HB.out.box.cell (k := 3) rfl⟩ | go_keep)
    (first
      | (go_at_call 18; refine (sunfix_any _ b g h F HB.out.p HF.out id).mono ?_; rintro e w' ⟨rfl, hu⟩; replace HB := Lib.hid (HB.out.up1 hu); clear hu)
      | (go_at_call 41; refine (runfix_any _ b2 g2 cap h tl F HB.out.q id HF.out).mono ?_; rintro e w' ⟨rfl, hu⟩; replace HB := Lib.hid (HB.out.up2 hu); clear hu))
  all_goals
    go_wp2
    go_ret
    exact ⟨by simp, HB.out⟩

set_option maxRecDepth 100000 in
set_option maxHeartbeats 2000000 in
theorem moves8 (w : World) (b g b2 g2 cap h : Nat) (tl : List Value) (F : List (Fr ByteArray)) (hp : sPool w b g F h) (hq : RPool w b2 g2 cap tl F h) (hF : Few 1000000 F) (id : Int) (x : ByteArray) (n : Int) :
    Calls Try.prog 24 #[.pointer (some ⟨b, 0, none⟩), .pointer (some ⟨b2, 0, none⟩), .agg #[.int .i64 8, .int .i64 id, .string x, .int .u64 n]] w fun e w' =>
      e = .returned (.bool true) ∧ MS w b g b2 g2 cap tl w' [.int .i64 8, .int .i64 id, .string x, .int .u64 n] (upd F id (drpU ByteArray.empty)) (upd F id (drpU ByteArray.empty)) h h := by
  have HF := Lib.hid hF
  have hst := (MS.start hp hq [.int .i64 8, .int .i64 id, .string x, .int .u64 n]).same ((Ext.refl _ _).drew)
  have HB := Lib.hid hst
  clear hst hp hq hF
  go_enter Try.func24, Try.ntmps24
  go_wp2
  go_region_held3 (fun w' => w'.cell? ⟨w.heap.size, 1, none⟩ = some (.int .i64 id) ∧ w'.cell? ⟨w.heap.size, 2, none⟩ = some (.string x) ∧ w'.cell? ⟨w.heap.size, 3, none⟩ = some (.int .u64 n))
    (first | exact ⟨HB.out.box.cell (k := 1) rfl, HB.out.box.cell (k := 2) rfl, HB.out.box.cell (k := 3) rfl⟩ | go_keep)
    (first
      | (go_at_call 19; refine (sdrop_any _ b g h F HB.out.p id).mono ?_; rintro e w' ⟨rfl, hu⟩; replace HB := Lib.hid (HB.out.up1 hu); clear hu)
      | (go_at_call 43; refine (rdrop_any _ b2 g2 cap h tl F HB.out.q id).mono ?_; rintro e w' ⟨rfl, hu⟩; replace HB := Lib.hid (HB.out.up2 hu); clear hu))
  all_goals
    go_wp2
    go_ret
    exact ⟨by simp, HB.out⟩

set_option maxRecDepth 100000 in
set_option maxHeartbeats 2000000 in
theorem moves1 (w : World) (b g b2 g2 cap h : Nat) (tl : List Value) (F : List (Fr ByteArray)) (hp : sPool w b g F h) (hq : RPool w b2 g2 cap tl F h) (hF : Few 1000000 F) (id : Int) (x : ByteArray) (n : Int) :
    Calls Try.prog 24 #[.pointer (some ⟨b, 0, none⟩), .pointer (some ⟨b2, 0, none⟩), .agg #[.int .i64 1, .int .i64 id, .string x, .int .u64 n]] w fun e w' =>
      e = .returned (.bool true) ∧ MS w b g b2 g2 cap tl w' [.int .i64 1, .int .i64 id, .string x, .int .u64 n] (upd F id mrkU) (upd F id mrkU) h h := by
  have HF := Lib.hid hF
  have hst := MS.start hp hq [.int .i64 1, .int .i64 id, .string x, .int .u64 n]
  have HB := Lib.hid hst
  clear hst hp hq hF
  go_enter Try.func24, Try.ntmps24
  go_wp2_with (go_at_call 21; fail)
  refine (sget_any _ b g h F HB.out.p id).mono ?_
  rintro e w1 ⟨rfl, hu⟩
  replace HB := Lib.hid (HB.out.up1 hu)
  clear hu
  have k1 := HB.out.box.cell (k := 1) rfl
  go_wp2_with (go_at_call 37; fail)
  refine (rget_any _ b2 g2 cap h tl F HB.out.q id).mono ?_
  rintro e w2 ⟨rfl, hu⟩
  replace HB := Lib.hid (HB.out.up2 hu)
  clear hu k1
  generalize xOf ByteArray.empty F id = xx at *
  generalize (find F id).isSome = oo at *
  go_wp2
  go_ret
  exact ⟨by simp, HB.out⟩

set_option maxRecDepth 100000 in
set_option maxHeartbeats 2000000 in
theorem moves7 (w : World) (b g b2 g2 cap h : Nat) (tl : List Value) (F : List (Fr ByteArray)) (hp : sPool w b g F h) (hq : RPool w b2 g2 cap tl F h) (hF : Few 1000000 F) (id : Int) (x : ByteArray) (n : Int) :
    Calls Try.prog 24 #[.pointer (some ⟨b, 0, none⟩), .pointer (some ⟨b2, 0, none⟩), .agg #[.int .i64 7, .int .i64 id, .string x, .int .u64 n]] w fun e w' =>
      e = .returned (.bool true) ∧ MS w b g b2 g2 cap tl w' [.int .i64 7, .int .i64 id, .string x, .int .u64 n] (vic F h).2.2.1 (vic F h).2.2.1 (vic F h).2.2.2 (vic F h).2.2.2 := by
  have HF := Lib.hid hF
  have hst := MS.start hp hq [.int .i64 7, .int .i64 id, .string x, .int .u64 n]
  have HB := Lib.hid hst
  clear hst hp hq hF
  go_enter Try.func24, Try.ntmps24
  go_wp2_with (go_at_call 17; fail)
  refine (svictim_any _ b g h F HB.out.p HF.out).mono ?_
  rintro e w1 ⟨rfl, hu⟩
  replace HB := Lib.hid (HB.out.up1 hu)
  clear hu
  go_wp2_with (go_at_call 42; fail)
  refine (rvictim_any _ b2 g2 cap h tl F HB.out.q).mono ?_
  rintro e w2 ⟨rfl, hu⟩
  replace HB := Lib.hid (HB.out.up2 hu)
  clear hu
  go_wp2
  go_ret
  exact ⟨by simp, HB.out⟩

set_option maxHeartbeats 1000000 in
theorem moves_else (w : World) (b g b2 g2 cap h : Nat) (tl : List Value) (F : List (Fr ByteArray)) (hp : sPool w b g F h) (hq : RPool w b2 g2 cap tl F h) (k id : Int) (x : ByteArray) (n : Int) (h1 : ¬ k = 1) (h2 : ¬ k = 2) (h3 : ¬ k = 3) (h4 : ¬ k = 4) (h5 : ¬ k = 5) (h6 : ¬ k = 6) (h7 : ¬ k = 7) (h8 : ¬ k = 8) :
    Calls Try.prog 24 #[.pointer (some ⟨b, 0, none⟩), .pointer (some ⟨b2, 0, none⟩), .agg #[.int .i64 k, .int .i64 id, .string x, .int .u64 n]] w fun e w' =>
      e = .returned (.bool true) ∧ MS w b g b2 g2 cap tl w' [.int .i64 k, .int .i64 id, .string x, .int .u64 n] F F h h := by
  have HB := Lib.hid (MS.start hp hq [.int .i64 k, .int .i64 id, .string x, .int .u64 n])
  clear hp hq
  go_enter Try.func24, Try.ntmps24
  go_wp2
  go_ret
  exact ⟨rfl, HB.out⟩

/-- Any call. -/
theorem moves_any (w : World) (b g b2 g2 cap h : Nat) (tl : List Value) (F : List (Fr ByteArray)) (hp : sPool w b g F h) (hq : RPool w b2 g2 cap tl F h) (hF : Few 1000000 F) (k id : Int) (x : ByteArray) (n : Int) :
    Calls Try.prog 24 #[.pointer (some ⟨b, 0, none⟩), .pointer (some ⟨b2, 0, none⟩), .agg #[.int .i64 k, .int .i64 id, .string x, .int .u64 n]] w fun e w' =>
      e = .returned (.bool true) ∧ sPool w' b g (step ByteArray.empty x F h k id n).2.1 (step ByteArray.empty x F h k id n).2.2 ∧ RPool w' b2 g2 cap tl (step ByteArray.empty x F h k id n).2.1 (step ByteArray.empty x F h k id n).2.2 ∧ Ext [b, g, b2, g2] w w' := by
  have put : ∀ {k : Int} {F' : List (Fr ByteArray)} {h' : Nat}, Calls Try.prog 24 #[.pointer (some ⟨b, 0, none⟩), .pointer (some ⟨b2, 0, none⟩), .agg #[.int .i64 k, .int .i64 id, .string x, .int .u64 n]] w (fun e w' =>
      e = .returned (.bool true) ∧ MS w b g b2 g2 cap tl w' [.int .i64 k, .int .i64 id, .string x, .int .u64 n] F' F' h' h') → Calls Try.prog 24 #[.pointer (some ⟨b, 0, none⟩), .pointer (some ⟨b2, 0, none⟩), .agg #[.int .i64 k, .int .i64 id, .string x, .int .u64 n]] w fun e w' =>
      e = .returned (.bool true) ∧ sPool w' b g F' h' ∧ RPool w' b2 g2 cap tl F' h' ∧ Ext [b, g, b2, g2] w w' := fun h => h.mono fun e w' ⟨he, m⟩ => ⟨he, m.p, m.q, m.ext⟩
  by_cases h1 : k = 1
  · subst h1; exact put (moves1 w b g b2 g2 cap h tl F hp hq hF id x n)
  by_cases h2 : k = 2
  · subst h2; exact put (moves2 w b g b2 g2 cap h tl F hp hq hF id x n)
  by_cases h3 : k = 3
  · subst h3; exact put (moves3 w b g b2 g2 cap h tl F hp hq hF id x n)
  by_cases h4 : k = 4
  · subst h4; exact put (moves4 w b g b2 g2 cap h tl F hp hq hF id x n)
  by_cases h5 : k = 5
  · subst h5; exact put (moves5 w b g b2 g2 cap h tl F hp hq hF id x n)
  by_cases h6 : k = 6
  · subst h6; exact put (moves6 w b g b2 g2 cap h tl F hp hq hF id x n)
  by_cases h7 : k = 7
  · subst h7; exact put (moves7 w b g b2 g2 cap h tl F hp hq hF id x n)
  by_cases h8 : k = 8
  · subst h8; exact put (moves8 w b g b2 g2 cap h tl F hp hq hF id x n)
  unfold step
  rw [if_neg h1, if_neg h2, if_neg h3, if_neg h4, if_neg h5, if_neg h6, if_neg h7, if_neg h8]
  exact put (moves_else w b g b2 g2 cap h tl F hp hq k id x n h1 h2 h3 h4 h5 h6 h7 h8)

end Go.Proofs.Ytkdmilchklmefaa
