/- number under bytes' closure, kind by kind. -/
import Derived.Test.YthedllndcibkcaaBClos
namespace Go.Proofs.Ythedllndcibkcaa
open Go.RowKit
set_option linter.unusedVariables false
set_option linter.unusedSimpArgs false

def St.get (x : St) (f : Nat) : Int := match f with
  | 0 => x.k
  | 1 => x.n
  | 2 => x.t
  | 3 => x.p
  | 4 => x.s
  | 5 => x.o
  | 6 => x.c
  | _ => x.m
theorem St.cell_get (x : St) (f : Nat) (h : f < 8) : x.cells[f]? = some (.int .i64 (x.get f)) := by
  match f, h with
  | 0, _ => rfl
  | 1, _ => rfl
  | 2, _ => rfl
  | 3, _ => rfl
  | 4, _ => rfl
  | 5, _ => rfl
  | 6, _ => rfl
  | 7, _ => rfl
theorem encB_le (wd : Nat) (n : Int) : (encB wd n).length ≤ 2 := by unfold encB; split <;> simp
/-- Bytes on their way, so few. -/
def BW (w0 w : World) (base sb pk po b : Nat) (x : St) (out : List Int) (ok : Bool) : Prop := ∃ A c, BS w0 w base sb pk po x A c out ok ∧ out.length ≤ b
theorem BW.cell0 {w0 w : World} {base sb pk po b : Nat} {x : St} {out : List Int} {ok : Bool} (h : BW w0 w base sb pk po b x out ok) : w.cell? ⟨sb, 0, none⟩ = some (.int .i64 x.k) := by
  obtain ⟨A, c, hs, _⟩ := h
  exact hs.hs.cell (k := 0) rfl
theorem eachb_any (w0 w : World) (base sb pk po b : Nat) (x : St) (out : List Int) (ok : Bool) (h : BW w0 w base sb pk po b x out ok) (hb : b ≤ 90000) (f wd : Nat) (hf : f < 8) (hw : wd = 1 ∨ wd = 2) :
    Calls Try.prog 23 #[.pointer (some ⟨sb, f, none⟩), .int .i64 wd, .pointer (some ⟨pk, 0, none⟩), .pointer (some ⟨po, 0, none⟩)] w fun e w' => e = .returned (.tuple #[]) ∧ BW w0 w' base sb pk po (b + 2) (x.put f 0) (out ++ encB wd (x.get f)) (ok && inr wd (x.get f)) := by
  obtain ⟨A, c, hs, hl⟩ := h
  have hn := x.cell_get f hf
  generalize x.get f = n at *
  have hel := encB_le wd n
  have fin : ∀ (ok' : Bool), ok' = (ok && inr wd n) → (Calls Try.prog 23 #[.pointer (some ⟨sb, f, none⟩), .int .i64 wd, .pointer (some ⟨pk, 0, none⟩), .pointer (some ⟨po, 0, none⟩)] w fun e w' => e = .returned (.tuple #[]) ∧ ∃ A' c', BS w0 w' base sb pk po (x.put f 0) A' c' (out ++ encB wd n) ok') →
      Calls Try.prog 23 #[.pointer (some ⟨sb, f, none⟩), .int .i64 wd, .pointer (some ⟨pk, 0, none⟩), .pointer (some ⟨po, 0, none⟩)] w fun e w' => e = .returned (.tuple #[]) ∧ BW w0 w' base sb pk po (b + 2) (x.put f 0) (out ++ encB wd n) (ok && inr wd n) := by
    intro ok' he hc
    subst he
    exact hc.mono fun e w' ⟨h1, A', c', h2⟩ => ⟨h1, A', c', h2, by rw [List.length_append]; omega⟩
  cases ok with
  | false =>
    refine fin false rfl ?_
    rcases hw with rfl | rfl
    · exact each1_no w0 w base sb pk po x A c out hs (by omega) f hf n hn
    · exact each2_no w0 w base sb pk po x A c out hs (by omega) f hf n hn
  | true =>
    by_cases h0 : n < 0
    · refine fin false (by simp [inr]; omega) ?_
      rcases hw with rfl | rfl
      · exact each1_neg w0 w base sb pk po x A c out hs (by omega) f hf n hn h0
      · exact each2_neg w0 w base sb pk po x A c out hs (by omega) f hf n hn h0
    · rcases hw with rfl | rfl
      · by_cases h1 : n < 256
        · exact fin true (by simp [inr]; omega) (each1_ok w0 w base sb pk po x A c out hs (by omega) f hf n hn (by omega) h1)
        · exact fin false (by simp [inr]; omega) (each1_big w0 w base sb pk po x A c out hs (by omega) f hf n hn (by omega))
      · by_cases h1 : n < 65536
        · exact fin true (by simp [inr]; omega) (each2_ok w0 w base sb pk po x A c out hs (by omega) f hf n hn (by omega) h1)
        · exact fin false (by simp [inr]; omega) (each2_big w0 w base sb pk po x A c out hs (by omega) f hf n hn (by omega))

def runB : List (Nat × Nat) → St × List Int × Bool → St × List Int × Bool
  | [], s => s
  | q :: l, s => runB l (s.1.put q.1 0, s.2.1 ++ encB q.2 (s.1.get q.1), s.2.2 && inr q.2 (s.1.get q.1))

set_option maxHeartbeats 4000000 in
theorem bnumber_1 (w0 w : World) (base sb pk po b : Nat) (x : St) (out : List Int) (ok : Bool) (hk : x.k = 1) (h : BW w0 w base sb pk po b x out ok) (hb : b ≤ 1000) :
    Calls Try.prog 15 #[.pointer (some ⟨sb, 0, none⟩), .func (.func 23) #[] #[.pointer (some ⟨pk, 0, none⟩), .pointer (some ⟨po, 0, none⟩)]] w fun e w' => e = .returned (.tuple #[]) ∧
      BW w0 w' base sb pk po (b + 8) (runB (fieldsOf 1) (x, out, ok)).1 (runB (fieldsOf 1) (x, out, ok)).2.1 (runB (fieldsOf 1) (x, out, ok)).2.2 := by
  obtain ⟨xk, xn, xt, xp, xs, xo, xc, xm, xv⟩ := x
  simp only at hk
  subst hk
  have HD := Lib.hid h
  have c0 : w.cell? ⟨sb, 0, none⟩ = some (.int .i64 1) := h.cell0
  clear h
  go_enter Try.func15, Try.ntmps15
  go_wp2_with (go_at_call 23; fail)
  refine (eachb_any w0 _ base sb pk po _ _ _ _ HD.out (by omega) 1 1 (by omega) (by decide)).mono ?_
  rintro e w' ⟨rfl, hd⟩
  replace HD := Lib.hid hd
  have c0 : w'.cell? ⟨sb, 0, none⟩ = some (.int .i64 1) := hd.cell0
  clear hd
  go_wp2
  go_end0
  obtain ⟨A, c, hs, hl⟩ := HD.out
  exact ⟨rfl, A, c, hs, Nat.le_trans hl (by omega)⟩

set_option maxHeartbeats 4000000 in
theorem bnumber_2 (w0 w : World) (base sb pk po b : Nat) (x : St) (out : List Int) (ok : Bool) (hk : x.k = 2) (h : BW w0 w base sb pk po b x out ok) (hb : b ≤ 1000) :
    Calls Try.prog 15 #[.pointer (some ⟨sb, 0, none⟩), .func (.func 23) #[] #[.pointer (some ⟨pk, 0, none⟩), .pointer (some ⟨po, 0, none⟩)]] w fun e w' => e = .returned (.tuple #[]) ∧
      BW w0 w' base sb pk po (b + 8) (runB (fieldsOf 2) (x, out, ok)).1 (runB (fieldsOf 2) (x, out, ok)).2.1 (runB (fieldsOf 2) (x, out, ok)).2.2 := by
  obtain ⟨xk, xn, xt, xp, xs, xo, xc, xm, xv⟩ := x
  simp only at hk
  subst hk
  have HD := Lib.hid h
  have c0 : w.cell? ⟨sb, 0, none⟩ = some (.int .i64 2) := h.cell0
  clear h
  go_enter Try.func15, Try.ntmps15
  go_wp2_with (go_at_call 23; fail)
  refine (eachb_any w0 _ base sb pk po _ _ _ _ HD.out (by omega) 1 1 (by omega) (by decide)).mono ?_
  rintro e w' ⟨rfl, hd⟩
  replace HD := Lib.hid hd
  have c0 : w'.cell? ⟨sb, 0, none⟩ = some (.int .i64 2) := hd.cell0
  clear hd
  go_wp2_with (go_at_call 23; fail)
  refine (eachb_any w0 _ base sb pk po _ _ _ _ HD.out (by omega) 2 1 (by omega) (by decide)).mono ?_
  rintro e w' ⟨rfl, hd⟩
  replace HD := Lib.hid hd
  have c0 : w'.cell? ⟨sb, 0, none⟩ = some (.int .i64 2) := hd.cell0
  clear hd
  go_wp2_with (go_at_call 23; fail)
  refine (eachb_any w0 _ base sb pk po _ _ _ _ HD.out (by omega) 3 1 (by omega) (by decide)).mono ?_
  rintro e w' ⟨rfl, hd⟩
  replace HD := Lib.hid hd
  have c0 : w'.cell? ⟨sb, 0, none⟩ = some (.int .i64 2) := hd.cell0
  clear hd
  go_wp2_with (go_at_call 23; fail)
  refine (eachb_any w0 _ base sb pk po _ _ _ _ HD.out (by omega) 4 1 (by omega) (by decide)).mono ?_
  rintro e w' ⟨rfl, hd⟩
  replace HD := Lib.hid hd
  have c0 : w'.cell? ⟨sb, 0, none⟩ = some (.int .i64 2) := hd.cell0
  clear hd
  go_wp2
  go_end0
  obtain ⟨A, c, hs, hl⟩ := HD.out
  exact ⟨rfl, A, c, hs, Nat.le_trans hl (by omega)⟩

set_option maxHeartbeats 4000000 in
theorem bnumber_3 (w0 w : World) (base sb pk po b : Nat) (x : St) (out : List Int) (ok : Bool) (hk : x.k = 3) (h : BW w0 w base sb pk po b x out ok) (hb : b ≤ 1000) :
    Calls Try.prog 15 #[.pointer (some ⟨sb, 0, none⟩), .func (.func 23) #[] #[.pointer (some ⟨pk, 0, none⟩), .pointer (some ⟨po, 0, none⟩)]] w fun e w' => e = .returned (.tuple #[]) ∧
      BW w0 w' base sb pk po (b + 8) (runB (fieldsOf 3) (x, out, ok)).1 (runB (fieldsOf 3) (x, out, ok)).2.1 (runB (fieldsOf 3) (x, out, ok)).2.2 := by
  obtain ⟨xk, xn, xt, xp, xs, xo, xc, xm, xv⟩ := x
  simp only at hk
  subst hk
  have HD := Lib.hid h
  have c0 : w.cell? ⟨sb, 0, none⟩ = some (.int .i64 3) := h.cell0
  clear h
  go_enter Try.func15, Try.ntmps15
  go_wp2_with (go_at_call 23; fail)
  refine (eachb_any w0 _ base sb pk po _ _ _ _ HD.out (by omega) 1 1 (by omega) (by decide)).mono ?_
  rintro e w' ⟨rfl, hd⟩
  replace HD := Lib.hid hd
  have c0 : w'.cell? ⟨sb, 0, none⟩ = some (.int .i64 3) := hd.cell0
  clear hd
  go_wp2_with (go_at_call 23; fail)
  refine (eachb_any w0 _ base sb pk po _ _ _ _ HD.out (by omega) 2 1 (by omega) (by decide)).mono ?_
  rintro e w' ⟨rfl, hd⟩
  replace HD := Lib.hid hd
  have c0 : w'.cell? ⟨sb, 0, none⟩ = some (.int .i64 3) := hd.cell0
  clear hd
  go_wp2_with (go_at_call 23; fail)
  refine (eachb_any w0 _ base sb pk po _ _ _ _ HD.out (by omega) 3 1 (by omega) (by decide)).mono ?_
  rintro e w' ⟨rfl, hd⟩
  replace HD := Lib.hid hd
  have c0 : w'.cell? ⟨sb, 0, none⟩ = some (.int .i64 3) := hd.cell0
  clear hd
  go_wp2_with (go_at_call 23; fail)
  refine (eachb_any w0 _ base sb pk po _ _ _ _ HD.out (by omega) 4 1 (by omega) (by decide)).mono ?_
  rintro e w' ⟨rfl, hd⟩
  replace HD := Lib.hid hd
  have c0 : w'.cell? ⟨sb, 0, none⟩ = some (.int .i64 3) := hd.cell0
  clear hd
  go_wp2
  go_end0
  obtain ⟨A, c, hs, hl⟩ := HD.out
  exact ⟨rfl, A, c, hs, Nat.le_trans hl (by omega)⟩

set_option maxHeartbeats 4000000 in
theorem bnumber_4 (w0 w : World) (base sb pk po b : Nat) (x : St) (out : List Int) (ok : Bool) (hk : x.k = 4) (h : BW w0 w base sb pk po b x out ok) (hb : b ≤ 1000) :
    Calls Try.prog 15 #[.pointer (some ⟨sb, 0, none⟩), .func (.func 23) #[] #[.pointer (some ⟨pk, 0, none⟩), .pointer (some ⟨po, 0, none⟩)]] w fun e w' => e = .returned (.tuple #[]) ∧
      BW w0 w' base sb pk po (b + 8) (runB (fieldsOf 4) (x, out, ok)).1 (runB (fieldsOf 4) (x, out, ok)).2.1 (runB (fieldsOf 4) (x, out, ok)).2.2 := by
  obtain ⟨xk, xn, xt, xp, xs, xo, xc, xm, xv⟩ := x
  simp only at hk
  subst hk
  have HD := Lib.hid h
  have c0 : w.cell? ⟨sb, 0, none⟩ = some (.int .i64 4) := h.cell0
  clear h
  go_enter Try.func15, Try.ntmps15
  go_wp2_with (go_at_call 23; fail)
  refine (eachb_any w0 _ base sb pk po _ _ _ _ HD.out (by omega) 1 1 (by omega) (by decide)).mono ?_
  rintro e w' ⟨rfl, hd⟩
  replace HD := Lib.hid hd
  have c0 : w'.cell? ⟨sb, 0, none⟩ = some (.int .i64 4) := hd.cell0
  clear hd
  go_wp2_with (go_at_call 23; fail)
  refine (eachb_any w0 _ base sb pk po _ _ _ _ HD.out (by omega) 2 1 (by omega) (by decide)).mono ?_
  rintro e w' ⟨rfl, hd⟩
  replace HD := Lib.hid hd
  have c0 : w'.cell? ⟨sb, 0, none⟩ = some (.int .i64 4) := hd.cell0
  clear hd
  go_wp2_with (go_at_call 23; fail)
  refine (eachb_any w0 _ base sb pk po _ _ _ _ HD.out (by omega) 3 1 (by omega) (by decide)).mono ?_
  rintro e w' ⟨rfl, hd⟩
  replace HD := Lib.hid hd
  have c0 : w'.cell? ⟨sb, 0, none⟩ = some (.int .i64 4) := hd.cell0
  clear hd
  go_wp2_with (go_at_call 23; fail)
  refine (eachb_any w0 _ base sb pk po _ _ _ _ HD.out (by omega) 4 1 (by omega) (by decide)).mono ?_
  rintro e w' ⟨rfl, hd⟩
  replace HD := Lib.hid hd
  have c0 : w'.cell? ⟨sb, 0, none⟩ = some (.int .i64 4) := hd.cell0
  clear hd
  go_wp2
  go_end0
  obtain ⟨A, c, hs, hl⟩ := HD.out
  exact ⟨rfl, A, c, hs, Nat.le_trans hl (by omega)⟩

set_option maxHeartbeats 4000000 in
theorem bnumber_5 (w0 w : World) (base sb pk po b : Nat) (x : St) (out : List Int) (ok : Bool) (hk : x.k = 5) (h : BW w0 w base sb pk po b x out ok) (hb : b ≤ 1000) :
    Calls Try.prog 15 #[.pointer (some ⟨sb, 0, none⟩), .func (.func 23) #[] #[.pointer (some ⟨pk, 0, none⟩), .pointer (some ⟨po, 0, none⟩)]] w fun e w' => e = .returned (.tuple #[]) ∧
      BW w0 w' base sb pk po (b + 8) (runB (fieldsOf 5) (x, out, ok)).1 (runB (fieldsOf 5) (x, out, ok)).2.1 (runB (fieldsOf 5) (x, out, ok)).2.2 := by
  obtain ⟨xk, xn, xt, xp, xs, xo, xc, xm, xv⟩ := x
  simp only at hk
  subst hk
  have HD := Lib.hid h
  have c0 : w.cell? ⟨sb, 0, none⟩ = some (.int .i64 5) := h.cell0
  clear h
  go_enter Try.func15, Try.ntmps15
  go_wp2_with (go_at_call 23; fail)
  refine (eachb_any w0 _ base sb pk po _ _ _ _ HD.out (by omega) 1 1 (by omega) (by decide)).mono ?_
  rintro e w' ⟨rfl, hd⟩
  replace HD := Lib.hid hd
  have c0 : w'.cell? ⟨sb, 0, none⟩ = some (.int .i64 5) := hd.cell0
  clear hd
  go_wp2_with (go_at_call 23; fail)
  refine (eachb_any w0 _ base sb pk po _ _ _ _ HD.out (by omega) 2 1 (by omega) (by decide)).mono ?_
  rintro e w' ⟨rfl, hd⟩
  replace HD := Lib.hid hd
  have c0 : w'.cell? ⟨sb, 0, none⟩ = some (.int .i64 5) := hd.cell0
  clear hd
  go_wp2_with (go_at_call 23; fail)
  refine (eachb_any w0 _ base sb pk po _ _ _ _ HD.out (by omega) 3 1 (by omega) (by decide)).mono ?_
  rintro e w' ⟨rfl, hd⟩
  replace HD := Lib.hid hd
  have c0 : w'.cell? ⟨sb, 0, none⟩ = some (.int .i64 5) := hd.cell0
  clear hd
  go_wp2
  go_end0
  obtain ⟨A, c, hs, hl⟩ := HD.out
  exact ⟨rfl, A, c, hs, Nat.le_trans hl (by omega)⟩

set_option maxHeartbeats 4000000 in
theorem bnumber_6 (w0 w : World) (base sb pk po b : Nat) (x : St) (out : List Int) (ok : Bool) (hk : x.k = 6) (h : BW w0 w base sb pk po b x out ok) (hb : b ≤ 1000) :
    Calls Try.prog 15 #[.pointer (some ⟨sb, 0, none⟩), .func (.func 23) #[] #[.pointer (some ⟨pk, 0, none⟩), .pointer (some ⟨po, 0, none⟩)]] w fun e w' => e = .returned (.tuple #[]) ∧
      BW w0 w' base sb pk po (b + 8) (runB (fieldsOf 6) (x, out, ok)).1 (runB (fieldsOf 6) (x, out, ok)).2.1 (runB (fieldsOf 6) (x, out, ok)).2.2 := by
  obtain ⟨xk, xn, xt, xp, xs, xo, xc, xm, xv⟩ := x
  simp only at hk
  subst hk
  have HD := Lib.hid h
  have c0 : w.cell? ⟨sb, 0, none⟩ = some (.int .i64 6) := h.cell0
  clear h
  go_enter Try.func15, Try.ntmps15
  go_wp2_with (go_at_call 23; fail)
  refine (eachb_any w0 _ base sb pk po _ _ _ _ HD.out (by omega) 1 1 (by omega) (by decide)).mono ?_
  rintro e w' ⟨rfl, hd⟩
  replace HD := Lib.hid hd
  have c0 : w'.cell? ⟨sb, 0, none⟩ = some (.int .i64 6) := hd.cell0
  clear hd
  go_wp2_with (go_at_call 23; fail)
  refine (eachb_any w0 _ base sb pk po _ _ _ _ HD.out (by omega) 2 1 (by omega) (by decide)).mono ?_
  rintro e w' ⟨rfl, hd⟩
  replace HD := Lib.hid hd
  have c0 : w'.cell? ⟨sb, 0, none⟩ = some (.int .i64 6) := hd.cell0
  clear hd
  go_wp2
  go_end0
  obtain ⟨A, c, hs, hl⟩ := HD.out
  exact ⟨rfl, A, c, hs, Nat.le_trans hl (by omega)⟩

set_option maxHeartbeats 4000000 in
theorem bnumber_7 (w0 w : World) (base sb pk po b : Nat) (x : St) (out : List Int) (ok : Bool) (hk : x.k = 7) (h : BW w0 w base sb pk po b x out ok) (hb : b ≤ 1000) :
    Calls Try.prog 15 #[.pointer (some ⟨sb, 0, none⟩), .func (.func 23) #[] #[.pointer (some ⟨pk, 0, none⟩), .pointer (some ⟨po, 0, none⟩)]] w fun e w' => e = .returned (.tuple #[]) ∧
      BW w0 w' base sb pk po (b + 8) (runB (fieldsOf 7) (x, out, ok)).1 (runB (fieldsOf 7) (x, out, ok)).2.1 (runB (fieldsOf 7) (x, out, ok)).2.2 := by
  obtain ⟨xk, xn, xt, xp, xs, xo, xc, xm, xv⟩ := x
  simp only at hk
  subst hk
  have HD := Lib.hid h
  have c0 : w.cell? ⟨sb, 0, none⟩ = some (.int .i64 7) := h.cell0
  clear h
  go_enter Try.func15, Try.ntmps15
  go_wp2_with (go_at_call 23; fail)
  refine (eachb_any w0 _ base sb pk po _ _ _ _ HD.out (by omega) 1 1 (by omega) (by decide)).mono ?_
  rintro e w' ⟨rfl, hd⟩
  replace HD := Lib.hid hd
  have c0 : w'.cell? ⟨sb, 0, none⟩ = some (.int .i64 7) := hd.cell0
  clear hd
  go_wp2_with (go_at_call 23; fail)
  refine (eachb_any w0 _ base sb pk po _ _ _ _ HD.out (by omega) 2 1 (by omega) (by decide)).mono ?_
  rintro e w' ⟨rfl, hd⟩
  replace HD := Lib.hid hd
  have c0 : w'.cell? ⟨sb, 0, none⟩ = some (.int .i64 7) := hd.cell0
  clear hd
  go_wp2_with (go_at_call 23; fail)
  refine (eachb_any w0 _ base sb pk po _ _ _ _ HD.out (by omega) 6 1 (by omega) (by decide)).mono ?_
  rintro e w' ⟨rfl, hd⟩
  replace HD := Lib.hid hd
  have c0 : w'.cell? ⟨sb, 0, none⟩ = some (.int .i64 7) := hd.cell0
  clear hd
  go_wp2
  go_end0
  obtain ⟨A, c, hs, hl⟩ := HD.out
  exact ⟨rfl, A, c, hs, Nat.le_trans hl (by omega)⟩

set_option maxHeartbeats 4000000 in
theorem bnumber_8 (w0 w : World) (base sb pk po b : Nat) (x : St) (out : List Int) (ok : Bool) (hk : x.k = 8) (h : BW w0 w base sb pk po b x out ok) (hb : b ≤ 1000) :
    Calls Try.prog 15 #[.pointer (some ⟨sb, 0, none⟩), .func (.func 23) #[] #[.pointer (some ⟨pk, 0, none⟩), .pointer (some ⟨po, 0, none⟩)]] w fun e w' => e = .returned (.tuple #[]) ∧
      BW w0 w' base sb pk po (b + 8) (runB (fieldsOf 8) (x, out, ok)).1 (runB (fieldsOf 8) (x, out, ok)).2.1 (runB (fieldsOf 8) (x, out, ok)).2.2 := by
  obtain ⟨xk, xn, xt, xp, xs, xo, xc, xm, xv⟩ := x
  simp only at hk
  subst hk
  have HD := Lib.hid h
  have c0 : w.cell? ⟨sb, 0, none⟩ = some (.int .i64 8) := h.cell0
  clear h
  go_enter Try.func15, Try.ntmps15
  go_wp2_with (go_at_call 23; fail)
  refine (eachb_any w0 _ base sb pk po _ _ _ _ HD.out (by omega) 1 1 (by omega) (by decide)).mono ?_
  rintro e w' ⟨rfl, hd⟩
  replace HD := Lib.hid hd
  have c0 : w'.cell? ⟨sb, 0, none⟩ = some (.int .i64 8) := hd.cell0
  clear hd
  go_wp2_with (go_at_call 23; fail)
  refine (eachb_any w0 _ base sb pk po _ _ _ _ HD.out (by omega) 2 1 (by omega) (by decide)).mono ?_
  rintro e w' ⟨rfl, hd⟩
  replace HD := Lib.hid hd
  have c0 : w'.cell? ⟨sb, 0, none⟩ = some (.int .i64 8) := hd.cell0
  clear hd
  go_wp2
  go_end0
  obtain ⟨A, c, hs, hl⟩ := HD.out
  exact ⟨rfl, A, c, hs, Nat.le_trans hl (by omega)⟩

set_option maxHeartbeats 4000000 in
theorem bnumber_9 (w0 w : World) (base sb pk po b : Nat) (x : St) (out : List Int) (ok : Bool) (hk : x.k = 9) (h : BW w0 w base sb pk po b x out ok) (hb : b ≤ 1000) :
    Calls Try.prog 15 #[.pointer (some ⟨sb, 0, none⟩), .func (.func 23) #[] #[.pointer (some ⟨pk, 0, none⟩), .pointer (some ⟨po, 0, none⟩)]] w fun e w' => e = .returned (.tuple #[]) ∧
      BW w0 w' base sb pk po (b + 8) (runB (fieldsOf 9) (x, out, ok)).1 (runB (fieldsOf 9) (x, out, ok)).2.1 (runB (fieldsOf 9) (x, out, ok)).2.2 := by
  obtain ⟨xk, xn, xt, xp, xs, xo, xc, xm, xv⟩ := x
  simp only at hk
  subst hk
  have HD := Lib.hid h
  have c0 : w.cell? ⟨sb, 0, none⟩ = some (.int .i64 9) := h.cell0
  clear h
  go_enter Try.func15, Try.ntmps15
  go_wp2_with (go_at_call 23; fail)
  refine (eachb_any w0 _ base sb pk po _ _ _ _ HD.out (by omega) 1 1 (by omega) (by decide)).mono ?_
  rintro e w' ⟨rfl, hd⟩
  replace HD := Lib.hid hd
  have c0 : w'.cell? ⟨sb, 0, none⟩ = some (.int .i64 9) := hd.cell0
  clear hd
  go_wp2_with (go_at_call 23; fail)
  refine (eachb_any w0 _ base sb pk po _ _ _ _ HD.out (by omega) 2 1 (by omega) (by decide)).mono ?_
  rintro e w' ⟨rfl, hd⟩
  replace HD := Lib.hid hd
  have c0 : w'.cell? ⟨sb, 0, none⟩ = some (.int .i64 9) := hd.cell0
  clear hd
  go_wp2
  go_end0
  obtain ⟨A, c, hs, hl⟩ := HD.out
  exact ⟨rfl, A, c, hs, Nat.le_trans hl (by omega)⟩

set_option maxHeartbeats 4000000 in
theorem bnumber_10 (w0 w : World) (base sb pk po b : Nat) (x : St) (out : List Int) (ok : Bool) (hk : x.k = 10) (h : BW w0 w base sb pk po b x out ok) (hb : b ≤ 1000) :
    Calls Try.prog 15 #[.pointer (some ⟨sb, 0, none⟩), .func (.func 23) #[] #[.pointer (some ⟨pk, 0, none⟩), .pointer (some ⟨po, 0, none⟩)]] w fun e w' => e = .returned (.tuple #[]) ∧
      BW w0 w' base sb pk po (b + 8) (runB (fieldsOf 10) (x, out, ok)).1 (runB (fieldsOf 10) (x, out, ok)).2.1 (runB (fieldsOf 10) (x, out, ok)).2.2 := by
  obtain ⟨xk, xn, xt, xp, xs, xo, xc, xm, xv⟩ := x
  simp only at hk
  subst hk
  have HD := Lib.hid h
  have c0 : w.cell? ⟨sb, 0, none⟩ = some (.int .i64 10) := h.cell0
  clear h
  go_enter Try.func15, Try.ntmps15
  go_wp2_with (go_at_call 23; fail)
  refine (eachb_any w0 _ base sb pk po _ _ _ _ HD.out (by omega) 1 1 (by omega) (by decide)).mono ?_
  rintro e w' ⟨rfl, hd⟩
  replace HD := Lib.hid hd
  have c0 : w'.cell? ⟨sb, 0, none⟩ = some (.int .i64 10) := hd.cell0
  clear hd
  go_wp2_with (go_at_call 23; fail)
  refine (eachb_any w0 _ base sb pk po _ _ _ _ HD.out (by omega) 3 1 (by omega) (by decide)).mono ?_
  rintro e w' ⟨rfl, hd⟩
  replace HD := Lib.hid hd
  have c0 : w'.cell? ⟨sb, 0, none⟩ = some (.int .i64 10) := hd.cell0
  clear hd
  go_wp2
  go_end0
  obtain ⟨A, c, hs, hl⟩ := HD.out
  exact ⟨rfl, A, c, hs, Nat.le_trans hl (by omega)⟩

set_option maxHeartbeats 4000000 in
theorem bnumber_11 (w0 w : World) (base sb pk po b : Nat) (x : St) (out : List Int) (ok : Bool) (hk : x.k = 11) (h : BW w0 w base sb pk po b x out ok) (hb : b ≤ 1000) :
    Calls Try.prog 15 #[.pointer (some ⟨sb, 0, none⟩), .func (.func 23) #[] #[.pointer (some ⟨pk, 0, none⟩), .pointer (some ⟨po, 0, none⟩)]] w fun e w' => e = .returned (.tuple #[]) ∧
      BW w0 w' base sb pk po (b + 8) (runB (fieldsOf 11) (x, out, ok)).1 (runB (fieldsOf 11) (x, out, ok)).2.1 (runB (fieldsOf 11) (x, out, ok)).2.2 := by
  obtain ⟨xk, xn, xt, xp, xs, xo, xc, xm, xv⟩ := x
  simp only at hk
  subst hk
  have HD := Lib.hid h
  have c0 : w.cell? ⟨sb, 0, none⟩ = some (.int .i64 11) := h.cell0
  clear h
  go_enter Try.func15, Try.ntmps15
  go_wp2_with (go_at_call 23; fail)
  refine (eachb_any w0 _ base sb pk po _ _ _ _ HD.out (by omega) 1 1 (by omega) (by decide)).mono ?_
  rintro e w' ⟨rfl, hd⟩
  replace HD := Lib.hid hd
  have c0 : w'.cell? ⟨sb, 0, none⟩ = some (.int .i64 11) := hd.cell0
  clear hd
  go_wp2
  go_end0
  obtain ⟨A, c, hs, hl⟩ := HD.out
  exact ⟨rfl, A, c, hs, Nat.le_trans hl (by omega)⟩

set_option maxHeartbeats 4000000 in
theorem bnumber_12 (w0 w : World) (base sb pk po b : Nat) (x : St) (out : List Int) (ok : Bool) (hk : x.k = 12) (h : BW w0 w base sb pk po b x out ok) (hb : b ≤ 1000) :
    Calls Try.prog 15 #[.pointer (some ⟨sb, 0, none⟩), .func (.func 23) #[] #[.pointer (some ⟨pk, 0, none⟩), .pointer (some ⟨po, 0, none⟩)]] w fun e w' => e = .returned (.tuple #[]) ∧
      BW w0 w' base sb pk po (b + 8) (runB (fieldsOf 12) (x, out, ok)).1 (runB (fieldsOf 12) (x, out, ok)).2.1 (runB (fieldsOf 12) (x, out, ok)).2.2 := by
  obtain ⟨xk, xn, xt, xp, xs, xo, xc, xm, xv⟩ := x
  simp only at hk
  subst hk
  have HD := Lib.hid h
  have c0 : w.cell? ⟨sb, 0, none⟩ = some (.int .i64 12) := h.cell0
  clear h
  go_enter Try.func15, Try.ntmps15
  go_wp2_with (go_at_call 23; fail)
  refine (eachb_any w0 _ base sb pk po _ _ _ _ HD.out (by omega) 1 1 (by omega) (by decide)).mono ?_
  rintro e w' ⟨rfl, hd⟩
  replace HD := Lib.hid hd
  have c0 : w'.cell? ⟨sb, 0, none⟩ = some (.int .i64 12) := hd.cell0
  clear hd
  go_wp2
  go_end0
  obtain ⟨A, c, hs, hl⟩ := HD.out
  exact ⟨rfl, A, c, hs, Nat.le_trans hl (by omega)⟩

set_option maxHeartbeats 4000000 in
theorem bnumber_13 (w0 w : World) (base sb pk po b : Nat) (x : St) (out : List Int) (ok : Bool) (hk : x.k = 13) (h : BW w0 w base sb pk po b x out ok) (hb : b ≤ 1000) :
    Calls Try.prog 15 #[.pointer (some ⟨sb, 0, none⟩), .func (.func 23) #[] #[.pointer (some ⟨pk, 0, none⟩), .pointer (some ⟨po, 0, none⟩)]] w fun e w' => e = .returned (.tuple #[]) ∧
      BW w0 w' base sb pk po (b + 8) (runB (fieldsOf 13) (x, out, ok)).1 (runB (fieldsOf 13) (x, out, ok)).2.1 (runB (fieldsOf 13) (x, out, ok)).2.2 := by
  obtain ⟨xk, xn, xt, xp, xs, xo, xc, xm, xv⟩ := x
  simp only at hk
  subst hk
  have HD := Lib.hid h
  have c0 : w.cell? ⟨sb, 0, none⟩ = some (.int .i64 13) := h.cell0
  clear h
  go_enter Try.func15, Try.ntmps15
  go_wp2_with (go_at_call 23; fail)
  refine (eachb_any w0 _ base sb pk po _ _ _ _ HD.out (by omega) 1 1 (by omega) (by decide)).mono ?_
  rintro e w' ⟨rfl, hd⟩
  replace HD := Lib.hid hd
  have c0 : w'.cell? ⟨sb, 0, none⟩ = some (.int .i64 13) := hd.cell0
  clear hd
  go_wp2
  go_end0
  obtain ⟨A, c, hs, hl⟩ := HD.out
  exact ⟨rfl, A, c, hs, Nat.le_trans hl (by omega)⟩

set_option maxHeartbeats 4000000 in
theorem bnumber_14 (w0 w : World) (base sb pk po b : Nat) (x : St) (out : List Int) (ok : Bool) (hk : x.k = 14) (h : BW w0 w base sb pk po b x out ok) (hb : b ≤ 1000) :
    Calls Try.prog 15 #[.pointer (some ⟨sb, 0, none⟩), .func (.func 23) #[] #[.pointer (some ⟨pk, 0, none⟩), .pointer (some ⟨po, 0, none⟩)]] w fun e w' => e = .returned (.tuple #[]) ∧
      BW w0 w' base sb pk po (b + 8) (runB (fieldsOf 14) (x, out, ok)).1 (runB (fieldsOf 14) (x, out, ok)).2.1 (runB (fieldsOf 14) (x, out, ok)).2.2 := by
  obtain ⟨xk, xn, xt, xp, xs, xo, xc, xm, xv⟩ := x
  simp only at hk
  subst hk
  have HD := Lib.hid h
  have c0 : w.cell? ⟨sb, 0, none⟩ = some (.int .i64 14) := h.cell0
  clear h
  go_enter Try.func15, Try.ntmps15
  go_wp2_with (go_at_call 23; fail)
  refine (eachb_any w0 _ base sb pk po _ _ _ _ HD.out (by omega) 6 1 (by omega) (by decide)).mono ?_
  rintro e w' ⟨rfl, hd⟩
  replace HD := Lib.hid hd
  have c0 : w'.cell? ⟨sb, 0, none⟩ = some (.int .i64 14) := hd.cell0
  clear hd
  go_wp2
  go_end0
  obtain ⟨A, c, hs, hl⟩ := HD.out
  exact ⟨rfl, A, c, hs, Nat.le_trans hl (by omega)⟩

set_option maxHeartbeats 4000000 in
theorem bnumber_15 (w0 w : World) (base sb pk po b : Nat) (x : St) (out : List Int) (ok : Bool) (hk : x.k = 15) (h : BW w0 w base sb pk po b x out ok) (hb : b ≤ 1000) :
    Calls Try.prog 15 #[.pointer (some ⟨sb, 0, none⟩), .func (.func 23) #[] #[.pointer (some ⟨pk, 0, none⟩), .pointer (some ⟨po, 0, none⟩)]] w fun e w' => e = .returned (.tuple #[]) ∧
      BW w0 w' base sb pk po (b + 8) (runB (fieldsOf 15) (x, out, ok)).1 (runB (fieldsOf 15) (x, out, ok)).2.1 (runB (fieldsOf 15) (x, out, ok)).2.2 := by
  obtain ⟨xk, xn, xt, xp, xs, xo, xc, xm, xv⟩ := x
  simp only at hk
  subst hk
  have HD := Lib.hid h
  have c0 : w.cell? ⟨sb, 0, none⟩ = some (.int .i64 15) := h.cell0
  clear h
  go_enter Try.func15, Try.ntmps15
  go_wp2_with (go_at_call 23; fail)
  refine (eachb_any w0 _ base sb pk po _ _ _ _ HD.out (by omega) 1 1 (by omega) (by decide)).mono ?_
  rintro e w' ⟨rfl, hd⟩
  replace HD := Lib.hid hd
  have c0 : w'.cell? ⟨sb, 0, none⟩ = some (.int .i64 15) := hd.cell0
  clear hd
  go_wp2_with (go_at_call 23; fail)
  refine (eachb_any w0 _ base sb pk po _ _ _ _ HD.out (by omega) 6 2 (by omega) (by decide)).mono ?_
  rintro e w' ⟨rfl, hd⟩
  replace HD := Lib.hid hd
  have c0 : w'.cell? ⟨sb, 0, none⟩ = some (.int .i64 15) := hd.cell0
  clear hd
  go_wp2
  go_end0
  obtain ⟨A, c, hs, hl⟩ := HD.out
  exact ⟨rfl, A, c, hs, Nat.le_trans hl (by omega)⟩

set_option maxHeartbeats 4000000 in
theorem bnumber_16 (w0 w : World) (base sb pk po b : Nat) (x : St) (out : List Int) (ok : Bool) (hk : x.k = 16) (h : BW w0 w base sb pk po b x out ok) (hb : b ≤ 1000) :
    Calls Try.prog 15 #[.pointer (some ⟨sb, 0, none⟩), .func (.func 23) #[] #[.pointer (some ⟨pk, 0, none⟩), .pointer (some ⟨po, 0, none⟩)]] w fun e w' => e = .returned (.tuple #[]) ∧
      BW w0 w' base sb pk po (b + 8) (runB (fieldsOf 16) (x, out, ok)).1 (runB (fieldsOf 16) (x, out, ok)).2.1 (runB (fieldsOf 16) (x, out, ok)).2.2 := by
  obtain ⟨xk, xn, xt, xp, xs, xo, xc, xm, xv⟩ := x
  simp only at hk
  subst hk
  have HD := Lib.hid h
  have c0 : w.cell? ⟨sb, 0, none⟩ = some (.int .i64 16) := h.cell0
  clear h
  go_enter Try.func15, Try.ntmps15
  go_wp2_with (go_at_call 23; fail)
  refine (eachb_any w0 _ base sb pk po _ _ _ _ HD.out (by omega) 1 1 (by omega) (by decide)).mono ?_
  rintro e w' ⟨rfl, hd⟩
  replace HD := Lib.hid hd
  have c0 : w'.cell? ⟨sb, 0, none⟩ = some (.int .i64 16) := hd.cell0
  clear hd
  go_wp2_with (go_at_call 23; fail)
  refine (eachb_any w0 _ base sb pk po _ _ _ _ HD.out (by omega) 6 1 (by omega) (by decide)).mono ?_
  rintro e w' ⟨rfl, hd⟩
  replace HD := Lib.hid hd
  have c0 : w'.cell? ⟨sb, 0, none⟩ = some (.int .i64 16) := hd.cell0
  clear hd
  go_wp2_with (go_at_call 23; fail)
  refine (eachb_any w0 _ base sb pk po _ _ _ _ HD.out (by omega) 5 2 (by omega) (by decide)).mono ?_
  rintro e w' ⟨rfl, hd⟩
  replace HD := Lib.hid hd
  have c0 : w'.cell? ⟨sb, 0, none⟩ = some (.int .i64 16) := hd.cell0
  clear hd
  go_wp2_with (go_at_call 23; fail)
  refine (eachb_any w0 _ base sb pk po _ _ _ _ HD.out (by omega) 7 1 (by omega) (by decide)).mono ?_
  rintro e w' ⟨rfl, hd⟩
  replace HD := Lib.hid hd
  have c0 : w'.cell? ⟨sb, 0, none⟩ = some (.int .i64 16) := hd.cell0
  clear hd
  go_wp2
  go_end0
  obtain ⟨A, c, hs, hl⟩ := HD.out
  exact ⟨rfl, A, c, hs, Nat.le_trans hl (by omega)⟩

set_option maxHeartbeats 4000000 in
theorem bnumber_17 (w0 w : World) (base sb pk po b : Nat) (x : St) (out : List Int) (ok : Bool) (hk : x.k = 17) (h : BW w0 w base sb pk po b x out ok) (hb : b ≤ 1000) :
    Calls Try.prog 15 #[.pointer (some ⟨sb, 0, none⟩), .func (.func 23) #[] #[.pointer (some ⟨pk, 0, none⟩), .pointer (some ⟨po, 0, none⟩)]] w fun e w' => e = .returned (.tuple #[]) ∧
      BW w0 w' base sb pk po (b + 8) (runB (fieldsOf 17) (x, out, ok)).1 (runB (fieldsOf 17) (x, out, ok)).2.1 (runB (fieldsOf 17) (x, out, ok)).2.2 := by
  obtain ⟨xk, xn, xt, xp, xs, xo, xc, xm, xv⟩ := x
  simp only at hk
  subst hk
  have HD := Lib.hid h
  have c0 : w.cell? ⟨sb, 0, none⟩ = some (.int .i64 17) := h.cell0
  clear h
  go_enter Try.func15, Try.ntmps15
  go_wp2_with (go_at_call 23; fail)
  refine (eachb_any w0 _ base sb pk po _ _ _ _ HD.out (by omega) 1 1 (by omega) (by decide)).mono ?_
  rintro e w' ⟨rfl, hd⟩
  replace HD := Lib.hid hd
  have c0 : w'.cell? ⟨sb, 0, none⟩ = some (.int .i64 17) := hd.cell0
  clear hd
  go_wp2_with (go_at_call 23; fail)
  refine (eachb_any w0 _ base sb pk po _ _ _ _ HD.out (by omega) 5 1 (by omega) (by decide)).mono ?_
  rintro e w' ⟨rfl, hd⟩
  replace HD := Lib.hid hd
  have c0 : w'.cell? ⟨sb, 0, none⟩ = some (.int .i64 17) := hd.cell0
  clear hd
  go_wp2_with (go_at_call 23; fail)
  refine (eachb_any w0 _ base sb pk po _ _ _ _ HD.out (by omega) 6 1 (by omega) (by decide)).mono ?_
  rintro e w' ⟨rfl, hd⟩
  replace HD := Lib.hid hd
  have c0 : w'.cell? ⟨sb, 0, none⟩ = some (.int .i64 17) := hd.cell0
  clear hd
  go_wp2
  go_end0
  obtain ⟨A, c, hs, hl⟩ := HD.out
  exact ⟨rfl, A, c, hs, Nat.le_trans hl (by omega)⟩

set_option maxHeartbeats 4000000 in
theorem bnumber_18 (w0 w : World) (base sb pk po b : Nat) (x : St) (out : List Int) (ok : Bool) (hk : x.k = 18) (h : BW w0 w base sb pk po b x out ok) (hb : b ≤ 1000) :
    Calls Try.prog 15 #[.pointer (some ⟨sb, 0, none⟩), .func (.func 23) #[] #[.pointer (some ⟨pk, 0, none⟩), .pointer (some ⟨po, 0, none⟩)]] w fun e w' => e = .returned (.tuple #[]) ∧
      BW w0 w' base sb pk po (b + 8) (runB (fieldsOf 18) (x, out, ok)).1 (runB (fieldsOf 18) (x, out, ok)).2.1 (runB (fieldsOf 18) (x, out, ok)).2.2 := by
  obtain ⟨xk, xn, xt, xp, xs, xo, xc, xm, xv⟩ := x
  simp only at hk
  subst hk
  have HD := Lib.hid h
  have c0 : w.cell? ⟨sb, 0, none⟩ = some (.int .i64 18) := h.cell0
  clear h
  go_enter Try.func15, Try.ntmps15
  go_wp2_with (go_at_call 23; fail)
  refine (eachb_any w0 _ base sb pk po _ _ _ _ HD.out (by omega) 1 1 (by omega) (by decide)).mono ?_
  rintro e w' ⟨rfl, hd⟩
  replace HD := Lib.hid hd
  have c0 : w'.cell? ⟨sb, 0, none⟩ = some (.int .i64 18) := hd.cell0
  clear hd
  go_wp2
  go_end0
  obtain ⟨A, c, hs, hl⟩ := HD.out
  exact ⟨rfl, A, c, hs, Nat.le_trans hl (by omega)⟩

set_option maxHeartbeats 4000000 in
theorem bnumber_19 (w0 w : World) (base sb pk po b : Nat) (x : St) (out : List Int) (ok : Bool) (hk : x.k = 19) (h : BW w0 w base sb pk po b x out ok) (hb : b ≤ 1000) :
    Calls Try.prog 15 #[.pointer (some ⟨sb, 0, none⟩), .func (.func 23) #[] #[.pointer (some ⟨pk, 0, none⟩), .pointer (some ⟨po, 0, none⟩)]] w fun e w' => e = .returned (.tuple #[]) ∧
      BW w0 w' base sb pk po (b + 8) (runB (fieldsOf 19) (x, out, ok)).1 (runB (fieldsOf 19) (x, out, ok)).2.1 (runB (fieldsOf 19) (x, out, ok)).2.2 := by
  obtain ⟨xk, xn, xt, xp, xs, xo, xc, xm, xv⟩ := x
  simp only at hk
  subst hk
  have HD := Lib.hid h
  have c0 : w.cell? ⟨sb, 0, none⟩ = some (.int .i64 19) := h.cell0
  clear h
  go_enter Try.func15, Try.ntmps15
  go_wp2_with (go_at_call 23; fail)
  refine (eachb_any w0 _ base sb pk po _ _ _ _ HD.out (by omega) 6 1 (by omega) (by decide)).mono ?_
  rintro e w' ⟨rfl, hd⟩
  replace HD := Lib.hid hd
  have c0 : w'.cell? ⟨sb, 0, none⟩ = some (.int .i64 19) := hd.cell0
  clear hd
  go_wp2_with (go_at_call 23; fail)
  refine (eachb_any w0 _ base sb pk po _ _ _ _ HD.out (by omega) 5 2 (by omega) (by decide)).mono ?_
  rintro e w' ⟨rfl, hd⟩
  replace HD := Lib.hid hd
  have c0 : w'.cell? ⟨sb, 0, none⟩ = some (.int .i64 19) := hd.cell0
  clear hd
  go_wp2_with (go_at_call 23; fail)
  refine (eachb_any w0 _ base sb pk po _ _ _ _ HD.out (by omega) 7 1 (by omega) (by decide)).mono ?_
  rintro e w' ⟨rfl, hd⟩
  replace HD := Lib.hid hd
  have c0 : w'.cell? ⟨sb, 0, none⟩ = some (.int .i64 19) := hd.cell0
  clear hd
  go_wp2
  go_end0
  obtain ⟨A, c, hs, hl⟩ := HD.out
  exact ⟨rfl, A, c, hs, Nat.le_trans hl (by omega)⟩

end Go.Proofs.Ythedllndcibkcaa
