/- reader.num: a number of one or two bytes. -/
import Derived.Test.YthedllndcibkcaaMem
import Derived.Laws.BitsLemmas
namespace Go.Proofs.Ythedllndcibkcaa
open Go.RowKit
set_option linter.unusedVariables false
set_option linter.unusedSimpArgs false

/-- A reader: its block, the bytes that are left, over. -/
structure RD (w : World) (base rb : Nat) (r : List Int) (o : Bool) : Prop where
  new : base ≤ rb
  out : ∃ A cap, Blk w rb 50 [.slice A r.length cap, .bool o] ∧ r.length ≤ cap ∧ (r = [] ∨ ∃ b off, A = some ⟨b, off, none⟩ ∧ b < base ∧ ∀ (j : Nat) (x : Int), r[j]? = some x → w.cell? ⟨b, off + j, none⟩ = some (.int .u8 x))
  byte : ∀ x ∈ r, 0 ≤ x ∧ x < 256
  few : r.length ≤ 1000000

theorem wraps_i64 (n : Int) (h0 : 0 ≤ n) (h1 : n < 2 ^ 63) : IntKind.i64.wrap n = n := IntWalk.i64_in _ (by omega)
theorem or_i64 (x y : Int) (h0 : 0 ≤ x) (hx : x % 256 = 0) (h1 : x < 2 ^ 63) (h2 : 0 ≤ y) (h3 : y < 256) : bits .or .i64 x y = x + y := bits_join .i64 63 (by decide) wraps_i64 8 x y h0 hx h1 h2 h3 (by omega)

set_option maxHeartbeats 2000000 in
theorem num_short (w : World) (rb : Nat) (A : Option Addr) (n cap : Nat) (o : Bool) (hd : Blk w rb 50 [.slice A n cap, .bool o]) (k : Int) (hk : (n : Int) < k) :
    Calls Try.prog 13 #[.pointer (some ⟨rb, 0, none⟩), .int .i64 k] w fun e w' => e = .returned (.int .i64 0) ∧ w' = w.setCell ⟨rb, 1, none⟩ (.bool true) := by
  have c0 := hd.cell (k := 0) rfl
  have c1 := hd.cell (k := 1) rfl
  have f1 := hd.free 1
  clear hd
  go_enter Try.func13, Try.ntmps13
  go_wp2
  go_ret
  exact ⟨rfl, rfl⟩

set_option maxHeartbeats 2000000 in
theorem num_one (w : World) (rb b off cap : Nat) (x : Int) (n : Nat) (o : Bool) (hd : Blk w rb 50 [.slice (some ⟨b, off, none⟩) (n + 1) cap, .bool o]) (hx : w.cell? ⟨b, off, none⟩ = some (.int .u8 x)) (h0 : 0 ≤ x) (h1 : x < 256) (hc : n + 1 ≤ cap) (hl : n ≤ 1000000) :
    Calls Try.prog 13 #[.pointer (some ⟨rb, 0, none⟩), .int .i64 1] w fun e w' => e = .returned (.int .i64 x) ∧ ∃ A, (0 < n → A = some ⟨b, off + 1, none⟩) ∧ w' = w.setCell ⟨rb, 0, none⟩ (.slice A n (cap - 1)) := by
  have c0 := hd.cell (k := 0) rfl
  have f0 := hd.free 0
  have hor := or_i64 0 x (by omega) (by omega) (by omega) h0 h1
  rw [Int.zero_add] at hor
  clear hd
  go_enter Try.func13, Try.ntmps13
  go_wp2
  go_loop [5, 25] (fun n i => (n = .int .i64 0 ∧ i = .int .i64 0) ∨ (n = .int .i64 x ∧ i = .int .i64 1)) (fun _ i => 2 - (intOf i).toNat)
  case atStart => exact .inl ⟨rfl, rfl⟩
  case round =>
    rcases hrel with ⟨rfl, rfl⟩ | ⟨rfl, rfl⟩
    · go_wp2
      go_round
      case rel => exact .inr ⟨by first | rfl | (rw [hor]), by go_num⟩
      case measure => simp [intOf]; try omega
    · go_wp2
      all_goals
        go_ret
        first
          | exact ⟨rfl, _, fun h => by omega, rfl⟩
          | exact ⟨rfl, _, fun h => rfl, rfl⟩

set_option maxHeartbeats 2000000 in
theorem num_two (w : World) (rb b off cap : Nat) (x y : Int) (n : Nat) (o : Bool) (hd : Blk w rb 50 [.slice (some ⟨b, off, none⟩) (n + 2) cap, .bool o]) (hx : w.cell? ⟨b, off, none⟩ = some (.int .u8 x)) (hy : w.cell? ⟨b, off + 1, none⟩ = some (.int .u8 y)) (h0 : 0 ≤ x) (h1 : x < 256) (h2 : 0 ≤ y) (h3 : y < 256) (hc : n + 2 ≤ cap) (hl : n ≤ 1000000) :
    Calls Try.prog 13 #[.pointer (some ⟨rb, 0, none⟩), .int .i64 2] w fun e w' => e = .returned (.int .i64 (x * 256 + y)) ∧ ∃ A, (0 < n → A = some ⟨b, off + 2, none⟩) ∧ w' = w.setCell ⟨rb, 0, none⟩ (.slice A n (cap - 2)) := by
  have c0 := hd.cell (k := 0) rfl
  have f0 := hd.free 0
  have hor := or_i64 0 x (by omega) (by omega) (by omega) h0 h1
  rw [Int.zero_add] at hor
  have hor2 := or_i64 (x * 256) y (by omega) (by omega) (by omega) h2 h3
  clear hd
  go_enter Try.func13, Try.ntmps13
  go_wp2
  go_loop [5, 25] (fun n i => (n = .int .i64 0 ∧ i = .int .i64 0) ∨ (n = .int .i64 x ∧ i = .int .i64 1) ∨ (n = .int .i64 (x * 256 + y) ∧ i = .int .i64 2)) (fun _ i => 3 - (intOf i).toNat)
  case atStart => exact .inl ⟨rfl, rfl⟩
  case round =>
    rcases hrel with ⟨rfl, rfl⟩ | ⟨rfl, rfl⟩ | ⟨rfl, rfl⟩
    · go_wp2
      go_round
      case rel => exact .inr (.inl ⟨by first | rfl | (rw [hor]), by go_num⟩)
      case measure => simp [intOf]; try omega
    · go_wp2
      go_round
      case rel => exact .inr (.inr ⟨by first | rfl | (rw [hor2]) | (trace_state; rfl), by go_num⟩)
      case measure => simp [intOf]; try omega
    · go_wp2
      all_goals
        go_ret
        first
          | exact ⟨rfl, _, fun h => by omega, rfl⟩
          | exact ⟨rfl, _, fun h => rfl, rfl⟩

def numV (k : Nat) (r : List Int) : Int := if r.length < k then 0 else if k = 1 then r.getD 0 0 else r.getD 0 0 * 256 + r.getD 1 0
def numL (k : Nat) (r : List Int) : List Int := if r.length < k then r else r.drop k
def numO (k : Nat) (r : List Int) (o : Bool) : Bool := if r.length < k then true else o

theorem RD.ext {w w' : World} {base rb : Nat} {r : List Int} {o : Bool} {S : List Nat} (h : RD w base rb r o) (he : Ext S w w') (h1 : rb ∉ S) (h2 : ∀ k ∈ S, base ≤ k) : RD w' base rb r o := by
  obtain ⟨A, cap, hb, hc, hr⟩ := h.out
  refine ⟨h.new, ⟨A, cap, hb.ext he h1, hc, ?_⟩, h.byte, h.few⟩
  rcases hr with hr | ⟨b, off, hA, hbb, hx⟩
  · exact .inl hr
  · have hlt : b < w.heap.size := by have := hb.lt; have := h.new; omega
    exact .inr ⟨b, off, hA, hbb, fun j x hj => (he.cell hlt (fun hm => by have := h2 b hm; omega)).trans (hx j x hj)⟩

theorem num_any (w : World) (base rb : Nat) (r : List Int) (o : Bool) (h : RD w base rb r o) (k : Nat) (hk : k = 1 ∨ k = 2) :
    Calls Try.prog 13 #[.pointer (some ⟨rb, 0, none⟩), .int .i64 k] w fun e w' => e = .returned (.int .i64 (numV k r)) ∧ RD w' base rb (numL k r) (numO k r o) ∧ Ext [rb] w w' := by
  obtain ⟨A, cap, hb, hc, hr⟩ := h.out
  have hrl := hb.lt
  have hn := h.new
  by_cases hs : r.length < k
  · have e1 : numV k r = 0 := by unfold numV; rw [if_pos hs]
    have e2 : numL k r = r := by unfold numL; rw [if_pos hs]
    have e3 : numO k r o = true := by unfold numO; rw [if_pos hs]
    rw [e1, e2, e3]
    refine (num_short w rb A r.length cap o hb k (by omega)).mono ?_
    rintro e w' ⟨rfl, rfl⟩
    refine ⟨rfl, ⟨hn, ⟨A, cap, hb.set 1 _, hc, ?_⟩, h.byte, h.few⟩, (Ext.refl _ _).setCell (.inl (by simp)) _⟩
    rcases hr with hr | ⟨b, off, hA, hbb, hx⟩
    · exact .inl hr
    · exact .inr ⟨b, off, hA, hbb, fun j x hj => (((Ext.refl [rb] w).setCell (p := ⟨rb, 1, none⟩) (.inl (by simp)) (.bool true)).cell (show b < w.heap.size by omega) (by simp; omega)).trans (hx j x hj)⟩
  · have hfew := h.few
    have keep : ∀ (v : Value) (b : Nat) (c : Nat), b < base → (w.setCell ⟨rb, 0, none⟩ v).cell? ⟨b, c, none⟩ = w.cell? ⟨b, c, none⟩ := fun v b c hbb =>
      ((Ext.refl [rb] w).setCell (p := ⟨rb, 0, none⟩) (.inl (by simp)) v).cell (show b < w.heap.size by omega) (by simp; omega)
    rcases hk with rfl | rfl
    · match r, hs, hb, hc, hr, h, hfew with
      | x :: r, hs, hb, hc, hr, h, hfew =>
        rcases hr with hr | ⟨b, off, rfl, hbb, hx⟩
        · exact nomatch hr
        · have hxb := h.byte x (by simp)
          simp only [List.length_cons] at hc hfew
          have e1 : numV 1 (x :: r) = x := by simp [numV]
          have e2 : numL 1 (x :: r) = r := by simp [numL]
          have e3 : numO 1 (x :: r) o = o := by simp [numO]
          rw [e1, e2, e3]
          refine (num_one w rb b off cap x r.length o hb (by simpa using hx 0 x rfl) hxb.1 hxb.2 hc (by omega)).mono ?_
          rintro e w' ⟨rfl, A', hA', rfl⟩
          refine ⟨rfl, ⟨hn, ⟨A', cap - 1, hb.set 0 _, by omega, ?_⟩, fun y hy => h.byte y (by simp [hy]), by omega⟩, (Ext.refl _ _).setCell (.inl (by simp)) _⟩
          by_cases hr0 : r = []
          · exact .inl hr0
          · refine .inr ⟨b, off + 1, hA' (List.length_pos_iff.2 hr0), hbb, fun j y hj => ?_⟩
            rw [keep _ _ _ hbb]
            have := hx (j + 1) y (by simpa using hj)
            rw [show off + 1 + j = off + (j + 1) by omega]; exact this
    · match r, hs, hb, hc, hr, h, hfew with
      | [x], hs, _, _, _, _, _ => simp at hs
      | x :: y :: r, hs, hb, hc, hr, h, hfew =>
        rcases hr with hr | ⟨b, off, rfl, hbb, hx⟩
        · exact nomatch hr
        · have hxb := h.byte x (by simp)
          have hyb := h.byte y (by simp)
          simp only [List.length_cons] at hc hfew
          have hnl : ¬ (x :: y :: r).length < 2 := by simp only [List.length_cons]; omega
          have e1 : numV 2 (x :: y :: r) = x * 256 + y := by unfold numV; rw [if_neg hnl]; rfl
          have e2 : numL 2 (x :: y :: r) = r := by unfold numL; rw [if_neg hnl]; rfl
          have e3 : numO 2 (x :: y :: r) o = o := by unfold numO; rw [if_neg hnl]
          rw [e1, e2, e3]
          refine (num_two w rb b off cap x y r.length o hb (by simpa using hx 0 x rfl) (by simpa using hx 1 y rfl) hxb.1 hxb.2 hyb.1 hyb.2 (by omega) (by omega)).mono ?_
          rintro e w' ⟨rfl, A', hA', rfl⟩
          refine ⟨rfl, ⟨hn, ⟨A', cap - 2, hb.set 0 _, by omega, ?_⟩, fun z hz => h.byte z (by simp [hz]), by omega⟩, (Ext.refl _ _).setCell (.inl (by simp)) _⟩
          by_cases hr0 : r = []
          · exact .inl hr0
          · refine .inr ⟨b, off + 2, hA' (List.length_pos_iff.2 hr0), hbb, fun j z hj => ?_⟩
            rw [keep _ _ _ hbb]
            have := hx (j + 2) z (by simpa using hj)
            rw [show off + 2 + j = off + (j + 2) by omega]; exact this

end Go.Proofs.Ythedllndcibkcaa
