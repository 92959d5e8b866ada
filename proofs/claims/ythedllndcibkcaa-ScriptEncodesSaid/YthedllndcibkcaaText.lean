/- reader.text: a text behind its length. -/
import Derived.Test.YthedllndcibkcaaDec
import Derived.Laws.IdiomStrings
import Derived.Lib.BufferRead
namespace Go.Proofs.Ythedllndcibkcaa
open Go.RowKit
set_option linter.unusedVariables false
set_option linter.unusedSimpArgs false

theorem own_ext2 {S : List Nat} {w w' : World} {base e size n : Nat} {v : Value} {xs : List Value} (h : w.ownsRow base e size v n xs) (he : Ext S w w') (hs : ∀ k ∈ S, k < base ∨ w.heap.size ≤ k) : w'.ownsRow base e size v n xs := by
  refine ⟨h.1, ?_⟩
  rcases h.2 with h2 | ⟨g, cap, cur, hv, hb, hg, r⟩
  · exact .inl h2
  · refine .inr ⟨g, cap, cur, hv, hb, ?_, r⟩
    have hlt := lt_of_block hg
    rw [he.block g hlt (fun hk => by rcases hs g hk with h1 | h1 <;> omega)]
    exact hg

theorem RD.over {w : World} {base rb : Nat} {r : List Int} {o : Bool} (h : RD w base rb r o) : RD (w.setCell ⟨rb, 1, none⟩ (.bool true)) base rb r true := by
  obtain ⟨A, cap, hb, hc, hr⟩ := h.out
  have hrl := hb.lt
  have hn := h.new
  refine ⟨hn, ⟨A, cap, hb.set 1 _, hc, ?_⟩, h.byte, h.few⟩
  rcases hr with hr | ⟨b, off, hA, hbb, hx⟩
  · exact .inl hr
  · exact .inr ⟨b, off, hA, hbb, fun j x hj => (((Ext.refl [rb] w).setCell (p := ⟨rb, 1, none⟩) (.inl (by simp)) (.bool true)).cell (show b < w.heap.size by omega) (by simp; omega)).trans (hx j x hj)⟩

theorem RD.cut {w : World} {base rb b off cap : Nat} {r : List Int} {o : Bool} (hn : base ≤ rb) (hb : Blk w rb 50 [.slice (some ⟨b, off, none⟩) r.length cap, .bool o]) (hcap : r.length ≤ cap) (hbb : b < base)
    (hx : ∀ (j : Nat) (x : Int), r[j]? = some x → w.cell? ⟨b, off + j, none⟩ = some (.int .u8 x)) (hy : ∀ x ∈ r, 0 ≤ x ∧ x < 256) (hf : r.length ≤ 1000000) (k : Nat) (hk : k ≤ r.length) (A' : Option Addr) (n' c' : Nat) (h1 : n' = r.length - k) (h2 : c' = cap - k) (hA : k < r.length → A' = some ⟨b, off + k, none⟩) :
    RD (w.setCell ⟨rb, 0, none⟩ (.slice A' n' c')) base rb (r.drop k) o := by
  subst h1 h2
  have hrl := hb.lt
  have hl : (r.drop k).length = r.length - k := by simp
  refine ⟨hn, ⟨A', cap - k, by rw [hl]; exact hb.set 0 _, by omega, ?_⟩, fun x hx => hy x (List.mem_of_mem_drop hx), by omega⟩
  by_cases hkl : k < r.length
  · refine .inr ⟨b, off + k, hA hkl, hbb, fun j x hj => ?_⟩
    rw [((Ext.refl [rb] w).setCell (p := ⟨rb, 0, none⟩) (.inl (by simp)) _).cell (show b < w.heap.size by omega) (by simp; omega)]
    rw [List.getElem?_drop] at hj
    rw [show off + k + j = off + (k + j) by omega]
    exact hx (k + j) x hj
  · exact .inl (List.drop_eq_nil_of_le (by omega))

theorem RD.none {w : World} {base rb cap : Nat} {A : Option Addr} {o : Bool} (hn : base ≤ rb) (hb : Blk w rb 50 [.slice A ([] : List Int).length cap, .bool o]) (hy : ∀ x ∈ ([] : List Int), 0 ≤ x ∧ x < 256) (A' : Option Addr) (c' : Nat) :
    RD (w.setCell ⟨rb, 0, none⟩ (.slice A' 0 c')) base rb (([] : List Int).drop 0) o :=
  ⟨hn, ⟨A', c', hb.set 0 _, Nat.zero_le _, .inl rfl⟩, by simp, by simp⟩

theorem numV1_range {r : List Int} (h : ∀ x ∈ r, 0 ≤ x ∧ x < 256) : 0 ≤ numV 1 r ∧ numV 1 r < 256 := by
  unfold numV
  split
  · omega
  · rw [if_pos rfl]
    cases r with
    | nil => simp
    | cons x r => exact h x (by simp)

theorem conv_none (w : World) (A : Option Addr) (c : Nat) : (convert 29 9 (.slice A 0 c)).run Try.prog w = .ok (.string ⟨#[]⟩) w := by
  cases A with
  | none => exact Lib.run_convert_nil_bytes w 29 9 5 c Try.underlying29 Try.underlying5 Try.underlying9
  | some a =>
    have hl : (loadCells a 0).run Try.prog w = .ok (([] : List Int).map (Value.int .u8)).toArray w := by
      have := run_loadCells_list (P := Try.prog) w a [] (fun j v hj => by simp at hj)
      simpa using this
    rw [run_convert_bytes_string w 29 9 5 (some a) 0 c Try.underlying29 Try.underlying5 Try.underlying9, run_bytesToString w a 0 c [] hl]
    rfl

set_option maxHeartbeats 1000000 in
theorem text_any (w : World) (base rb : Nat) (r : List Int) (o : Bool) (h : RD w base rb r o) :
    Calls Try.prog 17 #[.pointer (some ⟨rb, 0, none⟩)] w fun e w' => e = .returned (.string (textV r)) ∧ RD w' base rb (textL r) (textO r o) ∧ Ext [rb] w w' := by
  have hN := numV1_range h.byte
  have hc := num_any w base rb r o h 1 (.inl rfl)
  unfold textV textL textO textN
  generalize numV 1 r = n at *
  generalize numL 1 r = r1 at *
  generalize numO 1 r o = o1 at *
  clear h
  obtain ⟨n, rfl⟩ := Int.eq_ofNat_of_zero_le hN.1
  simp only [Int.toNat_natCast]
  by_cases hs : r1.length < n
  · simp only [if_pos hs]
    have HC := Lib.hid hc
    clear hc
    go_enter Try.func17, Try.ntmps17
    go_wp2_with (go_at_call 13; fail)
    refine HC.out.mono ?_
    rintro e w1 ⟨rfl, h1, e1⟩
    obtain ⟨A, cap, hb, hcap, hr⟩ := h1.out
    have c0 := hb.cell (k := 0) rfl
    have c1 := hb.cell (k := 1) rfl
    have f1 := hb.free 1
    have hfew := h1.few
    have hs' : ((r1.length : Int) < n) := by omega
    have H1 := Lib.hid h1
    have HE := Lib.hid e1
    clear h1 e1 hb hr
    go_wp2
    go_ret
    exact ⟨rfl, H1.out.over, HE.out.setCell (.inl (by simp)) _⟩
  · simp only [if_neg hs]
    have HC := Lib.hid hc
    clear hc
    go_enter Try.func17, Try.ntmps17
    go_wp2_with (go_at_call 13; fail)
    refine HC.out.mono ?_
    rintro e w1 ⟨rfl, h1, e1⟩
    obtain ⟨A, cap, hb, hcap, hr⟩ := h1.out
    have f0 := hb.free 0
    have hfew := h1.few
    have hnew := h1.new
    have hs' : ¬ ((r1.length : Int) < n) := by omega
    have HE := Lib.hid e1
    have HY := Lib.hid h1.byte
    have HB := Lib.hid hb
    clear h1 e1 hb
    rcases hr with hr | ⟨b, off, hA, hbb, hx⟩
    · subst hr
      have hn0 : n = 0 := by simp at hs; omega
      subst hn0
      have c0 := HB.out.cell (k := 0) rfl
      simp only [List.length_nil] at c0
      have hconv := conv_none w1 A cap
      go_wp2
      all_goals
        go_ret
        exact ⟨rfl, RD.none hnew HB.out HY.out _ _, HE.out.setCell (.inl (by simp)) _⟩
    · subst hA
      have c0 := HB.out.cell (k := 0) rfl
      have hconv := run_convert_bytes_arg (P := Try.prog) w1 29 5 Try.underlying29 Try.underlying5 b off n cap (r1.take n) (by simp; omega) (fun i hi => by
        obtain ⟨x, hxx⟩ : ∃ x, r1[i]? = some x := ⟨r1[i]'(by omega), by rw [List.getElem?_eq_getElem (by omega)]⟩
        rw [hx i x hxx]
        simp [List.getD, List.getElem?_take, hi, hxx]) 9 Try.underlying9
      have HX := Lib.hid hx
      clear hx
      go_wp2
      all_goals
        go_ret
        exact ⟨rfl, RD.cut hnew HB.out hcap hbb HX.out HY.out hfew n (by omega) _ _ _ (by omega) (by omega) (fun h => by first | rfl | omega), HE.out.setCell (.inl (by simp)) _⟩

end Go.Proofs.Ythedllndcibkcaa
