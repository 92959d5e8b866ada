/- The places of a directory as they lie in memory, and what a call may turn. -/
import Derived.Test.YtkckkbajaaklnaaProg
import Derived.WalkKit
import Derived.WalkSpells
import Derived.WalkLawsBesides
import Derived.Lib.Hide
import Derived.Deep.DeepFit
import Derived.Deep.QuietTactic
import Derived.BigQuiet
import Derived.Deep.LoopGhost
import Derived.Deep.DeepCutAuto
import Derived.Deep.CutBlock
import Derived.Deep.RegionHeld3
import Derived.Deep.AppendLies
import Derived.KernelRfl
namespace Go.Proofs.Ytkckkbajaaklnaa
open Go.RowKit
set_option linter.unusedVariables false
set_option linter.unusedSimpArgs false

/-- The cells of a list of places. -/
def enc (L : List (Int × Int)) : List Value := L.flatMap fun p => [.int .i64 p.1, .int .i64 p.2]

theorem enc_length (L : List (Int × Int)) : (enc L).length = 2 * L.length := by
  induction L with
  | nil => rfl
  | cons p L ih => simp only [enc, List.flatMap_cons, List.length_append, List.length_cons, List.length_nil] at ih ⊢; omega

theorem enc_get (L : List (Int × Int)) : ∀ (i : Nat) (k n : Int), L[i]? = some (k, n) → (enc L)[i * 2]? = some (.int .i64 k) ∧ (enc L)[i * 2 + 1]? = some (.int .i64 n) := by
  induction L with
  | nil => intro i k n h; simp at h
  | cons p L ih =>
    intro i k n h
    cases i with
    | zero => simp at h; subst h; exact ⟨rfl, rfl⟩
    | succ i =>
      have := ih i k n (by simpa using h)
      rw [show (i + 1) * 2 = i * 2 + 2 by omega, show i * 2 + 2 + 1 = (i * 2 + 1) + 2 by omega]
      exact this

theorem enc_set (L : List (Int × Int)) : ∀ (i : Nat) (k n : Int), i < L.length → ((enc L).set (i * 2) (.int .i64 k)).set (i * 2 + 1) (.int .i64 n) = enc (L.set i (k, n)) := by
  induction L with
  | nil => intro i k n h; simp at h
  | cons p L ih =>
    intro i k n h
    cases i with
    | zero => rfl
    | succ i =>
      have := ih i k n (by simpa using h)
      rw [show (i + 1) * 2 = i * 2 + 2 by omega, show i * 2 + 2 + 1 = (i * 2 + 1) + 2 by omega]
      show _ :: _ :: _ = _ :: _ :: _
      exact congrArg (fun l => (Value.int .i64 p.1) :: (Value.int .i64 p.2) :: l) this

theorem enc_set0 (L : List (Int × Int)) : ∀ (i : Nat) (k k0 n : Int), L[i]? = some (k0, n) → (enc L).set (i * 2) (.int .i64 k) = enc (L.set i (k, n)) := by
  induction L with
  | nil => intro i k k0 n h; simp at h
  | cons p L ih =>
    intro i k k0 n h
    cases i with
    | zero => simp at h; subst h; rfl
    | succ i =>
      have := ih i k k0 n (by simpa using h)
      rw [show (i + 1) * 2 = i * 2 + 2 by omega]
      exact congrArg (fun l => (Value.int .i64 p.1) :: (Value.int .i64 p.2) :: l) this

/-- A directory: its block, the places' block, their types, the places. -/
structure Dir (w : World) (tb tg b g : Nat) (L : List (Int × Int)) : Prop where
  hd : w.heap[b]? = some (.cells #[.slice (some ⟨g, 0, none⟩) L.length L.length] tb (0, 0))
  hc : w.heap[g]? = some (.cells (enc L).toArray tg (0, 0))
  few : L.length ≤ 32
  some : 1 ≤ L.length

theorem Dir.cell {w : World} {tb tg b g : Nat} {L : List (Int × Int)} (h : Dir w tb tg b g L) : w.cell? ⟨b, 0, none⟩ = Option.some (.slice (Option.some ⟨g, 0, none⟩) L.length L.length) := by
  simp [World.cell?, h.hd]

theorem Dir.cells {w : World} {tb tg b g : Nat} {L : List (Int × Int)} (h : Dir w tb tg b g L) {i : Nat} {k n : Int} (hi : L[i]? = Option.some (k, n)) :
    w.cell? ⟨g, i * 2, none⟩ = Option.some (.int .i64 k) ∧ w.cell? ⟨g, i * 2 + 1, none⟩ = Option.some (.int .i64 n) := by
  have := enc_get L i k n hi
  simp [World.cell?, h.hc, this.1, this.2]

theorem Dir.free {w : World} {tb tg b g : Nat} {L : List (Int × Int)} (h : Dir w tb tg b g L) (o : Nat) : w.frozen? ⟨g, o, none⟩ = false := by
  simp [World.frozen?, h.hc]

/-- What a call may turn: the blocks of S, and none else that was there. -/
structure Ext (S : List Nat) (w w' : World) : Prop where
  os : w'.os = w.os
  tape : w'.tape = w.tape
  output : w'.output = w.output
  size : w.heap.size ≤ w'.heap.size
  block : ∀ k, k < w.heap.size → k ∉ S → w'.heap[k]? = w.heap[k]?

theorem Ext.refl (S : List Nat) (w : World) : Ext S w w := ⟨rfl, rfl, rfl, Nat.le_refl _, fun _ _ _ => rfl⟩
theorem Ext.trans {S : List Nat} {a b c : World} (h : Ext S a b) (k : Ext S b c) : Ext S a c :=
  ⟨k.os.trans h.os, k.tape.trans h.tape, k.output.trans h.output, Nat.le_trans h.size k.size, fun i hi hn => (k.block i (Nat.lt_of_lt_of_le hi h.size) hn).trans (h.block i hi hn)⟩
theorem Ext.mono {S S' : List Nat} {a b : World} (h : Ext S a b) (hs : ∀ x, x ∈ S → x ∈ S') : Ext S' a b := ⟨h.os, h.tape, h.output, h.size, fun k hk hn => h.block k hk fun hx => hn (hs k hx)⟩
theorem Ext.drew {S : List Nat} {a w : World} (h : Ext S a w) : Ext S a w.drew := ⟨h.os, h.tape, h.output, h.size, h.block⟩
theorem Ext.drewN {S : List Nat} {a w : World} (h : Ext S a w) (n : Nat) : Ext S a (w.drewN n) := ⟨h.os, h.tape, h.output, h.size, h.block⟩
theorem Ext.alloc {S : List Nat} {a w : World} (h : Ext S a w) (o : Obj) : Ext S a (w.alloc o) :=
  h.trans ⟨rfl, rfl, rfl, by simp, fun k hk _ => Below.heap_alloc _ _ _ hk⟩
theorem Ext.setCell {S : List Nat} {a w : World} (h : Ext S a w) {p : Addr} (hp : p.block ∈ S ∨ a.heap.size ≤ p.block) (u : Value) : Ext S a (w.setCell p u) :=
  ⟨h.os, h.tape, h.output, by simpa [World.setCell] using h.size, fun k hk hn => (Below.heap_setCell _ _ _ _ (by
    rintro rfl
    rcases hp with hp | hp
    · exact hn hp
    · omega)).trans (h.block k hk hn)⟩

/-- Behind an append: the row that may have been written is one of the call's own. -/
theorem Ext.grown {S : List Nat} {a w w' : World} {row : Option Nat} (h : Ext S a w) (hg : w.grownBy w' row) (hr : ∀ k, row = some k → k < a.heap.size → k ∈ S) : Ext S a w' :=
  ⟨hg.os.trans h.os, hg.tape.trans h.tape, hg.output.trans h.output, Nat.le_trans h.size hg.size, fun k hk hn =>
    (hg.block k (Nat.lt_of_lt_of_le hk h.size) (fun e => hn (hr k e.symm hk))).trans (h.block k hk hn)⟩

theorem lt_of_block {w : World} {k : Nat} {o : Obj} (h : w.heap[k]? = some o) : k < w.heap.size := by
  rcases Nat.lt_or_ge k w.heap.size with h1 | h1
  · exact h1
  · rw [Array.getElem?_eq_none h1] at h; cases h

theorem Dir.ext {S : List Nat} {w w' : World} {tb tg b g : Nat} {L : List (Int × Int)} (h : Dir w tb tg b g L) (he : Ext S w w') (hb : b ∉ S) (hg : g ∉ S) : Dir w' tb tg b g L :=
  ⟨(he.block b (lt_of_block h.hd) hb).trans h.hd, (he.block g (lt_of_block h.hc) hg).trans h.hc, h.few, h.some⟩

theorem Dir.drewN {w : World} {tb tg b g : Nat} {L : List (Int × Int)} (h : Dir w tb tg b g L) (n : Nat) : Dir (w.drewN n) tb tg b g L := ⟨h.hd, h.hc, h.few, h.some⟩
theorem Dir.alloc {w : World} {tb tg b g : Nat} {L : List (Int × Int)} (h : Dir w tb tg b g L) (o : Obj) : Dir (w.alloc o) tb tg b g L :=
  h.ext ((Ext.refl [] w).alloc o) (by simp) (by simp)
theorem Dir.ne {w : World} {tb tg b g : Nat} {L : List (Int × Int)} (h : Dir w tb tg b g L) : b ≠ g := by
  rintro rfl
  have := h.hd.symm.trans h.hc
  have e : (enc L).toArray = #[Value.slice (Option.some ⟨b, 0, none⟩) L.length L.length] := by
    injection this with this; injection this with this; exact this.symm
  have e2 := congrArg Array.size e
  have := enc_length L
  simp only [List.size_toArray, List.length_cons, List.length_nil] at e2
  omega
theorem Dir.set {w : World} {tb tg b g : Nat} {L : List (Int × Int)} (h : Dir w tb tg b g L) {p : Nat} (hp : p < L.length) (k n : Int) :
    Dir ((w.setCell ⟨g, p * 2, none⟩ (.int .i64 k)).setCell ⟨g, p * 2 + 1, none⟩ (.int .i64 n)) tb tg b g (L.set p (k, n)) := by
  have hne := h.ne
  refine ⟨?_, ?_, by simpa using h.few, by simpa using h.some⟩
  · rw [Below.heap_setCell _ _ _ _ hne, Below.heap_setCell _ _ _ _ hne, h.hd]; simp
  · rw [heap_setCell_same _ g (p * 2 + 1) _ tg _ (heap_setCell_same _ g (p * 2) _ tg _ h.hc)]
    have := enc_set L p k n hp
    simp only [List.setIfInBounds_toArray]
    rw [this]
theorem Dir.set0 {w : World} {tb tg b g : Nat} {L : List (Int × Int)} (h : Dir w tb tg b g L) {p : Nat} {k0 n : Int} (hp : L[p]? = Option.some (k0, n)) (k : Int) :
    Dir (w.setCell ⟨g, p * 2, none⟩ (.int .i64 k)) tb tg b g (L.set p (k, n)) := by
  have hne := h.ne
  refine ⟨?_, ?_, by simpa using h.few, by simpa using h.some⟩
  · rw [Below.heap_setCell _ _ _ _ hne, h.hd]; simp
  · rw [heap_setCell_same _ g (p * 2) _ tg _ h.hc]
    simp only [List.setIfInBounds_toArray]
    rw [enc_set0 L p k k0 n hp]

/-- What a call makes of a directory. -/
def Upd (w w' : World) (tb tg b g : Nat) (L' : List (Int × Int)) : Prop := Dir w' tb tg b g L' ∧ Ext [g] w w'
theorem Upd.refl {w : World} {tb tg b g : Nat} {L : List (Int × Int)} (h : Dir w tb tg b g L) (n : Nat) : Upd w (w.drewN n) tb tg b g L := ⟨h.drewN n, (Ext.refl _ _).drewN n⟩
theorem Upd.set {w0 w : World} {tb tg b g : Nat} {L : List (Int × Int)} (h : Dir w tb tg b g L) (he : Ext [g] w0 w) {p : Nat} (hp : p < L.length) (k n : Int) (m : Nat) :
    Upd w0 (((w.setCell ⟨g, p * 2, none⟩ (.int .i64 k)).setCell ⟨g, p * 2 + 1, none⟩ (.int .i64 n)).drewN m) tb tg b g (L.set p (k, n)) :=
  ⟨(h.set hp k n).drewN m, ((he.setCell (.inl (by simp)) _).setCell (.inl (by simp)) _).drewN m⟩

end Go.Proofs.Ytkckkbajaaklnaa
