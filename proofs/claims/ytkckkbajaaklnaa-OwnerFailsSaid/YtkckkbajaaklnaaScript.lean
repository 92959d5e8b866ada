/- A script of calls as it lies in memory; what keeps the nodes' numbers right. -/
import Derived.Test.YtkckkbajaaklnaaDoes
import Derived.Test.YtkckkbajaaklnaaAwake
import Derived.Test.YtkckkbajaaklnaaRNew
namespace Go.Proofs.Ytkckkbajaaklnaa
open Go.RowKit
set_option linter.unusedVariables false
set_option linter.unusedSimpArgs false

/-- A call: its kind, its page, its two numbers. -/
structure Op where
  k : Int
  p : Int
  a : Int
  b : Int

/-- A script that came in. -/
def Ops (w : World) (A : Option Addr) (l : List Op) : Prop :=
  l = [] ∨ ∃ b off, A = some ⟨b, off, none⟩ ∧ b < w.heap.size ∧ ∀ (j : Nat) (q : Op), l[j]? = some q →
    w.cell? ⟨b, off + j * 4, none⟩ = some (.int .i64 q.k) ∧ w.cell? ⟨b, off + j * 4 + 1, none⟩ = some (.int .i64 q.p) ∧ w.cell? ⟨b, off + j * 4 + 2, none⟩ = some (.int .i64 q.a) ∧ w.cell? ⟨b, off + j * 4 + 3, none⟩ = some (.int .i64 q.b)

theorem Ext.cell {S : List Nat} {w w' : World} (h : Ext S w w') {p : Addr} (hp : p.block < w.heap.size) (hn : p.block ∉ S) : w'.cell? p = w.cell? p := World.cell?_of_block (h.block p.block hp hn)

theorem Ops.ext {w w' : World} {A : Option Addr} {l : List Op} (h : Ops w A l) (he : Ext [] w w') : Ops w' A l := by
  rcases h with h | ⟨b, off, hA, hb, hc⟩
  · exact .inl h
  · refine .inr ⟨b, off, hA, Nat.lt_of_lt_of_le hb he.size, fun j q hq => ?_⟩
    obtain ⟨h0, h1, h2, h3⟩ := hc j q hq
    exact ⟨(he.cell hb (by simp)).trans h0, (he.cell hb (by simp)).trans h1, (he.cell hb (by simp)).trans h2, (he.cell hb (by simp)).trans h3⟩

theorem Ops.at_ {w : World} {A : Option Addr} {l : List Op} (h : Ops w A l) {j : Nat} {q : Op} (hq : l[j]? = some q) : ∃ b off, A = some ⟨b, off, none⟩ ∧ b < w.heap.size ∧
    w.cell? ⟨b, off + j * 4, none⟩ = some (.int .i64 q.k) ∧ w.cell? ⟨b, off + j * 4 + 1, none⟩ = some (.int .i64 q.p) ∧ w.cell? ⟨b, off + j * 4 + 2, none⟩ = some (.int .i64 q.a) ∧ w.cell? ⟨b, off + j * 4 + 3, none⟩ = some (.int .i64 q.b) := by
  rcases h with h | ⟨b, off, hA, hb, hc⟩
  · subst h; simp at hq
  · exact ⟨b, off, hA, hb, hc j q hq⟩

/-- All places have right nodes. -/
def Nodes (L : List (Int × Int)) : Prop := ∀ q ∈ L, nodeB q.2 = true

theorem Nodes.set {L : List (Int × Int)} (h : Nodes L) (i : Nat) {k n : Int} (hn : nodeB n = true) : Nodes (L.set i (k, n)) := by
  intro q hq
  rcases List.mem_or_eq_of_mem_set hq with h1 | h1
  · exact h q h1
  · subst h1; exact hn
theorem Nodes.home (n : Nat) : Nodes (List.replicate n (0, 0)) := by
  intro q hq
  rw [List.eq_of_mem_replicate hq]; decide
theorem Nodes.turn {L : List (Int × Int)} (h : Nodes L) (x fk fn tk tn : Int) : Nodes (turnL L x fk fn tk tn) := by
  unfold turnL
  split
  · rename_i hh; exact h.set _ hh.1.2.2
  · exact h
theorem Nodes.does {L : List (Int × Int)} (h : Nodes L) (k p a bb : Int) : Nodes (doesL L k p a bb) := by
  unfold doesL
  split
  · unfold askL
    split
    · rename_i hh; exact h.set _ hh.2.1
    · exact h
  split
  · unfold shipL; split
    · exact h
    · exact h.turn _ _ _ _ _
  split
  · exact h.turn _ _ _ _ _
  split
  · exact h.turn _ _ _ _ _
  split
  · unfold failL
    intro q hq
    obtain ⟨r, hr, rfl⟩ := List.mem_map.1 hq
    unfold failP
    split
    · rename_i hh
      have := h r hr
      rcases hh with rfl | rfl <;> exact this
    · exact h r hr
  split
  · unfold healL; split
    · exact h.set _ (by decide)
    · exact h
  exact h

def playL (L : List (Int × Int)) (l : List Op) : List (Int × Int) := l.foldl (fun L o => doesL L o.k o.p o.a o.b) L
theorem playL_snoc (L : List (Int × Int)) (l : List Op) (o : Op) : playL L (l ++ [o]) = doesL (playL L l) o.k o.p o.a o.b := by simp [playL, List.foldl_append]
theorem Nodes.play {L : List (Int × Int)} (h : Nodes L) (l : List Op) : Nodes (playL L l) := by
  induction l generalizing L with
  | nil => exact h
  | cons o l ih => exact ih (h.does _ _ _ _)
theorem turnL_length (L : List (Int × Int)) (x fk fn tk tn : Int) : (turnL L x fk fn tk tn).length = L.length := by unfold turnL; split <;> simp
theorem doesL_length (L : List (Int × Int)) (k p a bb : Int) : (doesL L k p a bb).length = L.length := by
  unfold doesL askL shipL landL leaveL failL healL
  repeat' split
  all_goals simp [turnL_length]
theorem playL_length (l : List Op) : ∀ L, (playL L l).length = L.length := by
  induction l with
  | nil => intro L; rfl
  | cons o l ih => intro L; show (playL _ l).length = _; rw [ih, doesL_length]

end Go.Proofs.Ytkckkbajaaklnaa
