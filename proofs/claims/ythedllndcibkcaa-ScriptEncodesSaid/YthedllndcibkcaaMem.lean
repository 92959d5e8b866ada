/- Words for memory: what a call may turn, blocks that are known whole, rows of records, rows of a call's own. -/
import Derived.Test.YthedllndcibkcaaProg
import Derived.WalkKit
import Derived.WalkSpells
import Derived.WalkLawsBesides
import Derived.Lib.Hide
import Derived.Deep.DeepFit
import Derived.Deep.QuietTactic
import Derived.BigQuiet
import Derived.Deep.LoopGhost
import Derived.Deep.DeepCutAuto
import Derived.Deep.CutBlock
import Derived.Deep.RegionHeld3
import Derived.Deep.AppendLies
import Derived.Laws.MakeOwn
import Derived.IntWalk
import Derived.KernelRfl
namespace Go.Proofs.Ythedllndcibkcaa
open Go.RowKit
set_option linter.unusedVariables false
set_option linter.unusedSimpArgs false

/-- What a call may turn: the blocks of S, and none else that was there. -/
structure Ext (S : List Nat) (w w' : World) : Prop where
  os : w'.os = w.os
  tape : w'.tape = w.tape
  output : w'.output = w.output
  size : w.heap.size ≤ w'.heap.size
  block : ∀ k, k < w.heap.size → k ∉ S → w'.heap[k]? = w.heap[k]?

theorem Ext.refl (S : List Nat) (w : World) : Ext S w w := ⟨rfl, rfl, rfl, Nat.le_refl _, fun _ _ _ => rfl⟩
theorem Ext.trans {S : List Nat} {a b c : World} (h : Ext S a b) (k : Ext S b c) : Ext S a c :=
  ⟨k.os.trans h.os, k.tape.trans h.tape, k.output.trans h.output, Nat.le_trans h.size k.size, fun i hi hn => (k.block i (Nat.lt_of_lt_of_le hi h.size) hn).trans (h.block i hi hn)⟩
theorem Ext.mono {S S' : List Nat} {a b : World} (h : Ext S a b) (hs : ∀ x, x ∈ S → x ∈ S') : Ext S' a b := ⟨h.os, h.tape, h.output, h.size, fun k hk hn => h.block k hk fun hx => hn (hs k hx)⟩
theorem Ext.any {S : List Nat} {a b : World} (h : Ext [] a b) : Ext S a b := h.mono (by simp)
theorem Ext.new {S T : List Nat} {a b c : World} (h : Ext S a b) (k : Ext T b c) (hT : ∀ x ∈ T, x ∈ S ∨ a.heap.size ≤ x) : Ext S a c :=
  ⟨k.os.trans h.os, k.tape.trans h.tape, k.output.trans h.output, Nat.le_trans h.size k.size, fun i hi hn => (k.block i (Nat.lt_of_lt_of_le hi h.size) (fun hx => by rcases hT i hx with h1 | h1; exact hn h1; omega)).trans (h.block i hi hn)⟩
theorem Ext.drew {S : List Nat} {a w : World} (h : Ext S a w) : Ext S a w.drew := ⟨h.os, h.tape, h.output, h.size, h.block⟩
theorem Ext.drewN {S : List Nat} {a w : World} (h : Ext S a w) (n : Nat) : Ext S a (w.drewN n) := ⟨h.os, h.tape, h.output, h.size, h.block⟩
theorem Ext.ofDraw {S : List Nat} {w w' : World} (h : ∃ n, w' = w.drewN n) : Ext S w w' := by obtain ⟨n, rfl⟩ := h; exact (Ext.refl _ _).drewN n
theorem Ext.alloc {S : List Nat} {a w : World} (h : Ext S a w) (o : Obj) : Ext S a (w.alloc o) :=
  h.trans ⟨rfl, rfl, rfl, by simp, fun k hk _ => Below.heap_alloc _ _ _ hk⟩
theorem Ext.setCell {S : List Nat} {a w : World} (h : Ext S a w) {p : Addr} (hp : p.block ∈ S ∨ a.heap.size ≤ p.block) (u : Value) : Ext S a (w.setCell p u) :=
  ⟨h.os, h.tape, h.output, by simpa [World.setCell] using h.size, fun k hk hn => (Below.heap_setCell _ _ _ _ (by
    rintro rfl
    rcases hp with hp | hp
    · exact hn hp
    · omega)).trans (h.block k hk hn)⟩
theorem Ext.grown {S : List Nat} {a w w' : World} {row : Option Nat} (h : Ext S a w) (hg : w.grownBy w' row) (hr : ∀ k, row = some k → k < a.heap.size → k ∈ S) : Ext S a w' :=
  ⟨hg.os.trans h.os, hg.tape.trans h.tape, hg.output.trans h.output, Nat.le_trans h.size hg.size, fun k hk hn =>
    (hg.block k (Nat.lt_of_lt_of_le hk h.size) (fun e => hn (hr k e.symm hk))).trans (h.block k hk hn)⟩
theorem Ext.below {S : List Nat} {a w w' : World} {B : Nat} (h : Ext S a w) (hb : Below B w w') (hB : a.heap.size ≤ B) : Ext S a w' :=
  ⟨hb.os.trans h.os, hb.tape.trans h.tape, hb.output.trans h.output, Nat.le_trans h.size hb.size, fun k hk hn => (hb.block k (by omega)).trans (h.block k hk hn)⟩
theorem Ext.toBelow {S : List Nat} {a w : World} {B : Nat} (h : Ext S a w) (hB : B ≤ a.heap.size) (hs : ∀ k ∈ S, B ≤ k) : Below B a w :=
  ⟨h.os, h.tape, h.output, h.size, fun k hk => h.block k (by omega) fun hk2 => by have := hs k hk2; omega⟩
theorem Ext.cell {S : List Nat} {w w' : World} (h : Ext S w w') {p : Addr} (hp : p.block < w.heap.size) (hn : p.block ∉ S) : w'.cell? p = w.cell? p := World.cell?_of_block (h.block p.block hp hn)

theorem lt_of_block {w : World} {k : Nat} {o : Obj} (h : w.heap[k]? = some o) : k < w.heap.size := by
  rcases Nat.lt_or_ge k w.heap.size with h1 | h1
  · exact h1
  · rw [Array.getElem?_eq_none h1] at h; cases h

/-- A block that is known whole. -/
def Blk (w : World) (g : Nat) (t : TypeId) (C : List Value) : Prop := w.heap[g]? = some (.cells C.toArray t (0, 0))
section
variable {w w' : World} {g : Nat} {t : TypeId} {C : List Value}
theorem Blk.lt (h : Blk w g t C) : g < w.heap.size := lt_of_block h
theorem Blk.cell (h : Blk w g t C) {k : Nat} {v : Value} (hk : C[k]? = some v) : w.cell? ⟨g, k, none⟩ = some v := by
  rw [cell_of_row w g k _ _ _ h, List.getElem?_toArray, hk]
theorem Blk.free (h : Blk w g t C) (k : Nat) : w.frozen? ⟨g, k, none⟩ = false := frozen_of_row w g k _ _ h
theorem Blk.set (h : Blk w g t C) (k : Nat) (v : Value) : Blk (w.setCell ⟨g, k, none⟩ v) g t (C.set k v) := by
  unfold Blk
  rw [heap_setCell_same w g k _ t _ h, List.setIfInBounds_toArray]
theorem Blk.far (h : Blk w g t C) {p : Addr} (hp : g ≠ p.block) (v : Value) : Blk (w.setCell p v) g t C := (Below.heap_setCell _ _ _ _ hp).trans h
theorem Blk.ext {S : List Nat} (h : Blk w g t C) (he : Ext S w w') (hg : g ∉ S) : Blk w' g t C := (he.block g h.lt hg).trans h
theorem Blk.alloc (h : Blk w g t C) (o : Obj) : Blk (w.alloc o) g t C := h.ext (S := []) ((Ext.refl _ _).alloc o) (by simp)
theorem Blk.drewN (h : Blk w g t C) (n : Nat) : Blk (w.drewN n) g t C := h
theorem Blk.drew (h : Blk w g t C) : Blk w.drew g t C := h
theorem Blk.new (w : World) (t : TypeId) (C : List Value) : Blk (w.alloc (.cells C.toArray t)) w.heap.size t C := heap_alloc_new w _
theorem Blk.apart {t' : TypeId} {C' : List Value} {g' : Nat} (h : Blk w g t C) (h' : Blk w g' t' C') (hne : t ≠ t') : g ≠ g' := by
  rintro rfl
  unfold Blk at h h'
  rw [h] at h'
  injection h' with h'; injection h' with _ h'
  exact hne h'
theorem Blk.grown {row : Option Nat} (h : Blk w g t C) (hg : w.grownBy w' row) (hr : row ≠ some g) : Blk w' g t C := (hg.block g h.lt (fun e => hr e.symm)).trans h
end

/-- Rows of records. -/
def encs {α : Type} (f : α → List Value) (L : List α) : List Value := L.flatMap f
section
variable {α : Type} {f : α → List Value} {s : Nat}
theorem encs_length (hs : ∀ a, (f a).length = s) (L : List α) : (encs f L).length = L.length * s := by
  induction L with
  | nil => simp [encs]
  | cons a L ih => simp only [encs, List.flatMap_cons, List.length_append, List.length_cons] at ih ⊢; rw [ih, hs, Nat.succ_mul]; omega
theorem encs_split {L : List α} {i : Nat} {a : α} (hi : L[i]? = some a) : encs f L = encs f (L.take i) ++ (f a ++ encs f (L.drop (i + 1))) := by
  have hl := (List.getElem?_eq_some_iff.1 hi).1
  have he := (List.getElem?_eq_some_iff.1 hi).2
  unfold encs
  conv => lhs; rw [← List.take_append_drop i L, List.drop_eq_getElem_cons hl, he]
  simp
theorem encs_get (hs : ∀ a, (f a).length = s) {L : List α} {i j : Nat} {a : α} (hi : L[i]? = some a) (hj : j < s) : (encs f L)[i * s + j]? = (f a)[j]? := by
  have hl := (List.getElem?_eq_some_iff.1 hi).1
  rw [encs_split hi]
  have h1 : (encs f (L.take i)).length = i * s := by rw [encs_length hs]; simp [Nat.min_eq_left (Nat.le_of_lt hl)]
  rw [List.getElem?_append_right (by omega), h1, Nat.add_sub_cancel_left, List.getElem?_append_left (by rw [hs]; exact hj)]
theorem encs_set (hs : ∀ a, (f a).length = s) {L : List α} {i j : Nat} {a a' : α} {v : Value} (hi : L[i]? = some a) (hj : j < s) (ha : f a' = (f a).set j v) : (encs f L).set (i * s + j) v = encs f (L.set i a') := by
  have hl := (List.getElem?_eq_some_iff.1 hi).1
  have hi' : (L.set i a')[i]? = some a' := by rw [List.getElem?_set_self hl]
  have h1 : (encs f (L.take i)).length = i * s := by rw [encs_length hs]; simp [Nat.min_eq_left (Nat.le_of_lt hl)]
  rw [encs_split hi, encs_split hi', ha]
  rw [List.set_append_right _ _ (by omega), h1, Nat.add_sub_cancel_left, List.set_append_left _ _ (by rw [hs]; exact hj), List.take_set_of_le (Nat.le_refl _), List.drop_set_of_lt (by omega)]
/-- Cells set one behind the other. -/
def setFrom : List Value → Nat → List Value → List Value
  | C, _, [] => C
  | C, k, v :: vs => setFrom (C.set k v) (k + 1) vs
theorem setFrom_mid (A B : List Value) : ∀ (vs us : List Value) (k : Nat), us.length = vs.length → k = A.length → setFrom (A ++ (us ++ B)) k vs = A ++ (vs ++ B) := by
  intro vs
  induction vs generalizing A with
  | nil => intro us k hu hk; rw [List.eq_nil_of_length_eq_zero hu]; rfl
  | cons v vs ih =>
    intro us k hu hk
    cases us with
    | nil => simp at hu
    | cons u us =>
      subst hk
      show setFrom ((A ++ (u :: us ++ B)).set A.length v) (A.length + 1) vs = _
      rw [List.set_append_right _ _ (Nat.le_refl _), Nat.sub_self]
      have := ih (A ++ [v]) us (A.length + 1) (by simpa using hu) (by simp)
      simpa using this
theorem encs_store (hs : ∀ a, (f a).length = s) {L : List α} {i : Nat} {a : α} (a' : α) (hi : L[i]? = some a) : setFrom (encs f L) (i * s) (f a') = encs f (L.set i a') := by
  have hl := (List.getElem?_eq_some_iff.1 hi).1
  have hi' : (L.set i a')[i]? = some a' := by rw [List.getElem?_set_self hl]
  have h1 : (encs f (L.take i)).length = i * s := by rw [encs_length hs]; simp [Nat.min_eq_left (Nat.le_of_lt hl)]
  rw [encs_split hi, encs_split hi', List.take_set_of_le (Nat.le_refl _), List.drop_set_of_lt (by omega)]
  exact setFrom_mid _ _ _ _ _ (by rw [hs, hs]) h1.symm
theorem encs_snoc (L : List α) (a : α) : encs f (L ++ [a]) = encs f L ++ f a := by simp [encs]
end

/-- Rows of a call's own, carried on. -/
theorem own_ext {S : List Nat} {w w' : World} {base e size n : Nat} {v : Value} {xs : List Value} (h : w.ownsRow base e size v n xs) (he : Ext S w w') (hs : ∀ k ∈ S, k < base) : w'.ownsRow base e size v n xs := by
  refine ⟨h.1, ?_⟩
  rcases h.2 with h2 | ⟨g, cap, cur, hv, hb, hg, r⟩
  · exact .inl h2
  · refine .inr ⟨g, cap, cur, hv, hb, ?_, r⟩
    rw [he.block g (lt_of_block hg) (fun hk => by have := hs g hk; omega)]
    exact hg
theorem own_more {w : World} {base base' e size n : Nat} {v : Value} {xs : List Value} (h : w.ownsRow base e size v n xs) (hb : base' ≤ base) : w.ownsRow base' e size v n xs := by
  refine ⟨h.1, ?_⟩
  rcases h.2 with h2 | ⟨g, cap, cur, hv, hb', r⟩
  · exact .inl h2
  · exact .inr ⟨g, cap, cur, hv, by omega, r⟩
theorem own_form {w : World} {base e size n : Nat} {v : Value} {xs : List Value} (h : w.ownsRow base e size v n xs) : (v = .slice none 0 0 ∧ n = 0) ∨ ∃ g cap, v = .slice (some ⟨g, 0, none⟩) n cap := by
  rcases h.2 with h2 | ⟨g, cap, cur, hv, r⟩
  · exact .inl h2
  · exact .inr ⟨g, cap, hv⟩
theorem own_val {w : World} {base e size n : Nat} {v : Value} {xs : List Value} (h : w.ownsRow base e size v n xs) : ∃ A c, v = .slice A n c := by
  rcases own_form h with ⟨rfl, rfl⟩ | ⟨g, cap, rfl⟩
  · exact ⟨none, 0, rfl⟩
  · exact ⟨_, _, rfl⟩
theorem own_some {w : World} {base e size n c : Nat} {A : Option Addr} {xs : List Value} (h : w.ownsRow base e size (.slice A n c) n xs) (hn : 0 < n) : ∃ g, A = some ⟨g, 0, none⟩ ∧ base ≤ g ∧ g < w.heap.size := by
  rcases own_form h with ⟨_, h2⟩ | ⟨g, cap, h2⟩
  · omega
  · injection h2 with h2 _ _
    subst h2
    have := h.lt g rfl
    exact ⟨g, rfl, this.1, this.2⟩
theorem own_cell {w : World} {base e size n c g : Nat} {xs : List Value} (h : w.ownsRow base e size (.slice (some ⟨g, 0, none⟩) n c) n xs) {j : Nat} {v : Value} (hj : xs[j]? = some v) : w.cell? ⟨g, j, none⟩ = some v := by
  rw [World.ownsRow.cellAt h j (by have := h.1; have := (List.getElem?_eq_some_iff.1 hj).1; omega), hj]

/-- One row of the call's own appended to another one. -/
theorem wpList_append_own2 {P : Program} (w : World) {ops : Array Oper} {rest : List Oper} {o : Oper} {a : Act} {Q : Exit → Act → World → Prop} (hgd : o.guard = none) (s x : Operand) (t : TypeId)
    (ho : o.op = .call { callee := .builtin .append, args := #[s, x], argTypes := #[t, t] })
    (base base2 : Nat) (e : TypeId) (i : TypeInfo) (z : Value) (size bytes : Nat) (ht : P.underlying t = some (.slice e)) (hi : P.info? e = some i) (hz : i.zero = some z)
    (hsize : i.size = size) (hby : i.bytes = bytes) (hzs : z.cells.size = size) (hsz : 0 < size)
    (v v2 : Value) (n m : Nat) (xs ys : List Value) (hs : a.eval s = v) (hown : w.ownsRow base e size v n xs) (hx : a.eval x = v2) (hown2 : w.ownsRow base2 e size v2 m ys) (h1 : ∀ u ∈ ys, u.oneCell' = true)
    (h63 : n + m ≤ maxLen) (hbytes : (n + m) * bytes ≤ 140737488355328) (hbase : base ≤ w.heap.size)
    (h : ∀ v' w', w'.ownsRow base e size v' (n + m) (xs ++ ys) → w.grownBy w' v.ownBlock → wpList P ops Q rest (a.put o.dst v') w') : wpList P ops Q (o :: rest) a w := by
  refine wpList_plain hgd fun K hK => ?_
  rcases own_form hown2 with ⟨rfl, rfl⟩ | ⟨g, cap, rfl⟩
  · have hy : ys = [] := List.eq_nil_of_length_eq_zero (by have := hown2.1; simpa using this)
    subst hy
    have hr := run_append_owned_none (P := P) w base t o.type e i size ht hi v n xs hown
    unfold Oper.wp execOp
    simp only [ho, resolve, invoke, builtin, Sem.run_bind, Sem.run_pure, Result.andThen_ok, List.map_toArray, List.map_cons, List.map_nil, hs, hx, hr]
    exact hK _ _ (h v w (by simpa using hown) (World.grownBy.refl w _))
  · obtain ⟨v', w', hr, h2, h3, _, _⟩ := run_append_own_at (P := P) w base t o.type e i z size bytes ht hi hz hsize hby hzs hsz v n xs hown ⟨g, 0, none⟩ m cap ys hown2.1 (hown2.cells (g := g) rfl) h1 h63 hbytes hbase
    unfold Oper.wp execOp
    simp only [ho, resolve, invoke, builtin, Sem.run_bind, Sem.run_pure, Result.andThen_ok, List.map_toArray, List.map_cons, List.map_nil, hs, hx, hr]
    exact hK _ _ (h v' w' h2 h3)

end Go.Proofs.Ythedllndcibkcaa
