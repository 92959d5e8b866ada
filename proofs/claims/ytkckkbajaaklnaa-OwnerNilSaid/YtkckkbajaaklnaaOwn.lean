/- Rows of a call's own, carried on; one appended to another. -/
import Derived.Test.YtkckkbajaaklnaaSort
namespace Go.Proofs.Ytkckkbajaaklnaa
open Go.RowKit
set_option linter.unusedVariables false
set_option linter.unusedSimpArgs false

theorem own_ext {S : List Nat} {w w' : World} {base e size n : Nat} {v : Value} {xs : List Value} (h : w.ownsRow base e size v n xs) (he : Ext S w w') (hs : ∀ k ∈ S, k < base) : w'.ownsRow base e size v n xs := by
  refine ⟨h.1, ?_⟩
  rcases h.2 with h2 | ⟨g, cap, cur, hv, hb, hg, r⟩
  · exact .inl h2
  · refine .inr ⟨g, cap, cur, hv, hb, ?_, r⟩
    rw [he.block g (lt_of_block hg) (fun hk => by have := hs g hk; omega)]
    exact hg
theorem own_more {w : World} {base base' e size n : Nat} {v : Value} {xs : List Value} (h : w.ownsRow base e size v n xs) (hb : base' ≤ base) : w.ownsRow base' e size v n xs := by
  refine ⟨h.1, ?_⟩
  rcases h.2 with h2 | ⟨g, cap, cur, hv, hb', r⟩
  · exact .inl h2
  · exact .inr ⟨g, cap, cur, hv, by omega, r⟩
theorem own_form {w : World} {base e size n : Nat} {v : Value} {xs : List Value} (h : w.ownsRow base e size v n xs) : (v = .slice none 0 0 ∧ n = 0) ∨ ∃ g cap, v = .slice (some ⟨g, 0, none⟩) n cap := by
  rcases h.2 with h2 | ⟨g, cap, cur, hv, r⟩
  · exact .inl h2
  · exact .inr ⟨g, cap, hv⟩
theorem own_val {w : World} {base e size n : Nat} {v : Value} {xs : List Value} (h : w.ownsRow base e size v n xs) : ∃ A c, v = .slice A n c := by
  rcases own_form h with ⟨rfl, rfl⟩ | ⟨g, cap, rfl⟩
  · exact ⟨none, 0, rfl⟩
  · exact ⟨_, _, rfl⟩
theorem Ext.below {S : List Nat} {a w w' : World} {B : Nat} (h : Ext S a w) (hb : Below B w w') (hB : a.heap.size ≤ B) : Ext S a w' :=
  ⟨hb.os.trans h.os, hb.tape.trans h.tape, hb.output.trans h.output, Nat.le_trans h.size hb.size, fun k hk hn => (hb.block k (by omega)).trans (h.block k hk hn)⟩
theorem Ext.toBelow {S : List Nat} {a w : World} {B : Nat} (h : Ext S a w) (hB : B ≤ a.heap.size) (hs : ∀ k ∈ S, B ≤ k) : Below B a w :=
  ⟨h.os, h.tape, h.output, h.size, fun k hk => h.block k (by omega) fun hk2 => by have := hs k hk2; omega⟩

/-- One row of the call's own appended to another one. -/
theorem wpList_append_own2 {P : Program} (w : World) {ops : Array Oper} {rest : List Oper} {o : Oper} {a : Act} {Q : Exit → Act → World → Prop} (hgd : o.guard = none) (s x : Operand) (t : TypeId)
    (ho : o.op = .call { callee := .builtin .append, args := #[s, x], argTypes := #[t, t] })
    (base base2 : Nat) (e : TypeId) (i : TypeInfo) (z : Value) (size bytes : Nat) (ht : P.underlying t = some (.slice e)) (hi : P.info? e = some i) (hz : i.zero = some z)
    (hsize : i.size = size) (hby : i.bytes = bytes) (hzs : z.cells.size = size) (hsz : 0 < size)
    (v v2 : Value) (n m : Nat) (xs ys : List Value) (hs : a.eval s = v) (hown : w.ownsRow base e size v n xs) (hx : a.eval x = v2) (hown2 : w.ownsRow base2 e size v2 m ys) (h1 : ∀ u ∈ ys, u.oneCell' = true)
    (h63 : n + m ≤ maxLen) (hbytes : (n + m) * bytes ≤ 140737488355328) (hbase : base ≤ w.heap.size)
    (h : ∀ v' w', w'.ownsRow base e size v' (n + m) (xs ++ ys) → w.grownBy w' v.ownBlock → wpList P ops Q rest (a.put o.dst v') w') : wpList P ops Q (o :: rest) a w := by
  refine wpList_plain hgd fun K hK => ?_
  rcases own_form hown2 with ⟨rfl, rfl⟩ | ⟨g, cap, rfl⟩
  · have hy : ys = [] := List.eq_nil_of_length_eq_zero (by have := hown2.1; simpa using this)
    subst hy
    have hr := run_append_owned_none (P := P) w base t o.type e i size ht hi v n xs hown
    unfold Oper.wp execOp
    simp only [ho, resolve, invoke, builtin, Sem.run_bind, Sem.run_pure, Result.andThen_ok, List.map_toArray, List.map_cons, List.map_nil, hs, hx, hr]
    exact hK _ _ (h v w (by simpa using hown) (World.grownBy.refl w _))
  · obtain ⟨v', w', hr, h2, h3, _, _⟩ := run_append_own_at (P := P) w base t o.type e i z size bytes ht hi hz hsize hby hzs hsz v n xs hown ⟨g, 0, none⟩ m cap ys hown2.1 (hown2.cells (g := g) rfl) h1 h63 hbytes hbase
    unfold Oper.wp execOp
    simp only [ho, resolve, invoke, builtin, Sem.run_bind, Sem.run_pure, Result.andThen_ok, List.map_toArray, List.map_cons, List.map_nil, hs, hx, hr]
    exact hK _ _ (h v' w' h2 h3)

theorem sort_own (w : World) (base n : Nat) (v : Value) (l : List Int) (h : w.ownsRow base 3 1 v n (l.map (Value.int .i64))) (hn : n ≤ 1000000) (hb : base ≤ w.heap.size) :
    Calls Try.prog 33 #[v] w fun e w' => e = .returned (.tuple #[]) ∧
      ∃ l' : List Int, l'.Perm l ∧ l'.Pairwise (· ≤ ·) ∧ w'.ownsRow base 3 1 v n (l'.map (Value.int .i64)) ∧ Below base w w' := by
  rcases own_form h with ⟨rfl, rfl⟩ | ⟨g, cap, rfl⟩
  · have hl : l = [] := by have := h.1; simpa using this
    subst hl
    exact (sort_none w).mono fun e w' ⟨he, hw⟩ => by subst hw; exact ⟨he, [], List.Perm.refl _, List.Pairwise.nil, h, Below.refl _ _⟩
  · refine (sort_any w base g n cap l h hn).mono fun e w' ⟨he, l', h1, h2, h3, h4⟩ => ⟨he, l', h1, h2, h3, h4.toBelow hb fun k hk => ?_⟩
    have := h.lt g rfl
    simp at hk; omega

end Go.Proofs.Ytkckkbajaaklnaa
