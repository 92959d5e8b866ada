/- append of a text to bytes of the call's own. -/
import Derived.Test.YthedllndcibkcaaMem
import Derived.Deep.AppendSrc
namespace Go.Proofs.Ythedllndcibkcaa
open Go.RowKit
set_option linter.unusedVariables false
set_option linter.unusedSimpArgs false

theorem Blk.setCells {g : Nat} {t : TypeId} : ∀ (vs : List Value) (o : Nat) (w : World) (C : List Value), Blk w g t C → Blk (w.setCells g o vs) g t (setFrom C o vs)
  | [], _, _, _, h => h
  | v :: vs, o, w, C, h => Blk.setCells vs (o + 1) _ _ (h.set o v)
theorem Ext.setCells {S : List Nat} {a : World} {g : Nat} (hg : g ∈ S ∨ a.heap.size ≤ g) : ∀ (vs : List Value) (o : Nat) (w : World), Ext S a w → Ext S a (w.setCells g o vs)
  | [], _, _, h => h
  | v :: vs, o, w, h => Ext.setCells hg vs (o + 1) _ (h.setCell (p := ⟨g, o, none⟩) hg v)
theorem Ext.grownBy {a w : World} {row : Option Nat} {S : List Nat} (h : Ext S a w) (hs : ∀ k ∈ S, row = some k) : a.grownBy w row :=
  ⟨h.os, h.tape, h.output, h.size, fun k hk hn => h.block k hk (fun hm => hn (hs k hm).symm)⟩

theorem setFrom_take (xs us B vs : List Value) (h : us.length = vs.length) : (setFrom (xs ++ (us ++ B)) xs.length vs).take (xs.length + vs.length) = xs ++ vs := by
  rw [setFrom_mid xs B vs us xs.length h rfl, ← List.append_assoc, ← List.length_append]
  exact List.take_left
theorem setFrom_length : ∀ (vs : List Value) (C : List Value) (o : Nat), (setFrom C o vs).length = C.length
  | [], _, _ => rfl
  | v :: vs, C, o => by rw [setFrom, setFrom_length vs]; simp

/-- A text's bytes behind bytes of the call's own. -/
theorem run_append_str {P : Program} (w : World) (base : Nat) (t tx ty e : TypeId) (i : TypeInfo) (z : Value) (ht : P.underlying t = some (.slice e)) (hx : P.underlying tx = some .string) (hi : P.info? e = some i) (hz : i.zero = some z)
    (hsize : i.size = 1) (hby : i.bytes = 1) (hzs : z.cells.size = 1) (g0 n c0 : Nat) (xs : List Value) (hown : w.ownsRow base e 1 (.slice (some ⟨g0, 0, none⟩) n c0) n xs) (s : ByteArray)
    (h63 : n + s.size ≤ 100000000) (hbase : base ≤ w.heap.size) :
    ∃ g cap w', (Builtin.append_ #[t, tx] ty #[.slice (some ⟨g0, 0, none⟩) n c0, .string s]).run P w = .ok (.slice (some ⟨g, 0, none⟩) (n + s.size) cap) w' ∧
      w'.ownsRow base e 1 (.slice (some ⟨g, 0, none⟩) (n + s.size) cap) (n + s.size) (xs ++ byteCells s) ∧ w.grownBy w' (Value.slice (some ⟨g0, 0, none⟩) n c0).ownBlock ∧ ((Value.slice (some ⟨g0, 0, none⟩) n c0).ownBlock = some g ∨ g = w.heap.size) := by
  have hsrc := Src.ofString (P := P) w hx s
  have hbl := byteCells_length s
  have hxl : xs.length = n := by have := hown.1; omega
  rcases hown.2 with ⟨h, _⟩ | ⟨g, cap, cur, hv, hb, hg, hnc, hcm, hcs, htake⟩
  · cases h
  · injection hv with hv1 hv2 hv3
    injection hv1 with hv1
    injection hv1 with hv1 _
    subst hv1 hv3
    rw [Nat.mul_one] at hcs htake
    have hB : Blk w g0 e cur.toList := hg
    by_cases hroom : n + s.size ≤ c0
    · have hcl : cur.toList.length = c0 := by rw [Array.length_toList]; exact hcs
      have hr := run_append_room_src (P := P) w t tx ty e i ht hi g0 0 n c0 (.string s) s.size (byteCells s) (by rw [hsize]; exact hsrc) hroom
        (fun j hj => by
          have hlt : 0 + n * i.size + j < cur.toList.length := by rw [hsize]; omega
          rw [hB.cell (List.getElem?_eq_getElem hlt)]; rfl)
        (fun j hj => hB.free _)
      rw [hsize, Nat.mul_one, Nat.zero_add] at hr
      refine ⟨g0, c0, _, hr, ⟨by simp [hxl, hbl], .inr ⟨g0, c0, (setFrom cur.toList n (byteCells s)).toArray, rfl, hb, hB.setCells _ _ _, hroom, hcm, by simp [setFrom_length, hcs], ?_⟩⟩, ((Ext.refl [g0] w).setCells (.inl (by simp)) _ _).grownBy (by simp [Value.ownBlock]), .inl rfl⟩
      have e1 : cur.toList = xs ++ ((cur.toList.drop n).take s.size ++ (cur.toList.drop n).drop s.size) := by rw [List.take_append_drop, ← htake, List.take_append_drop]
      have e2 : ((cur.toList.drop n).take s.size).length = (byteCells s).length := by rw [hbl, List.length_take, List.length_drop]; omega
      rw [Nat.mul_one]
      show (setFrom cur.toList n (byteCells s)).take (n + s.size) = _
      rw [e1, ← hxl, ← hbl]
      rw [hxl, hbl] 
      have := setFrom_take xs ((cur.toList.drop n).take s.size) ((cur.toList.drop n).drop s.size) (byteCells s) e2
      rw [hxl, hbl] at this
      exact this
    · have hold : (Builtin.firstCells i.size n (.slice (some ⟨g0, 0, none⟩) n c0)).run P w.drew = .ok xs.toArray w.drew := by
        rw [hsize]
        have := run_loadCells_list (P := P) w.drew ⟨g0, 0, none⟩ xs (fun j u hu => hown.cells (g := g0) rfl j u hu)
        simpa [Builtin.firstCells, hxl] using this
      have hr := run_append_grow_src (P := P) w t tx ty e i z ht hi hz (some ⟨g0, 0, none⟩) n c0 xs hold (.string s) s.size (byteCells s) (by rw [hsize]; exact hsrc) (by omega) (by omega) (growslice_fits (by omega) (by rw [hby]; omega))
      have hge := grownCap_ge w (n + s.size) c0 e
      refine ⟨w.heap.size, _, _, hr, ⟨by simp [hxl, hbl], .inr ⟨w.heap.size, _, _, rfl, hbase, heap_alloc_new w.drew _, hge, grownCap_le_maxLen w (n + s.size) c0 e (by unfold maxLen; omega), ?_, ?_⟩⟩, ⟨rfl, rfl, rfl, by simp, fun k hk _ => Below.heap_alloc w.drew _ _ hk⟩, .inr rfl⟩
      · simp only [Array.size_append, List.size_toArray, List.length_append, size_zeroCells, hzs, hxl, hbl]; omega
      · simp only [Array.toList_append, Nat.mul_one]
        rw [← hxl, ← hbl, ← List.length_append]
        exact List.take_left

theorem step_append_str {P : Program} {ops : Array Oper} {o : Oper} {a : Act} {w : World} {K : Act → World → Prop} {Q : Exit → Act → World → Prop} {E : Prop} (hgd : o.guard = none) (s x : Operand) (t tx : TypeId)
    (ho : o.op = .call { callee := .builtin .append, args := #[s, x], argTypes := #[t, tx] })
    (base : Nat) (e : TypeId) (i : TypeInfo) (z : Value) (ht : P.underlying t = some (.slice e)) (hxt : P.underlying tx = some .string) (hi : P.info? e = some i) (hz : i.zero = some z)
    (hsize : i.size = 1) (hby : i.bytes = 1) (hzs : z.cells.size = 1) (g0 n c0 : Nat) (xs : List Value) (hs : a.eval s = .slice (some ⟨g0, 0, none⟩) n c0) (hown : w.ownsRow base e 1 (.slice (some ⟨g0, 0, none⟩) n c0) n xs)
    (sv : ByteArray) (hx : a.eval x = .string sv) (h63 : n + sv.size ≤ 100000000) (hbase : base ≤ w.heap.size)
    (h : ∀ g cap w', w'.ownsRow base e 1 (.slice (some ⟨g, 0, none⟩) (n + sv.size) cap) (n + sv.size) (xs ++ byteCells sv) → w.grownBy w' (Value.slice (some ⟨g0, 0, none⟩) n c0).ownBlock → ((Value.slice (some ⟨g0, 0, none⟩) n c0).ownBlock = some g ∨ g = w.heap.size) → K (a.put o.dst (.slice (some ⟨g, 0, none⟩) (n + sv.size) cap)) w') :
    if Region.wanted o (yielded ops a.tmps) = true then Oper.wp P o a w K Q else E := by
  have hw : Region.wanted o (yielded ops a.tmps) = true := by simp [Region.wanted, hgd]
  rw [if_pos hw]
  obtain ⟨g, cap, w', hr, h2, h3, h4⟩ := run_append_str (P := P) w base t tx o.type e i z ht hxt hi hz hsize hby hzs g0 n c0 xs hown sv h63 hbase
  unfold Oper.wp execOp
  simp only [ho, resolve, invoke, builtin, Sem.run_bind, Sem.run_pure, Result.andThen_ok, List.map_toArray, List.map_cons, List.map_nil, hs, hx, hr]
  exact h g cap w' h2 h3 h4

end Go.Proofs.Ythedllndcibkcaa
