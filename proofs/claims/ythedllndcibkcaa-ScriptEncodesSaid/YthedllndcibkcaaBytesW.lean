/- bytes: a step's bytes, if it has such. -/
import Derived.Test.YthedllndcibkcaaBytesP
import Derived.Test.YthedllndcibkcaaAppStr
namespace Go.Proofs.Ythedllndcibkcaa
open Go.RowKit
set_option linter.unusedVariables false
set_option linter.unusedSimpArgs false

theorem bnumber_any (w0 w : World) (base sb pk po b : Nat) (x : St) (out : List Int) (ok : Bool) (hk : kindB x.k = true) (h : BW w0 w base sb pk po b x out ok) (hb : b ≤ 1000) :
    Calls Try.prog 15 #[.pointer (some ⟨sb, 0, none⟩), .func (.func 23) #[] #[.pointer (some ⟨pk, 0, none⟩), .pointer (some ⟨po, 0, none⟩)]] w fun e w' => e = .returned (.tuple #[]) ∧
      BW w0 w' base sb pk po (b + 8) (runB (fieldsOf x.k) (x, out, ok)).1 (runB (fieldsOf x.k) (x, out, ok)).2.1 (runB (fieldsOf x.k) (x, out, ok)).2.2 := by
  have hn := nine hk
  generalize hkk : x.k = k at hn hk ⊢
  rcases hn with rfl | rfl | rfl | rfl | rfl | rfl | rfl | rfl | rfl | rfl | rfl | rfl | rfl | rfl | rfl | rfl | rfl | rfl | rfl
  · exact bnumber_1 w0 w base sb pk po b x out ok hkk h hb
  · exact bnumber_2 w0 w base sb pk po b x out ok hkk h hb
  · exact bnumber_3 w0 w base sb pk po b x out ok hkk h hb
  · exact bnumber_4 w0 w base sb pk po b x out ok hkk h hb
  · exact bnumber_5 w0 w base sb pk po b x out ok hkk h hb
  · exact bnumber_6 w0 w base sb pk po b x out ok hkk h hb
  · exact bnumber_7 w0 w base sb pk po b x out ok hkk h hb
  · exact bnumber_8 w0 w base sb pk po b x out ok hkk h hb
  · exact bnumber_9 w0 w base sb pk po b x out ok hkk h hb
  · exact bnumber_10 w0 w base sb pk po b x out ok hkk h hb
  · exact bnumber_11 w0 w base sb pk po b x out ok hkk h hb
  · exact bnumber_12 w0 w base sb pk po b x out ok hkk h hb
  · exact bnumber_13 w0 w base sb pk po b x out ok hkk h hb
  · exact bnumber_14 w0 w base sb pk po b x out ok hkk h hb
  · exact bnumber_15 w0 w base sb pk po b x out ok hkk h hb
  · exact bnumber_16 w0 w base sb pk po b x out ok hkk h hb
  · exact bnumber_17 w0 w base sb pk po b x out ok hkk h hb
  · exact bnumber_18 w0 w base sb pk po b x out ok hkk h hb
  · exact bnumber_19 w0 w base sb pk po b x out ok hkk h hb

theorem runBk : ∀ (l : List (Nat × Nat)) (s : St × List Int × Bool), (∀ q ∈ l, q.1 ≠ 0 ∧ q.1 < 8) → (runB l s).1.k = s.1.k ∧ (runB l s).1.v = s.1.v
  | [], s, _ => ⟨rfl, rfl⟩
  | q :: l, s, h => by
    show (runB l (s.1.put q.1 0, _, _)).1.k = _ ∧ (runB l (s.1.put q.1 0, _, _)).1.v = _
    have ih := runBk l (s.1.put q.1 0, s.2.1 ++ encB q.2 (s.1.get q.1), s.2.2 && inr q.2 (s.1.get q.1)) (fun q' hq' => h q' (by simp [hq']))
    rw [ih.1, ih.2]
    have hq := h q (by simp)
    obtain ⟨f, wd⟩ := q
    simp only at hq
    have : f = 1 ∨ f = 2 ∨ f = 3 ∨ f = 4 ∨ f = 5 ∨ f = 6 ∨ f = 7 := by omega
    rcases this with rfl | rfl | rfl | rfl | rfl | rfl | rfl <;> exact ⟨rfl, rfl⟩

theorem guard38 (op : BinOp) (x y : Operand) (xs ys : Array Value) (w : World) : (eqGuard op 38 x y (.agg xs) (.agg ys)).run Try.prog w = .ok () w := run_eqGuard_agg w op 38 x y xs ys (by kernel_rfl)
set_option maxHeartbeats 1000000 in
theorem eql38 (a0 a1 a2 a3 a4 a5 a6 a7 b0 b1 b2 b3 b4 b5 b6 b7 : Int) (a8 b8 : ByteArray) (w : World) :
    (binOp .eql 38 (.agg #[.int .i64 a0, .int .i64 a1, .int .i64 a2, .int .i64 a3, .int .i64 a4, .int .i64 a5, .int .i64 a6, .int .i64 a7, .string a8]) (.agg #[.int .i64 b0, .int .i64 b1, .int .i64 b2, .int .i64 b3, .int .i64 b4, .int .i64 b5, .int .i64 b6, .int .i64 b7, .string b8])).run Try.prog w =
      .ok (.bool (stB ⟨a0, a1, a2, a3, a4, a5, a6, a7, a8⟩ ⟨b0, b1, b2, b3, b4, b5, b6, b7, b8⟩)) w := by
  have u3 := Try.underlying3
  have u9 := Try.underlying9
  have i3 := Try.isAgg3
  have z3 := Try.sizeOf3
  have i9 := Try.isAgg9
  have z9 := Try.sizeOf9
  have hS : Try.prog.underlying 38 = some (.struct (Try.prog.fieldsOf 38)) := by kernel_rfl
  have hp : Try.prog.stoodInHeld 38 = false := by kernel_rfl
  rw [run_eql_struct, show (10000 : Nat) = 9999 + 1 from rfl, run_equalIn_agg w 9999 38 _ _ hS hp]
  simp only [Program.fieldsOf, Try.underlying38]
  unfold stB
  go_simp
  by_cases h0 : a0 = b0
  · by_cases h1 : a1 = b1
    · by_cases h2 : a2 = b2
      · by_cases h3 : a3 = b3
        · by_cases h4 : a4 = b4
          · by_cases h5 : a5 = b5
            · by_cases h6 : a6 = b6
              · by_cases h7 : a7 = b7
                · by_cases h8 : a8.toList = b8.toList <;> simp [h0, h1, h2, h3, h4, h5, h6, h7, h8]
                · simp [h0, h1, h2, h3, h4, h5, h6, h7]
              · simp [h0, h1, h2, h3, h4, h5, h6]
            · simp [h0, h1, h2, h3, h4, h5]
          · simp [h0, h1, h2, h3, h4]
        · simp [h0, h1, h2, h3]
      · simp [h0, h1, h2]
    · simp [h0, h1]
  · simp [h0]

def PBPost (x : St) (w : World) (e : Ending) (w' : World) : Prop :=
  ∃ A n c, e = .returned (.tuple #[.slice A n c, .bool (pOk x)]) ∧ Ext [] w w' ∧ (pOk x = true → n = (pOut x).length ∧ w'.ownsRow w.heap.size 5 1 (.slice A n c) n ((pOut x).map (.int .u8)))

set_option maxHeartbeats 1000000 in
theorem pbytes_none (x : St) (w : World) (h : kindB x.k = false) : Calls Try.prog 21 #[.agg x.cells.toArray] w (PBPost x w) := by
  obtain ⟨k, n, t, p, s, o, c, m, v⟩ := x
  simp only at h
  have hok : pOk ⟨k, n, t, p, s, o, c, m, v⟩ = false := by simp [pOk, h]
  have HOK := Lib.hid hok
  have HK := Lib.hid h
  simp only [St.cells]
  clear h hok
  go_enter Try.func21, Try.ntmps21
  go_wp2_with (go_at_call 14; refine (kind_is k _ HK.out).mono ?_; rintro e w' ⟨rfl, rfl⟩)
  go_ret2
  exact ⟨none, 0, 0, by rw [HOK.out]; rfl, (Ext.refl _ _).alloc _, fun hh => by rw [HOK.out] at hh; cases hh⟩

theorem own_blk {w : World} {base g t size n : Nat} {C : List Value} (h : Blk w g t C) (hb : base ≤ g) (hl : C.length = n * size) (hm : n ≤ maxLen) : w.ownsRow base t size (.slice (some ⟨g, 0, none⟩) n n) n C :=
  ⟨hl, .inr ⟨g, n, C.toArray, rfl, hb, h, Nat.le_refl _, hm, by simpa using hl, by rw [← hl]; exact List.take_length⟩⟩

/-- Between the two appends. -/
structure BA (w0 w : World) (base sb pk po : Nat) (x : St) (A : Option Addr) (c : Nat) (out : List Int) (ok : Bool) (V : Value) (L : List Value) (n : Nat) : Prop where
  hs : Blk w sb 38 x.cells
  hk : Blk w pk 4 [.bool ok]
  ho : Blk w po 29 [.slice A out.length c]
  own : w.ownsRow base 5 1 V n L
  ext : Ext [] w0 w
  n1 : w0.heap.size ≤ sb
  n2 : w0.heap.size ≤ pk
  n3 : w0.heap.size ≤ po
  nb : w0.heap.size ≤ base
  lb : base ≤ w.heap.size
  far : ∀ k, V.ownBlock = some k → k ≠ sb ∧ k ≠ pk ∧ k ≠ po
theorem BA.go {w0 w w' : World} {base sb pk po n : Nat} {x : St} {A : Option Addr} {c : Nat} {out : List Int} {ok : Bool} {V : Value} {L : List Value} (h : BA w0 w base sb pk po x A c out ok V L n) (e : Ext [] w w') : BA w0 w' base sb pk po x A c out ok V L n :=
  ⟨h.hs.ext e (by simp), h.hk.ext e (by simp), h.ho.ext e (by simp), own_ext h.own e (by simp), h.ext.trans e, h.n1, h.n2, h.n3, h.nb, by have := e.size; have := h.lb; omega, h.far⟩
theorem BA.mk1 {w0 w w1 : World} {base sb pk po n : Nat} {x : St} {A : Option Addr} {c : Nat} {out : List Int} {ok : Bool} (h : BS w0 w base sb pk po x A c out ok) {g cap : Nat} {L : List Value}
    (hown : w1.ownsRow base 5 1 (.slice (some ⟨g, 0, none⟩) n cap) n L) (hg : w.grownBy w1 (Value.slice A out.length c).ownBlock) (hat : (Value.slice A out.length c).ownBlock = some g ∨ g = w.heap.size) :
    BA w0 w1 base sb pk po x A c out ok (.slice (some ⟨g, 0, none⟩) n cap) L n := by
  have hr := h.far
  have l1 := h.hs.lt
  have l2 := h.hk.lt
  have l3 := h.ho.lt
  have hgf : g ≠ sb ∧ g ≠ pk ∧ g ≠ po := by
    rcases hat with hat | hat
    · exact hr g hat
    · omega
  exact ⟨h.hs.grown hg (fun he => (hr _ he).1 rfl), h.hk.grown hg (fun he => (hr _ he).2.1 rfl), h.ho.grown hg (fun he => (hr _ he).2.2 rfl), hown, h.ext.grown hg (fun k hk hlt => by have := h.own.lt k hk; have := h.nb; omega), h.n1, h.n2, h.n3, h.nb, by have := h.lb; have := hg.size; omega, by
    intro k hk
    have : g = k := by simpa [Value.ownBlock] using hk
    subst this; exact hgf⟩
theorem BA.mk2 {w0 w w1 : World} {base sb pk po n m : Nat} {x : St} {A : Option Addr} {c : Nat} {out : List Int} {ok : Bool} {V : Value} {L L2 : List Value} (h : BA w0 w base sb pk po x A c out ok V L n) {g cap : Nat}
    (hown : w1.ownsRow base 5 1 (.slice (some ⟨g, 0, none⟩) m cap) m L2) (hg : w.grownBy w1 V.ownBlock) (hat : V.ownBlock = some g ∨ g = w.heap.size) :
    BA w0 w1 base sb pk po x A c out ok (.slice (some ⟨g, 0, none⟩) m cap) L2 m := by
  have hr := h.far
  have l1 := h.hs.lt
  have l2 := h.hk.lt
  have l3 := h.ho.lt
  have hgf : g ≠ sb ∧ g ≠ pk ∧ g ≠ po := by
    rcases hat with hat | hat
    · exact hr g hat
    · omega
  exact ⟨h.hs.grown hg (fun he => (hr _ he).1 rfl), h.hk.grown hg (fun he => (hr _ he).2.1 rfl), h.ho.grown hg (fun he => (hr _ he).2.2 rfl), hown, h.ext.grown hg (fun k hk hlt => by have := h.own.lt k hk; have := h.nb; omega), h.n1, h.n2, h.n3, h.nb, by have := h.lb; have := hg.size; omega, by
    intro k hk
    have : g = k := by simpa [Value.ownBlock] using hk
    subst this; exact hgf⟩
/-- The bytes are stored. -/
structure BF (w0 w : World) (base sb pk po : Nat) (x : St) (ok : Bool) (V : Value) (L : List Value) (n : Nat) : Prop where
  hs : Blk w sb 38 x.cells
  hk : Blk w pk 4 [.bool ok]
  ho : Blk w po 29 [V]
  own : w.ownsRow base 5 1 V n L
  ext : Ext [] w0 w
  n1 : w0.heap.size ≤ sb
  nb : w0.heap.size ≤ base
  far : ∀ k, V.ownBlock = some k → k ≠ sb ∧ k ≠ pk ∧ k ≠ po
theorem BF.ne {w0 w : World} {base sb pk po n : Nat} {x : St} {ok : Bool} {V : Value} {L : List Value} (h : BF w0 w base sb pk po x ok V L n) : sb ≠ pk ∧ sb ≠ po ∧ pk ≠ po :=
  ⟨h.hs.apart h.hk (by decide), h.hs.apart h.ho (by decide), h.hk.apart h.ho (by decide)⟩
theorem BA.fin {w0 w : World} {base sb pk po n : Nat} {x : St} {A : Option Addr} {c : Nat} {out : List Int} {ok : Bool} {V : Value} {L : List Value} (h : BA w0 w base sb pk po x A c out ok V L n) :
    BF w0 (w.setCell ⟨po, 0, none⟩ V) base sb pk po x ok V L n :=
  ⟨h.hs.far (p := ⟨po, 0, none⟩) (h.hs.apart h.ho (by decide)) _, h.hk.far (p := ⟨po, 0, none⟩) (h.hk.apart h.ho (by decide)) _, h.ho.set 0 _, own_ext3 h.own ((Ext.refl [po] _).setCell (.inl (by simp)) _) (by intro k hk he; simp at hk; subst hk; exact (h.far _ he).2.2 rfl), h.ext.setCell (.inr h.n3) _, h.n1, h.nb, h.far⟩
theorem BF.setv {w0 w : World} {base sb pk po n : Nat} {x : St} {ok : Bool} {V : Value} {L : List Value} (h : BF w0 w base sb pk po x ok V L n) (s : ByteArray) : BF w0 (w.setCell ⟨sb, 8, none⟩ (.string s)) base sb pk po { x with v := s } ok V L n :=
  ⟨h.hs.set 8 _, h.hk.far (p := ⟨sb, 8, none⟩) (Ne.symm h.ne.1) _, h.ho.far (p := ⟨sb, 8, none⟩) (Ne.symm h.ne.2.1) _, own_ext3 h.own ((Ext.refl [sb] _).setCell (.inl (by simp)) _) (by intro k hk he; simp at hk; subst hk; exact (h.far _ he).1 rfl), h.ext.setCell (.inr h.n1) _, h.n1, h.nb, h.far⟩
theorem byteCells_nums (s : ByteArray) : byteCells s = (nums s).map (.int .u8) := by unfold byteCells nums; rw [List.map_map]; rfl
theorem pb_end {x : St} {w w1 w' : World} {base sb pk po n g cap : Nat} {y : St} {ok q : Bool} {sz : Int} {r : List Int} {xv : ByteArray} {e : Ending} (hq : pOk x = q) (ho : pOut x = r ++ [sz] ++ nums xv)
    (h : BF w w1 base sb pk po y ok (.slice (some ⟨g, 0, none⟩) n cap) ((r.map (.int .u8) ++ [.int .u8 sz]) ++ byteCells xv) n) (he : e = .returned (.tuple #[.slice (some ⟨g, 0, none⟩) n cap, .bool q])) (hx : Ext [] w1 w') (hn : n = r.length + 1 + xv.size) :
    PBPost x w e w' := by
  refine ⟨some ⟨g, 0, none⟩, n, cap, by rw [hq]; exact he, h.ext.trans hx, fun _ => ?_⟩
  rw [ho]
  refine ⟨by simp [nums_length, hn]; omega, ?_⟩
  have e1 : (r ++ [sz] ++ nums xv).map (Value.int .u8) = (r.map (.int .u8) ++ [.int .u8 sz]) ++ byteCells xv := by rw [byteCells_nums]; simp
  rw [e1]
  exact own_more (own_ext h.own hx (by simp)) h.nb

set_option maxRecDepth 100000 in
set_option maxHeartbeats 8000000 in
theorem pbytes_else (x : St) (w : World) (h : kindB x.k = true) (h3 : x.k ≠ 3) (hv : x.v.size ≤ 1000) : Calls Try.prog 21 #[.agg x.cells.toArray] w (PBPost x w) := by
  obtain ⟨k, n, t, p, s, o, c, m, v⟩ := x
  simp only at h h3 hv
  have hkr := (kindB_iff _).1 h
  have hw8 : IntKind.u8.wrap k = k := wrapu8 (by omega) (by omega)
  have HK := Lib.hid h
  have hmf : ∀ (fn : Fn) (first cap : Array Value) (w : World), (Instr.makeFunc fn first cap).run Try.prog w = .ok (.func fn first cap) w := fun _ _ _ _ => rfl
  obtain ⟨po_, hpo⟩ : ∃ q, pOk ⟨k, n, t, p, s, o, c, m, v⟩ = q := ⟨_, rfl⟩
  have HPO := Lib.hid hpo
  simp only [St.cells]
  clear h hpo
  go_enter Try.func21, Try.ntmps21
  go_wp2_with (first
    | (go_at_call 14; refine (kind_is k _ HK.out).mono ?_; rintro e w' ⟨rfl, rfl⟩)
    | (go_at_call 15; fail))
  have b0 := Blk.new w 38 [.int .i64 k, .int .i64 n, .int .i64 t, .int .i64 p, .int .i64 s, .int .i64 o, .int .i64 c, .int .i64 m, .string v]
  have b1 := Blk.new (w.alloc (.cells #[.int .i64 k, .int .i64 n, .int .i64 t, .int .i64 p, .int .i64 s, .int .i64 o, .int .i64 c, .int .i64 m, .string v] 38)) 5 [.int .u8 k]
  have b2 := Blk.new ((w.alloc (.cells #[.int .i64 k, .int .i64 n, .int .i64 t, .int .i64 p, .int .i64 s, .int .i64 o, .int .i64 c, .int .i64 m, .string v] 38)).alloc (.cells #[.int .u8 k] 5)) 29 [.slice (some ⟨w.heap.size + 1, 0, none⟩) 1 1]
  have b3 := Blk.new (((w.alloc (.cells #[.int .i64 k, .int .i64 n, .int .i64 t, .int .i64 p, .int .i64 s, .int .i64 o, .int .i64 c, .int .i64 m, .string v] 38)).alloc (.cells #[.int .u8 k] 5)).alloc (.cells #[.slice (some ⟨w.heap.size + 1, 0, none⟩) 1 1] 29)) 4 [.bool true]
  simp only [World.size_alloc] at b1 b2 b3
  have hbw : BW w ((((w.alloc (.cells #[.int .i64 k, .int .i64 n, .int .i64 t, .int .i64 p, .int .i64 s, .int .i64 o, .int .i64 c, .int .i64 m, .string v] 38)).alloc (.cells #[.int .u8 k] 5)).alloc (.cells #[.slice (some ⟨w.heap.size + 1, 0, none⟩) 1 1] 29)).alloc (.cells #[.bool true] 4)) (w.heap.size + 1) w.heap.size (w.heap.size + 1 + 1 + 1) (w.heap.size + 1 + 1) 1 ⟨k, n, t, p, s, o, c, m, v⟩ [k] true :=
    ⟨some ⟨w.heap.size + 1, 0, none⟩, 1, ⟨((b0.alloc _).alloc _).alloc _, b3, b2.alloc _, own_blk ((b1.alloc _).alloc _) (Nat.le_refl _) rfl (by unfold maxLen; simp), ((((Ext.refl _ w).alloc _).alloc _).alloc _).alloc _, Nat.le_refl _, by omega, by omega, by omega, by simp, by intro k hk; simp [Value.ownBlock] at hk; omega⟩, by simp⟩
  have HBW := Lib.hid hbw
  clear b0 b1 b2 b3 hbw
  refine (bnumber_any w _ _ _ _ _ 1 _ _ _ HK.out HBW.out (by omega)).mono ?_
  rintro e w1 ⟨rfl, hd⟩
  obtain ⟨q, hq⟩ : ∃ q, runB (fieldsOf k) (⟨k, n, t, p, s, o, c, m, v⟩, [k], true) = q := ⟨_, rfl⟩
  have hkk := runBk (fieldsOf k) (⟨k, n, t, p, s, o, c, m, v⟩, [k], true) (fields_ok _)
  rw [show (St.mk k n t p s o c m v).k = k from rfl, hq] at hd
  rw [hq] at hkk
  obtain ⟨⟨xk, xn, xt, xp, xs, xo, xc, xm, xv⟩, r, o3⟩ := q
  obtain ⟨e1, e2⟩ := hkk
  simp only at e1 e2
  subst e1 e2
  have HQ := Lib.hid hq
  obtain ⟨A, c1, hs, hl⟩ := hd
  simp only at hs hl
  have HS := Lib.hid hs
  clear hs hq
  have x0 := HS.out.hs.cell (k := 0) rfl
  have x1 := HS.out.hs.cell (k := 1) rfl
  have x2 := HS.out.hs.cell (k := 2) rfl
  have x3 := HS.out.hs.cell (k := 3) rfl
  have x4 := HS.out.hs.cell (k := 4) rfl
  have x5 := HS.out.hs.cell (k := 5) rfl
  have x6 := HS.out.hs.cell (k := 6) rfl
  have x7 := HS.out.hs.cell (k := 7) rfl
  have x8 := HS.out.hs.cell (k := 8) rfl
  have k0 := HS.out.hk.cell (k := 0) rfl
  have o0 := HS.out.ho.cell (k := 0) rfl
  have hk3 : (xk == 3) = false := by simpa using h3
  have hgd := guard38
  have heq := eql38 xk xn xt xp xs xo xc xm xk 0 0 0 0 0 0 0 xv ⟨#[]⟩
  generalize hsb : stB ⟨xk, xn, xt, xp, xs, xo, xc, xm, xv⟩ ⟨xk, 0, 0, 0, 0, 0, 0, 0, ⟨#[]⟩⟩ = sb at heq
  have HSB := Lib.hid hsb
  clear hsb
  have hok : pOk ⟨xk, n, t, p, s, o, c, m, xv⟩ = (o3 && sb) := by
    unfold pOk pq
    rw [if_neg h3, HK.out, hw8, HQ.out, Bool.true_and]
    exact congrArg (o3 && ·) HSB.out
  have hout : pOut ⟨xk, n, t, p, s, o, c, m, xv⟩ = r := by
    unfold pOut pq
    rw [if_neg h3, hw8, HQ.out]
  have HOUT := Lib.hid hout
  have HOK := Lib.hid hok
  have E0 := HS.out.ext
  have O0 := own_more (base' := w.heap.size) HS.out.own (by omega)
  have HE := Lib.hid E0
  have HO := Lib.hid O0
  clear hok hout E0 O0
  cases o3 with
  | true =>
    go_wp2
    go_quiet (fail)
    go_wp2
    go_ret2
    exact ⟨A, r.length, c1, by rw [HOK.out]; rfl, HE.out.drewN _, fun _ => by rw [HOUT.out]; exact ⟨rfl, own_ext HO.out ((Ext.refl [] _).drewN _) (by simp)⟩⟩
  | false =>
    go_wp2
    go_quiet (fail)
    go_wp2
    go_ret2
    exact ⟨A, r.length, c1, by rw [HOK.out]; rfl, HE.out.drewN _, fun _ => by rw [HOUT.out]; exact ⟨rfl, own_ext HO.out ((Ext.refl [] _).drewN _) (by simp)⟩⟩


set_option maxRecDepth 100000 in
set_option maxHeartbeats 8000000 in
theorem pbytes_text (x : St) (w : World) (h : kindB x.k = true) (h3 : x.k = 3) (hv : x.v.size ≤ 1000) : Calls Try.prog 21 #[.agg x.cells.toArray] w (PBPost x w) := by
  obtain ⟨k, n, t, p, s, o, c, m, v⟩ := x
  simp only at h h3 hv
  subst h3
  have hkr := (kindB_iff _).1 h
  have hw8 : IntKind.u8.wrap 3 = 3 := wrapu8 (by omega) (by omega)
  have HK := Lib.hid h
  have hmf : ∀ (fn : Fn) (first cap : Array Value) (w : World), (Instr.makeFunc fn first cap).run Try.prog w = .ok (.func fn first cap) w := fun _ _ _ _ => rfl
  obtain ⟨po_, hpo⟩ : ∃ q, pOk ⟨3, n, t, p, s, o, c, m, v⟩ = q := ⟨_, rfl⟩
  have HPO := Lib.hid hpo
  simp only [St.cells]
  clear h hpo
  go_enter Try.func21, Try.ntmps21
  go_wp2_with (first
    | (go_at_call 14; refine (kind_is 3 _ HK.out).mono ?_; rintro e w' ⟨rfl, rfl⟩)
    | (go_at_call 15; fail))
  have b0 := Blk.new w 38 [.int .i64 3, .int .i64 n, .int .i64 t, .int .i64 p, .int .i64 s, .int .i64 o, .int .i64 c, .int .i64 m, .string v]
  have b1 := Blk.new (w.alloc (.cells #[.int .i64 3, .int .i64 n, .int .i64 t, .int .i64 p, .int .i64 s, .int .i64 o, .int .i64 c, .int .i64 m, .string v] 38)) 5 [.int .u8 3]
  have b2 := Blk.new ((w.alloc (.cells #[.int .i64 3, .int .i64 n, .int .i64 t, .int .i64 p, .int .i64 s, .int .i64 o, .int .i64 c, .int .i64 m, .string v] 38)).alloc (.cells #[.int .u8 3] 5)) 29 [.slice (some ⟨w.heap.size + 1, 0, none⟩) 1 1]
  have b3 := Blk.new (((w.alloc (.cells #[.int .i64 3, .int .i64 n, .int .i64 t, .int .i64 p, .int .i64 s, .int .i64 o, .int .i64 c, .int .i64 m, .string v] 38)).alloc (.cells #[.int .u8 3] 5)).alloc (.cells #[.slice (some ⟨w.heap.size + 1, 0, none⟩) 1 1] 29)) 4 [.bool true]
  simp only [World.size_alloc] at b1 b2 b3
  have hbw : BW w ((((w.alloc (.cells #[.int .i64 3, .int .i64 n, .int .i64 t, .int .i64 p, .int .i64 s, .int .i64 o, .int .i64 c, .int .i64 m, .string v] 38)).alloc (.cells #[.int .u8 3] 5)).alloc (.cells #[.slice (some ⟨w.heap.size + 1, 0, none⟩) 1 1] 29)).alloc (.cells #[.bool true] 4)) (w.heap.size + 1) w.heap.size (w.heap.size + 1 + 1 + 1) (w.heap.size + 1 + 1) 1 ⟨3, n, t, p, s, o, c, m, v⟩ [3] true :=
    ⟨some ⟨w.heap.size + 1, 0, none⟩, 1, ⟨((b0.alloc _).alloc _).alloc _, b3, b2.alloc _, own_blk ((b1.alloc _).alloc _) (Nat.le_refl _) rfl (by unfold maxLen; simp), ((((Ext.refl _ w).alloc _).alloc _).alloc _).alloc _, Nat.le_refl _, by omega, by omega, by omega, by simp, by intro k hk; simp [Value.ownBlock] at hk; omega⟩, by simp⟩
  have HBW := Lib.hid hbw
  clear b0 b1 b2 b3 hbw
  refine (bnumber_any w _ _ _ _ _ 1 _ _ _ HK.out HBW.out (by omega)).mono ?_
  rintro e w1 ⟨rfl, hd⟩
  obtain ⟨q, hq⟩ : ∃ q, runB (fieldsOf 3) (⟨3, n, t, p, s, o, c, m, v⟩, [3], true) = q := ⟨_, rfl⟩
  have hkk := runBk (fieldsOf 3) (⟨3, n, t, p, s, o, c, m, v⟩, [3], true) (fields_ok _)
  rw [show (St.mk 3 n t p s o c m v).k = 3 from rfl, hq] at hd
  rw [hq] at hkk
  obtain ⟨⟨xk, xn, xt, xp, xs, xo, xc, xm, xv⟩, r, o3⟩ := q
  obtain ⟨e1, e2⟩ := hkk
  simp only at e1 e2
  subst e1 e2
  have HQ := Lib.hid hq
  obtain ⟨A, c1, hs, hl⟩ := hd
  simp only at hs hl
  have HS := Lib.hid hs
  clear hs hq
  have x0 := HS.out.hs.cell (k := 0) rfl
  have x1 := HS.out.hs.cell (k := 1) rfl
  have x2 := HS.out.hs.cell (k := 2) rfl
  have x3 := HS.out.hs.cell (k := 3) rfl
  have x4 := HS.out.hs.cell (k := 4) rfl
  have x5 := HS.out.hs.cell (k := 5) rfl
  have x6 := HS.out.hs.cell (k := 6) rfl
  have x7 := HS.out.hs.cell (k := 7) rfl
  have x8 := HS.out.hs.cell (k := 8) rfl
  have k0 := HS.out.hk.cell (k := 0) rfl
  have o0 := HS.out.ho.cell (k := 0) rfl
  have hrl : 0 < r.length := by
    have h := HQ.out
    rw [runB_app] at h
    have h2 := congrArg (fun z => z.2.1) h
    simp only at h2
    rw [← h2]; simp
  obtain ⟨g, rfl, _, _⟩ := own_some HS.out.own hrl
  have hgd := guard38
  have heq := eql38 3 xn xt xp xs xo xc xm 3 0 0 0 0 0 0 0 ⟨#[]⟩ ⟨#[]⟩
  generalize hsb : stB ⟨3, xn, xt, xp, xs, xo, xc, xm, ⟨#[]⟩⟩ ⟨3, 0, 0, 0, 0, 0, 0, 0, ⟨#[]⟩⟩ = sb at heq
  have HSB := Lib.hid hsb
  clear hsb
  obtain ⟨sz, hsz⟩ : ∃ z, IntKind.u8.wrap (xv.size : Int) = z := ⟨_, rfl⟩
  have hok : pOk ⟨3, n, t, p, s, o, c, m, xv⟩ = ((o3 && decide (xv.size < 256)) && sb) := by
    unfold pOk pq
    rw [if_pos rfl, HK.out, hw8, HQ.out, Bool.true_and]
    exact congrArg ((o3 && decide (xv.size < 256)) && ·) HSB.out
  have hout : pOut ⟨3, n, t, p, s, o, c, m, xv⟩ = r ++ [sz] ++ nums xv := by
    unfold pOut pq
    rw [if_pos rfl, hw8, HQ.out, hsz]
  have HOUT := Lib.hid hout
  have HOK := Lib.hid hok
  have f8 := HS.out.hs.free 8
  have fk := HS.out.hk.free 0
  obtain ⟨i0, hi, hz0, hz1, hz2⟩ := info_parts info5
  clear hok hout
  cases o3 with
  | true =>
    by_cases hbig : xv.size < 256
    · have hbig' : decide ((xv.size : Int) < 256) = true := decide_eq_true (by omega)
      have HOKS : Hid (pOk ⟨3, n, t, p, s, o, c, m, xv⟩ = sb) := Lib.hid (by rw [HOK.out]; simp [hbig])
      have HS2 := Lib.hid (HS.out.setk true)
      go_wp2
      clear x0 x1 x2 x3 x4 x5 x6 x7 x8 k0 o0 f8 fk
      generalize w1.setCell ⟨w.heap.size + 1 + 1 + 1, 0, none⟩ (.bool true) = w2 at *
      have x8 := HS2.out.hs.cell (k := 8) rfl
      have o0 := HS2.out.ho.cell (k := 0) rfl
      have hlb := HS2.out.lb
      have HX := Lib.hid ((HS2.out.go ((Ext.refl [] _).alloc (.cells #[.int .u8 sz] 5))).go ((Ext.refl _ _).drew))
      have x8a := (HS2.out.go ((Ext.refl [] w2).alloc (.cells #[.int .u8 sz] 5))).hs.cell (k := 8) rfl
      have o0a := (HS2.out.go ((Ext.refl [] w2).alloc (.cells #[.int .u8 sz] 5))).ho.cell (k := 0) rfl
      go_region_law (first
        | (refine step_append_lies _ (by rfl) (.tmp 26) (.tmp 31) 29 (by rfl) (w.heap.size + 1) 5 i0 (.int .u8 0) 1 1 Try.underlying29 hi hz0 hz1 hz2 rfl (by decide) _ _ _ (by rfl) HX.out.own ⟨w2.heap.size, 0, none⟩ 1 1 [.int .u8 sz] (by rfl) (by rfl) (World.news_of_block (cs := #[.int .u8 sz]) (t := 5) (fr := (0, 0)) (heap_alloc_new w2 _)) (by simp [Value.oneCell']) (by omega) (by unfold maxLen; omega) (by omega) (by simp; omega) _ rfl ?_; intro ga capa wA hown1 hgrow1 hat1 hlt1; have HA := Lib.hid (BA.mk1 HX.out hown1 hgrow1 hat1); clear hown1 hgrow1 hat1; have x8b := HA.out.hs.cell (k := 8) rfl; have hlbA := HA.out.lb)
        | (refine step_append_str (by rfl) (.tmp 32) (.tmp 34) 29 9 (by rfl) (w.heap.size + 1) 5 i0 (.int .u8 0) Try.underlying29 Try.underlying9 hi hz0 hz1 hz2 rfl ga (r.length + 1) capa _ (by rfl) HA.out.own xv (by rfl) (by omega) (by omega) ?_; intro gb capb wB hown2 hgrow2 hat2; have HBB := Lib.hid (HA.out.mk2 hown2 hgrow2 hat2); clear hown2 hgrow2 hat2; have o0b := HBB.out.ho.cell (k := 0) rfl; have f0b := HBB.out.ho.free 0; have HF := Lib.hid (HBB.out.fin); clear HA))
      all_goals
        have y0 := HF.out.hs.cell (k := 0) rfl
        have y1 := HF.out.hs.cell (k := 1) rfl
        have y2 := HF.out.hs.cell (k := 2) rfl
        have y3 := HF.out.hs.cell (k := 3) rfl
        have y4 := HF.out.hs.cell (k := 4) rfl
        have y5 := HF.out.hs.cell (k := 5) rfl
        have y6 := HF.out.hs.cell (k := 6) rfl
        have y7 := HF.out.hs.cell (k := 7) rfl
        have y8 := HF.out.hs.cell (k := 8) rfl
        have z8 := HF.out.hs.free 8
        have kk := HF.out.hk.cell (k := 0) rfl
        have oo := HF.out.ho.cell (k := 0) rfl
        have na := HF.out.ne
        obtain ⟨na1, na2, na3⟩ := na
        clear o0b f0b o0 o0a x8 x8a x8b
        generalize wB.setCell ⟨w.heap.size + 1 + 1, 0, none⟩ (.slice (some ⟨gb, 0, none⟩) (r.length + 1 + xv.size) capb) = wC at *
        have HFF := Lib.hid (HF.out.setv ⟨#[]⟩)
        go_wp2
        go_quiet (fail)
        go_wp2
        go_ret2
        exact pb_end HOKS.out HOUT.out HFF.out (by rfl) (by first | exact (Ext.refl [] _) | exact (Ext.refl [] _).drewN _) (by omega)
    · have hbig' : decide ((xv.size : Int) < 256) = false := decide_eq_false (by omega)
      have HOKS : Hid (pOk ⟨3, n, t, p, s, o, c, m, xv⟩ = false) := Lib.hid (by rw [HOK.out]; simp [hbig])
      have HS2 := Lib.hid (HS.out.setk false)
      go_wp2
      clear x0 x1 x2 x3 x4 x5 x6 x7 x8 k0 o0 f8 fk
      generalize w1.setCell ⟨w.heap.size + 1 + 1 + 1, 0, none⟩ (.bool false) = w2 at *
      have x8 := HS2.out.hs.cell (k := 8) rfl
      have o0 := HS2.out.ho.cell (k := 0) rfl
      have hlb := HS2.out.lb
      have HX := Lib.hid ((HS2.out.go ((Ext.refl [] _).alloc (.cells #[.int .u8 sz] 5))).go ((Ext.refl _ _).drew))
      have x8a := (HS2.out.go ((Ext.refl [] w2).alloc (.cells #[.int .u8 sz] 5))).hs.cell (k := 8) rfl
      have o0a := (HS2.out.go ((Ext.refl [] w2).alloc (.cells #[.int .u8 sz] 5))).ho.cell (k := 0) rfl
      go_region_law (first
        | (refine step_append_lies _ (by rfl) (.tmp 26) (.tmp 31) 29 (by rfl) (w.heap.size + 1) 5 i0 (.int .u8 0) 1 1 Try.underlying29 hi hz0 hz1 hz2 rfl (by decide) _ _ _ (by rfl) HX.out.own ⟨w2.heap.size, 0, none⟩ 1 1 [.int .u8 sz] (by rfl) (by rfl) (World.news_of_block (cs := #[.int .u8 sz]) (t := 5) (fr := (0, 0)) (heap_alloc_new w2 _)) (by simp [Value.oneCell']) (by omega) (by unfold maxLen; omega) (by omega) (by simp; omega) _ rfl ?_; intro ga capa wA hown1 hgrow1 hat1 hlt1; have HA := Lib.hid (BA.mk1 HX.out hown1 hgrow1 hat1); clear hown1 hgrow1 hat1; have x8b := HA.out.hs.cell (k := 8) rfl; have hlbA := HA.out.lb)
        | (refine step_append_str (by rfl) (.tmp 32) (.tmp 34) 29 9 (by rfl) (w.heap.size + 1) 5 i0 (.int .u8 0) Try.underlying29 Try.underlying9 hi hz0 hz1 hz2 rfl ga (r.length + 1) capa _ (by rfl) HA.out.own xv (by rfl) (by omega) (by omega) ?_; intro gb capb wB hown2 hgrow2 hat2; have HBB := Lib.hid (HA.out.mk2 hown2 hgrow2 hat2); clear hown2 hgrow2 hat2; have o0b := HBB.out.ho.cell (k := 0) rfl; have f0b := HBB.out.ho.free 0; have HF := Lib.hid (HBB.out.fin); clear HA))
      all_goals
        have y0 := HF.out.hs.cell (k := 0) rfl
        have y1 := HF.out.hs.cell (k := 1) rfl
        have y2 := HF.out.hs.cell (k := 2) rfl
        have y3 := HF.out.hs.cell (k := 3) rfl
        have y4 := HF.out.hs.cell (k := 4) rfl
        have y5 := HF.out.hs.cell (k := 5) rfl
        have y6 := HF.out.hs.cell (k := 6) rfl
        have y7 := HF.out.hs.cell (k := 7) rfl
        have y8 := HF.out.hs.cell (k := 8) rfl
        have z8 := HF.out.hs.free 8
        have kk := HF.out.hk.cell (k := 0) rfl
        have oo := HF.out.ho.cell (k := 0) rfl
        have na := HF.out.ne
        obtain ⟨na1, na2, na3⟩ := na
        clear o0b f0b o0 o0a x8 x8a x8b
        generalize wB.setCell ⟨w.heap.size + 1 + 1, 0, none⟩ (.slice (some ⟨gb, 0, none⟩) (r.length + 1 + xv.size) capb) = wC at *
        have HFF := Lib.hid (HF.out.setv ⟨#[]⟩)
        go_wp2
        go_quiet (fail)
        go_wp2
        go_ret2
        exact pb_end HOKS.out HOUT.out HFF.out (by rfl) (by first | exact (Ext.refl [] _) | exact (Ext.refl [] _).drewN _) (by omega)
  | false =>
    have HOKS : Hid (pOk ⟨3, n, t, p, s, o, c, m, xv⟩ = false) := Lib.hid (by rw [HOK.out]; rfl)
    have HS2 := Lib.hid (HS.out.setk false)
    go_wp2
    clear x0 x1 x2 x3 x4 x5 x6 x7 x8 k0 o0 f8 fk
    generalize w1.setCell ⟨w.heap.size + 1 + 1 + 1, 0, none⟩ (.bool false) = w2 at *
    have x8 := HS2.out.hs.cell (k := 8) rfl
    have o0 := HS2.out.ho.cell (k := 0) rfl
    have hlb := HS2.out.lb
    have HX := Lib.hid ((HS2.out.go ((Ext.refl [] _).alloc (.cells #[.int .u8 sz] 5))).go ((Ext.refl _ _).drew))
    have x8a := (HS2.out.go ((Ext.refl [] w2).alloc (.cells #[.int .u8 sz] 5))).hs.cell (k := 8) rfl
    have o0a := (HS2.out.go ((Ext.refl [] w2).alloc (.cells #[.int .u8 sz] 5))).ho.cell (k := 0) rfl
    go_region_law (first
      | (refine step_append_lies _ (by rfl) (.tmp 26) (.tmp 31) 29 (by rfl) (w.heap.size + 1) 5 i0 (.int .u8 0) 1 1 Try.underlying29 hi hz0 hz1 hz2 rfl (by decide) _ _ _ (by rfl) HX.out.own ⟨w2.heap.size, 0, none⟩ 1 1 [.int .u8 sz] (by rfl) (by rfl) (World.news_of_block (cs := #[.int .u8 sz]) (t := 5) (fr := (0, 0)) (heap_alloc_new w2 _)) (by simp [Value.oneCell']) (by omega) (by unfold maxLen; omega) (by omega) (by simp; omega) _ rfl ?_; intro ga capa wA hown1 hgrow1 hat1 hlt1; have HA := Lib.hid (BA.mk1 HX.out hown1 hgrow1 hat1); clear hown1 hgrow1 hat1; have x8b := HA.out.hs.cell (k := 8) rfl; have hlbA := HA.out.lb)
      | (refine step_append_str (by rfl) (.tmp 32) (.tmp 34) 29 9 (by rfl) (w.heap.size + 1) 5 i0 (.int .u8 0) Try.underlying29 Try.underlying9 hi hz0 hz1 hz2 rfl ga (r.length + 1) capa _ (by rfl) HA.out.own xv (by rfl) (by omega) (by omega) ?_; intro gb capb wB hown2 hgrow2 hat2; have HBB := Lib.hid (HA.out.mk2 hown2 hgrow2 hat2); clear hown2 hgrow2 hat2; have o0b := HBB.out.ho.cell (k := 0) rfl; have f0b := HBB.out.ho.free 0; have HF := Lib.hid (HBB.out.fin); clear HA))
    all_goals
      have y0 := HF.out.hs.cell (k := 0) rfl
      have y1 := HF.out.hs.cell (k := 1) rfl
      have y2 := HF.out.hs.cell (k := 2) rfl
      have y3 := HF.out.hs.cell (k := 3) rfl
      have y4 := HF.out.hs.cell (k := 4) rfl
      have y5 := HF.out.hs.cell (k := 5) rfl
      have y6 := HF.out.hs.cell (k := 6) rfl
      have y7 := HF.out.hs.cell (k := 7) rfl
      have y8 := HF.out.hs.cell (k := 8) rfl
      have z8 := HF.out.hs.free 8
      have kk := HF.out.hk.cell (k := 0) rfl
      have oo := HF.out.ho.cell (k := 0) rfl
      have na := HF.out.ne
      obtain ⟨na1, na2, na3⟩ := na
      clear o0b f0b o0 o0a x8 x8a x8b
      generalize wB.setCell ⟨w.heap.size + 1 + 1, 0, none⟩ (.slice (some ⟨gb, 0, none⟩) (r.length + 1 + xv.size) capb) = wC at *
      have HFF := Lib.hid (HF.out.setv ⟨#[]⟩)
      go_wp2
      go_quiet (fail)
      go_wp2
      go_ret2
      exact pb_end HOKS.out HOUT.out HFF.out (by rfl) (by first | exact (Ext.refl [] _) | exact (Ext.refl [] _).drewN _) (by omega)

end Go.Proofs.Ythedllndcibkcaa
