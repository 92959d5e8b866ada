/- bytes' closure: a number's bytes. -/
import Derived.Test.YthedllndcibkcaaDecodes
import Derived.Deep.RegionLaw
import Derived.BigRegion
namespace Go.Proofs.Ythedllndcibkcaa
open Go.RowKit
set_option linter.unusedVariables false
set_option linter.unusedSimpArgs false

theorem info5 : (Try.prog.info? 5).map (fun i => (i.zero, i.size, i.bytes)) = some (some (.int .u8 0), 1, 1) := by kernel_rfl
theorem own_ext3 {S : List Nat} {w w' : World} {base e size n : Nat} {v : Value} {xs : List Value} (h : w.ownsRow base e size v n xs) (he : Ext S w w') (hs : ∀ k ∈ S, v.ownBlock ≠ some k) : w'.ownsRow base e size v n xs := by
  refine ⟨h.1, ?_⟩
  rcases h.2 with h2 | ⟨g, cap, cur, hv, hb, hg, r⟩
  · exact .inl h2
  · refine .inr ⟨g, cap, cur, hv, hb, ?_, r⟩
    have hlt := lt_of_block hg
    rw [he.block g hlt (fun hk => hs g hk (by rw [hv]; rfl))]
    exact hg
/-- Bytes on their way. -/
structure BS (w0 w : World) (base sb pk po : Nat) (x : St) (A : Option Addr) (c : Nat) (out : List Int) (ok : Bool) : Prop where
  hs : Blk w sb 38 x.cells
  hk : Blk w pk 4 [.bool ok]
  ho : Blk w po 29 [.slice A out.length c]
  own : w.ownsRow base 5 1 (.slice A out.length c) out.length (out.map (.int .u8))
  ext : Ext [] w0 w
  n1 : w0.heap.size ≤ sb
  n2 : w0.heap.size ≤ pk
  n3 : w0.heap.size ≤ po
  nb : w0.heap.size ≤ base
  lb : base ≤ w.heap.size
  far : ∀ k, (Value.slice A out.length c).ownBlock = some k → k ≠ sb ∧ k ≠ pk ∧ k ≠ po
theorem BS.go {w0 w w' : World} {base sb pk po : Nat} {x : St} {A : Option Addr} {c : Nat} {out : List Int} {ok : Bool} (h : BS w0 w base sb pk po x A c out ok) (e : Ext [] w w') : BS w0 w' base sb pk po x A c out ok :=
  ⟨h.hs.ext e (by simp), h.hk.ext e (by simp), h.ho.ext e (by simp), own_ext h.own e (by simp), h.ext.trans e, h.n1, h.n2, h.n3, h.nb, by have := e.size; have := h.lb; omega, h.far⟩
theorem BS.ne {w0 w : World} {base sb pk po : Nat} {x : St} {A : Option Addr} {c : Nat} {out : List Int} {ok : Bool} (h : BS w0 w base sb pk po x A c out ok) : sb ≠ pk ∧ sb ≠ po ∧ pk ≠ po :=
  ⟨h.hs.apart h.hk (by decide), h.hs.apart h.ho (by decide), h.hk.apart h.ho (by decide)⟩
theorem BS.setk {w0 w : World} {base sb pk po : Nat} {x : St} {A : Option Addr} {c : Nat} {out : List Int} {ok : Bool} (h : BS w0 w base sb pk po x A c out ok) (ok' : Bool) : BS w0 (w.setCell ⟨pk, 0, none⟩ (.bool ok')) base sb pk po x A c out ok' :=
  ⟨h.hs.far (p := ⟨pk, 0, none⟩) h.ne.1 _, h.hk.set 0 _, h.ho.far (p := ⟨pk, 0, none⟩) (Ne.symm h.ne.2.2) _, own_ext3 h.own ((Ext.refl [pk] _).setCell (.inl (by simp)) _) (by intro k hk he; simp at hk; subst hk; exact (h.far _ he).2.1 rfl),
    h.ext.setCell (.inr h.n2) _, h.n1, h.n2, h.n3, h.nb, by have := h.lb; simpa [World.setCell] using this, h.far⟩
theorem BS.setf {w0 w : World} {base sb pk po : Nat} {x : St} {A : Option Addr} {c : Nat} {out : List Int} {ok : Bool} (h : BS w0 w base sb pk po x A c out ok) (f : Nat) (hf : f < 8) (i : Int) : BS w0 (w.setCell ⟨sb, f, none⟩ (.int .i64 i)) base sb pk po (x.put f i) A c out ok :=
  ⟨by rw [St.cells_put x f i hf]; exact h.hs.set f _, h.hk.far (p := ⟨sb, f, none⟩) (Ne.symm h.ne.1) _, h.ho.far (p := ⟨sb, f, none⟩) (Ne.symm h.ne.2.1) _, own_ext3 h.own ((Ext.refl [sb] _).setCell (.inl (by simp)) _) (by intro k hk he; simp at hk; subst hk; exact (h.far _ he).1 rfl),
    h.ext.setCell (.inr h.n1) _, h.n1, h.n2, h.n3, h.nb, by have := h.lb; simpa [World.setCell] using this, h.far⟩
theorem BS.app {w0 w w1 : World} {base sb pk po : Nat} {x : St} {A : Option Addr} {c : Nat} {out : List Int} {ok : Bool} (h : BS w0 w base sb pk po x A c out ok) {g cap : Nat} {v : Int}
    (hown : w1.ownsRow base 5 1 (.slice (some ⟨g, 0, none⟩) (out.length + 1) cap) (out.length + 1) (out.map (.int .u8) ++ [.int .u8 v])) (hg : w.grownBy w1 (Value.slice A out.length c).ownBlock) (hat : (Value.slice A out.length c).ownBlock = some g ∨ g = w.heap.size) :
    BS w0 (w1.setCell ⟨po, 0, none⟩ (.slice (some ⟨g, 0, none⟩) (out.length + 1) cap)) base sb pk po x (some ⟨g, 0, none⟩) cap (out ++ [v]) ok := by
  have hr := h.far
  have n3 := h.n3
  have e : (out ++ [v]).length = out.length + 1 := by simp
  have l1 := h.hs.lt
  have l2 := h.hk.lt
  have l3 := h.ho.lt
  have hgf : g ≠ sb ∧ g ≠ pk ∧ g ≠ po := by
    rcases hat with hat | hat
    · exact hr g hat
    · omega
  refine ⟨(h.hs.grown hg (fun he => (hr _ he).1 rfl)).far (p := ⟨po, 0, none⟩) h.ne.2.1 _, (h.hk.grown hg (fun he => (hr _ he).2.1 rfl)).far (p := ⟨po, 0, none⟩) h.ne.2.2 _, ?_, ?_, (h.ext.grown hg (fun k hk hlt => by have := h.own.lt k hk; have := h.nb; omega)).setCell (.inr n3) _, h.n1, h.n2, n3, h.nb, ?_, ?_⟩
  · rw [e]; exact (h.ho.grown hg (fun he => (hr _ he).2.2 rfl)).set 0 _
  · rw [e, List.map_append]
    exact own_ext3 hown ((Ext.refl [po] _).setCell (.inl (by simp)) _) (by intro k hk he; simp at hk; subst hk; exact hgf.2.2 (by simpa [Value.ownBlock] using he))
  · have := h.lb; have := hg.size; simp [World.setCell]; omega
  · intro k hk
    have : g = k := by simpa [Value.ownBlock] using hk
    subst this; exact hgf
theorem BS.ho2 {w0 w w1 : World} {base sb pk po : Nat} {x : St} {A : Option Addr} {c : Nat} {out : List Int} {ok : Bool} (h : BS w0 w base sb pk po x A c out ok) (hg : w.grownBy w1 (Value.slice A out.length c).ownBlock) : Blk w1 po 29 [.slice A out.length c] :=
  h.ho.grown hg (fun he => (h.far _ he).2.2 rfl)

theorem BS.hs2 {w0 w w1 : World} {base sb pk po : Nat} {x : St} {A : Option Addr} {c : Nat} {out : List Int} {ok : Bool} (h : BS w0 w base sb pk po x A c out ok) (hg : w.grownBy w1 (Value.slice A out.length c).ownBlock) : Blk w1 sb 38 x.cells :=
  h.hs.grown hg (fun he => (h.far _ he).1 rfl)

/-- A number's bytes, so many. -/
def encB (wd : Nat) (n : Int) : List Int := if wd = 2 then [IntKind.u8.wrap (n / 256), IntKind.u8.wrap n] else [IntKind.u8.wrap n]
def inr (wd : Nat) (n : Int) : Bool := decide (0 ≤ n) && decide (n < if wd = 2 then 65536 else 256)

set_option maxRecDepth 100000 in
set_option maxHeartbeats 4000000 in
theorem each1_ok (w0 w : World) (base sb pk po : Nat) (x : St) (A : Option Addr) (c : Nat) (out : List Int) (h : BS w0 w base sb pk po x A c out true) (hl : out.length ≤ 100000) (f : Nat) (hf : f < 8) (n : Int) (hn : x.cells[f]? = some (.int .i64 n)) (h0 : 0 ≤ n) (h1 : n < 256) :
    Calls Try.prog 23 #[.pointer (some ⟨sb, f, none⟩), .int .i64 1, .pointer (some ⟨pk, 0, none⟩), .pointer (some ⟨po, 0, none⟩)] w fun e w' => e = .returned (.tuple #[]) ∧ ∃ A' c', BS w0 w' base sb pk po (x.put f 0) A' c' (out ++ encB 1 n) true := by
  obtain ⟨i0, hi, hz0, hz1, hz2⟩ := info_parts info5
  have ck := h.hk.cell (k := 0) rfl
  have fk := h.hk.free 0
  have cs := h.hs.cell hn
  have fs := h.hs.free f
  have n1 := h.ne.1
  have n2 := h.ne.2.1
  have n3 := h.ne.2.2
  have HB := Lib.hid h
  have HN := Lib.hid hn
  clear h hn
  go_enter Try.func23, Try.ntmps23
  go_wp2
  go_region
  go_wp2
  have hb1 := (HB.out.setk true).go (w' := (w.setCell ⟨pk, 0, none⟩ (.bool true)).drew) ((Ext.refl _ _).drew)
  have HB1 := Lib.hid hb1
  clear ck fk cs fs HB hb1
  generalize (w.setCell ⟨pk, 0, none⟩ (.bool true)).drew = w1 at *
  obtain ⟨v0, hv0⟩ : ∃ v, IntKind.u8.wrap n = v := ⟨_, rfl⟩
  have co1 := HB1.out.ho.cell (k := 0) rfl
  have fo1 := HB1.out.ho.free 0
  have cs1 := HB1.out.hs.cell HN.out
  have fs1 := HB1.out.hs.free f
  have hsz1 := HB1.out.lb
  have hlo1 : (out).length ≤ 200000 := by (try simp); omega
  have HX := Lib.hid ((HB1.out.go ((Ext.refl [] _).alloc (.cells #[.int .u8 v0] 5))).go ((Ext.refl _ _).drew))
  have co3 := (HB1.out.go ((Ext.refl [] w1).alloc (.cells #[.int .u8 v0] 5))).ho.cell (k := 0) rfl
  have cs3 := (HB1.out.go ((Ext.refl [] w1).alloc (.cells #[.int .u8 v0] 5))).hs.cell HN.out
  go_region_law ((refine step_append_lies _ (by rfl) (.tmp 32) (.tmp 37) 29 (by rfl) base 5 i0 (.int .u8 0) 1 1 Try.underlying29 hi hz0 hz1 hz2 rfl (by decide) _ _ _ (by rfl) HX.out.own ⟨w1.heap.size, 0, none⟩ 1 1 [.int .u8 v0] (by rfl) (by rfl) (World.news_of_block (cs := #[.int .u8 v0]) (t := 5) (fr := (0, 0)) (heap_alloc_new w1 _)) (by simp [Value.oneCell']) (by omega) (by unfold maxLen; omega) (by omega) (by simp; omega) _ rfl ?_; intro g capg w2 hown hgrow hat hlt; have hb2 := HX.out.ho2 hgrow; have co2 := hb2.cell (k := 0) rfl; have fo2 := hb2.free 0; have hb3 := HX.out.hs2 hgrow; have cs2 := hb3.cell HN.out; have fs2 := hb3.free f; have HB2 := Lib.hid (HX.out.app hown hgrow hat); clear hb3 hb2 hown hgrow hat))
  all_goals
    go_wp2
    go_end0
    exact ⟨rfl, some ⟨g, 0, none⟩, capg, by rw [show encB 1 n = [v0] from by rw [← hv0]; rfl]; first | exact HB2.out.setf f hf 0 | exact (HB2.out.go ((Ext.refl _ _).drew)).setf f hf 0⟩

set_option maxRecDepth 100000 in
set_option maxHeartbeats 4000000 in
theorem each1_neg (w0 w : World) (base sb pk po : Nat) (x : St) (A : Option Addr) (c : Nat) (out : List Int) (h : BS w0 w base sb pk po x A c out true) (hl : out.length ≤ 100000) (f : Nat) (hf : f < 8) (n : Int) (hn : x.cells[f]? = some (.int .i64 n)) (h0 : n < 0) :
    Calls Try.prog 23 #[.pointer (some ⟨sb, f, none⟩), .int .i64 1, .pointer (some ⟨pk, 0, none⟩), .pointer (some ⟨po, 0, none⟩)] w fun e w' => e = .returned (.tuple #[]) ∧ ∃ A' c', BS w0 w' base sb pk po (x.put f 0) A' c' (out ++ encB 1 n) false := by
  obtain ⟨i0, hi, hz0, hz1, hz2⟩ := info_parts info5
  have ck := h.hk.cell (k := 0) rfl
  have fk := h.hk.free 0
  have cs := h.hs.cell hn
  have fs := h.hs.free f
  have n1 := h.ne.1
  have n2 := h.ne.2.1
  have n3 := h.ne.2.2
  have HB := Lib.hid h
  have HN := Lib.hid hn
  clear h hn
  have hd : decide (0 ≤ n) = false := decide_eq_false (by omega)
  go_enter Try.func23, Try.ntmps23
  go_wp2
  go_region
  go_wp2
  have hb1 := (HB.out.setk false).go (w' := (w.setCell ⟨pk, 0, none⟩ (.bool false)).drew) ((Ext.refl _ _).drew)
  have HB1 := Lib.hid hb1
  clear ck fk cs fs HB hb1
  generalize (w.setCell ⟨pk, 0, none⟩ (.bool false)).drew = w1 at *
  obtain ⟨v0, hv0⟩ : ∃ v, IntKind.u8.wrap n = v := ⟨_, rfl⟩
  have co1 := HB1.out.ho.cell (k := 0) rfl
  have fo1 := HB1.out.ho.free 0
  have cs1 := HB1.out.hs.cell HN.out
  have fs1 := HB1.out.hs.free f
  have hsz1 := HB1.out.lb
  have hlo1 : (out).length ≤ 200000 := by (try simp); omega
  have HX := Lib.hid ((HB1.out.go ((Ext.refl [] _).alloc (.cells #[.int .u8 v0] 5))).go ((Ext.refl _ _).drew))
  have co3 := (HB1.out.go ((Ext.refl [] w1).alloc (.cells #[.int .u8 v0] 5))).ho.cell (k := 0) rfl
  have cs3 := (HB1.out.go ((Ext.refl [] w1).alloc (.cells #[.int .u8 v0] 5))).hs.cell HN.out
  go_region_law ((refine step_append_lies _ (by rfl) (.tmp 32) (.tmp 37) 29 (by rfl) base 5 i0 (.int .u8 0) 1 1 Try.underlying29 hi hz0 hz1 hz2 rfl (by decide) _ _ _ (by rfl) HX.out.own ⟨w1.heap.size, 0, none⟩ 1 1 [.int .u8 v0] (by rfl) (by rfl) (World.news_of_block (cs := #[.int .u8 v0]) (t := 5) (fr := (0, 0)) (heap_alloc_new w1 _)) (by simp [Value.oneCell']) (by omega) (by unfold maxLen; omega) (by omega) (by simp; omega) _ rfl ?_; intro g capg w2 hown hgrow hat hlt; have hb2 := HX.out.ho2 hgrow; have co2 := hb2.cell (k := 0) rfl; have fo2 := hb2.free 0; have hb3 := HX.out.hs2 hgrow; have cs2 := hb3.cell HN.out; have fs2 := hb3.free f; have HB2 := Lib.hid (HX.out.app hown hgrow hat); clear hb3 hb2 hown hgrow hat))
  all_goals
    go_wp2
    go_end0
    exact ⟨rfl, some ⟨g, 0, none⟩, capg, by rw [show encB 1 n = [v0] from by rw [← hv0]; rfl]; first | exact HB2.out.setf f hf 0 | exact (HB2.out.go ((Ext.refl _ _).drew)).setf f hf 0⟩

set_option maxRecDepth 100000 in
set_option maxHeartbeats 4000000 in
theorem each1_big (w0 w : World) (base sb pk po : Nat) (x : St) (A : Option Addr) (c : Nat) (out : List Int) (h : BS w0 w base sb pk po x A c out true) (hl : out.length ≤ 100000) (f : Nat) (hf : f < 8) (n : Int) (hn : x.cells[f]? = some (.int .i64 n)) (h0 : 256 ≤ n) :
    Calls Try.prog 23 #[.pointer (some ⟨sb, f, none⟩), .int .i64 1, .pointer (some ⟨pk, 0, none⟩), .pointer (some ⟨po, 0, none⟩)] w fun e w' => e = .returned (.tuple #[]) ∧ ∃ A' c', BS w0 w' base sb pk po (x.put f 0) A' c' (out ++ encB 1 n) false := by
  obtain ⟨i0, hi, hz0, hz1, hz2⟩ := info_parts info5
  have ck := h.hk.cell (k := 0) rfl
  have fk := h.hk.free 0
  have cs := h.hs.cell hn
  have fs := h.hs.free f
  have n1 := h.ne.1
  have n2 := h.ne.2.1
  have n3 := h.ne.2.2
  have HB := Lib.hid h
  have HN := Lib.hid hn
  clear h hn
  have h1 : 0 ≤ n := by omega
  have hd : decide (n < 256) = false := decide_eq_false (by omega)
  go_enter Try.func23, Try.ntmps23
  go_wp2
  go_region
  go_wp2
  have hb1 := (HB.out.setk false).go (w' := (w.setCell ⟨pk, 0, none⟩ (.bool false)).drew) ((Ext.refl _ _).drew)
  have HB1 := Lib.hid hb1
  clear ck fk cs fs HB hb1
  generalize (w.setCell ⟨pk, 0, none⟩ (.bool false)).drew = w1 at *
  obtain ⟨v0, hv0⟩ : ∃ v, IntKind.u8.wrap n = v := ⟨_, rfl⟩
  have co1 := HB1.out.ho.cell (k := 0) rfl
  have fo1 := HB1.out.ho.free 0
  have cs1 := HB1.out.hs.cell HN.out
  have fs1 := HB1.out.hs.free f
  have hsz1 := HB1.out.lb
  have hlo1 : (out).length ≤ 200000 := by (try simp); omega
  have HX := Lib.hid ((HB1.out.go ((Ext.refl [] _).alloc (.cells #[.int .u8 v0] 5))).go ((Ext.refl _ _).drew))
  have co3 := (HB1.out.go ((Ext.refl [] w1).alloc (.cells #[.int .u8 v0] 5))).ho.cell (k := 0) rfl
  have cs3 := (HB1.out.go ((Ext.refl [] w1).alloc (.cells #[.int .u8 v0] 5))).hs.cell HN.out
  go_region_law ((refine step_append_lies _ (by rfl) (.tmp 32) (.tmp 37) 29 (by rfl) base 5 i0 (.int .u8 0) 1 1 Try.underlying29 hi hz0 hz1 hz2 rfl (by decide) _ _ _ (by rfl) HX.out.own ⟨w1.heap.size, 0, none⟩ 1 1 [.int .u8 v0] (by rfl) (by rfl) (World.news_of_block (cs := #[.int .u8 v0]) (t := 5) (fr := (0, 0)) (heap_alloc_new w1 _)) (by simp [Value.oneCell']) (by omega) (by unfold maxLen; omega) (by omega) (by simp; omega) _ rfl ?_; intro g capg w2 hown hgrow hat hlt; have hb2 := HX.out.ho2 hgrow; have co2 := hb2.cell (k := 0) rfl; have fo2 := hb2.free 0; have hb3 := HX.out.hs2 hgrow; have cs2 := hb3.cell HN.out; have fs2 := hb3.free f; have HB2 := Lib.hid (HX.out.app hown hgrow hat); clear hb3 hb2 hown hgrow hat))
  all_goals
    go_wp2
    go_end0
    exact ⟨rfl, some ⟨g, 0, none⟩, capg, by rw [show encB 1 n = [v0] from by rw [← hv0]; rfl]; first | exact HB2.out.setf f hf 0 | exact (HB2.out.go ((Ext.refl _ _).drew)).setf f hf 0⟩

set_option maxRecDepth 100000 in
set_option maxHeartbeats 4000000 in
theorem each1_no (w0 w : World) (base sb pk po : Nat) (x : St) (A : Option Addr) (c : Nat) (out : List Int) (h : BS w0 w base sb pk po x A c out false) (hl : out.length ≤ 100000) (f : Nat) (hf : f < 8) (n : Int) (hn : x.cells[f]? = some (.int .i64 n)) :
    Calls Try.prog 23 #[.pointer (some ⟨sb, f, none⟩), .int .i64 1, .pointer (some ⟨pk, 0, none⟩), .pointer (some ⟨po, 0, none⟩)] w fun e w' => e = .returned (.tuple #[]) ∧ ∃ A' c', BS w0 w' base sb pk po (x.put f 0) A' c' (out ++ encB 1 n) false := by
  obtain ⟨i0, hi, hz0, hz1, hz2⟩ := info_parts info5
  have ck := h.hk.cell (k := 0) rfl
  have fk := h.hk.free 0
  have cs := h.hs.cell hn
  have fs := h.hs.free f
  have n1 := h.ne.1
  have n2 := h.ne.2.1
  have n3 := h.ne.2.2
  have HB := Lib.hid h
  have HN := Lib.hid hn
  clear h hn
  go_enter Try.func23, Try.ntmps23
  go_wp2
  go_region
  go_wp2
  have hb1 := (HB.out.setk false).go (w' := (w.setCell ⟨pk, 0, none⟩ (.bool false)).drew) ((Ext.refl _ _).drew)
  have HB1 := Lib.hid hb1
  clear ck fk cs fs HB hb1
  generalize (w.setCell ⟨pk, 0, none⟩ (.bool false)).drew = w1 at *
  obtain ⟨v0, hv0⟩ : ∃ v, IntKind.u8.wrap n = v := ⟨_, rfl⟩
  have co1 := HB1.out.ho.cell (k := 0) rfl
  have fo1 := HB1.out.ho.free 0
  have cs1 := HB1.out.hs.cell HN.out
  have fs1 := HB1.out.hs.free f
  have hsz1 := HB1.out.lb
  have hlo1 : (out).length ≤ 200000 := by (try simp); omega
  have HX := Lib.hid ((HB1.out.go ((Ext.refl [] _).alloc (.cells #[.int .u8 v0] 5))).go ((Ext.refl _ _).drew))
  have co3 := (HB1.out.go ((Ext.refl [] w1).alloc (.cells #[.int .u8 v0] 5))).ho.cell (k := 0) rfl
  have cs3 := (HB1.out.go ((Ext.refl [] w1).alloc (.cells #[.int .u8 v0] 5))).hs.cell HN.out
  go_region_law ((refine step_append_lies _ (by rfl) (.tmp 32) (.tmp 37) 29 (by rfl) base 5 i0 (.int .u8 0) 1 1 Try.underlying29 hi hz0 hz1 hz2 rfl (by decide) _ _ _ (by rfl) HX.out.own ⟨w1.heap.size, 0, none⟩ 1 1 [.int .u8 v0] (by rfl) (by rfl) (World.news_of_block (cs := #[.int .u8 v0]) (t := 5) (fr := (0, 0)) (heap_alloc_new w1 _)) (by simp [Value.oneCell']) (by omega) (by unfold maxLen; omega) (by omega) (by simp; omega) _ rfl ?_; intro g capg w2 hown hgrow hat hlt; have hb2 := HX.out.ho2 hgrow; have co2 := hb2.cell (k := 0) rfl; have fo2 := hb2.free 0; have hb3 := HX.out.hs2 hgrow; have cs2 := hb3.cell HN.out; have fs2 := hb3.free f; have HB2 := Lib.hid (HX.out.app hown hgrow hat); clear hb3 hb2 hown hgrow hat))
  all_goals
    go_wp2
    go_end0
    exact ⟨rfl, some ⟨g, 0, none⟩, capg, by rw [show encB 1 n = [v0] from by rw [← hv0]; rfl]; first | exact HB2.out.setf f hf 0 | exact (HB2.out.go ((Ext.refl _ _).drew)).setf f hf 0⟩

set_option maxRecDepth 100000 in
set_option maxHeartbeats 4000000 in
theorem each2_ok (w0 w : World) (base sb pk po : Nat) (x : St) (A : Option Addr) (c : Nat) (out : List Int) (h : BS w0 w base sb pk po x A c out true) (hl : out.length ≤ 100000) (f : Nat) (hf : f < 8) (n : Int) (hn : x.cells[f]? = some (.int .i64 n)) (h0 : 0 ≤ n) (h1 : n < 65536) :
    Calls Try.prog 23 #[.pointer (some ⟨sb, f, none⟩), .int .i64 2, .pointer (some ⟨pk, 0, none⟩), .pointer (some ⟨po, 0, none⟩)] w fun e w' => e = .returned (.tuple #[]) ∧ ∃ A' c', BS w0 w' base sb pk po (x.put f 0) A' c' (out ++ encB 2 n) true := by
  obtain ⟨i0, hi, hz0, hz1, hz2⟩ := info_parts info5
  have ck := h.hk.cell (k := 0) rfl
  have fk := h.hk.free 0
  have cs := h.hs.cell hn
  have fs := h.hs.free f
  have n1 := h.ne.1
  have n2 := h.ne.2.1
  have n3 := h.ne.2.2
  have HB := Lib.hid h
  have HN := Lib.hid hn
  clear h hn
  go_enter Try.func23, Try.ntmps23
  go_wp2
  go_region
  go_wp2
  have hb1 := (HB.out.setk true).go (w' := (w.setCell ⟨pk, 0, none⟩ (.bool true)).drew) ((Ext.refl _ _).drew)
  have HB1 := Lib.hid hb1
  clear ck fk cs fs HB hb1
  generalize (w.setCell ⟨pk, 0, none⟩ (.bool true)).drew = w1 at *
  obtain ⟨v0, hv0⟩ : ∃ v, IntKind.u8.wrap n = v := ⟨_, rfl⟩
  obtain ⟨v1, hv1⟩ : ∃ v, IntKind.u8.wrap (n / 256) = v := ⟨_, rfl⟩
  have co1 := HB1.out.ho.cell (k := 0) rfl
  have fo1 := HB1.out.ho.free 0
  have cs1 := HB1.out.hs.cell HN.out
  have fs1 := HB1.out.hs.free f
  have hsz1 := HB1.out.lb
  have hlo1 : (out).length ≤ 200000 := by (try simp); omega
  have HX := Lib.hid ((HB1.out.go ((Ext.refl [] _).alloc (.cells #[.int .u8 v1] 5))).go ((Ext.refl _ _).drew))
  have co3 := (HB1.out.go ((Ext.refl [] w1).alloc (.cells #[.int .u8 v1] 5))).ho.cell (k := 0) rfl
  have cs3 := (HB1.out.go ((Ext.refl [] w1).alloc (.cells #[.int .u8 v1] 5))).hs.cell HN.out
  go_region_law ((refine step_append_lies _ (by rfl) (.tmp 24) (.tmp 30) 29 (by rfl) base 5 i0 (.int .u8 0) 1 1 Try.underlying29 hi hz0 hz1 hz2 rfl (by decide) _ _ _ (by rfl) HX.out.own ⟨w1.heap.size, 0, none⟩ 1 1 [.int .u8 v1] (by rfl) (by rfl) (World.news_of_block (cs := #[.int .u8 v1]) (t := 5) (fr := (0, 0)) (heap_alloc_new w1 _)) (by simp [Value.oneCell']) (by omega) (by unfold maxLen; omega) (by omega) (by simp; omega) _ rfl ?_; intro g capg w2 hown hgrow hat hlt; have hb2 := HX.out.ho2 hgrow; have co2 := hb2.cell (k := 0) rfl; have fo2 := hb2.free 0; have hb3 := HX.out.hs2 hgrow; have cs2 := hb3.cell HN.out; have fs2 := hb3.free f; have HB2 := Lib.hid (HX.out.app hown hgrow hat); clear hb3 hb2 hown hgrow hat))
  all_goals
    go_wp2
    generalize w2.setCell ⟨po, 0, none⟩ (.slice (some ⟨g, 0, none⟩) (out.length + 1) capg) = w3 at *
    clear co1 fo1 cs1 fs1 co2 fo2 cs2 fs2 co3 cs3 HX HB1
    obtain ⟨out2, ho2⟩ : ∃ o, out ++ [v1] = o := ⟨_, rfl⟩
    have e2 : out.length + 1 = out2.length := by rw [← ho2]; simp
    rw [ho2] at HB2
    rw [e2]
    have hl2 : out2.length ≤ 200000 := by omega
    have HO2 := Lib.hid ho2
    clear e2 ho2
    have co2 := HB2.out.ho.cell (k := 0) rfl
    have fo2 := HB2.out.ho.free 0
    have cs2 := HB2.out.hs.cell HN.out
    have fs2 := HB2.out.hs.free f
    have hsz2 := HB2.out.lb
    have HX := Lib.hid ((HB2.out.go ((Ext.refl [] _).alloc (.cells #[.int .u8 v0] 5))).go ((Ext.refl _ _).drew))
    have co3 := (HB2.out.go ((Ext.refl [] w3).alloc (.cells #[.int .u8 v0] 5))).ho.cell (k := 0) rfl
    have cs3 := (HB2.out.go ((Ext.refl [] w3).alloc (.cells #[.int .u8 v0] 5))).hs.cell HN.out
    go_region_law ((refine step_append_lies _ (by rfl) (.tmp 32) (.tmp 37) 29 (by rfl) base 5 i0 (.int .u8 0) 1 1 Try.underlying29 hi hz0 hz1 hz2 rfl (by decide) _ _ _ (by rfl) HX.out.own ⟨w3.heap.size, 0, none⟩ 1 1 [.int .u8 v0] (by rfl) (by rfl) (World.news_of_block (cs := #[.int .u8 v0]) (t := 5) (fr := (0, 0)) (heap_alloc_new w3 _)) (by simp [Value.oneCell']) (by omega) (by unfold maxLen; omega) (by omega) (by simp; omega) _ rfl ?_; intro gg capgg w4 hown hgrow hat hlt; have hb2 := HX.out.ho2 hgrow; have co2 := hb2.cell (k := 0) rfl; have fo2 := hb2.free 0; have hb3 := HX.out.hs2 hgrow; have cs2 := hb3.cell HN.out; have fs2 := hb3.free f; have HB3 := Lib.hid (HX.out.app hown hgrow hat); clear hb3 hb2 hown hgrow hat))
  all_goals
    go_wp2
    go_end0
    exact ⟨rfl, some ⟨gg, 0, none⟩, capgg, by rw [show encB 2 n = [v1] ++ [v0] from by rw [← hv0, ← hv1]; rfl, ← List.append_assoc, HO2.out]; first | exact HB3.out.setf f hf 0 | exact (HB3.out.go ((Ext.refl _ _).drew)).setf f hf 0⟩

set_option maxRecDepth 100000 in
set_option maxHeartbeats 4000000 in
theorem each2_neg (w0 w : World) (base sb pk po : Nat) (x : St) (A : Option Addr) (c : Nat) (out : List Int) (h : BS w0 w base sb pk po x A c out true) (hl : out.length ≤ 100000) (f : Nat) (hf : f < 8) (n : Int) (hn : x.cells[f]? = some (.int .i64 n)) (h0 : n < 0) :
    Calls Try.prog 23 #[.pointer (some ⟨sb, f, none⟩), .int .i64 2, .pointer (some ⟨pk, 0, none⟩), .pointer (some ⟨po, 0, none⟩)] w fun e w' => e = .returned (.tuple #[]) ∧ ∃ A' c', BS w0 w' base sb pk po (x.put f 0) A' c' (out ++ encB 2 n) false := by
  obtain ⟨i0, hi, hz0, hz1, hz2⟩ := info_parts info5
  have ck := h.hk.cell (k := 0) rfl
  have fk := h.hk.free 0
  have cs := h.hs.cell hn
  have fs := h.hs.free f
  have n1 := h.ne.1
  have n2 := h.ne.2.1
  have n3 := h.ne.2.2
  have HB := Lib.hid h
  have HN := Lib.hid hn
  clear h hn
  have hd : decide (0 ≤ n) = false := decide_eq_false (by omega)
  go_enter Try.func23, Try.ntmps23
  go_wp2
  go_region
  go_wp2
  have hb1 := (HB.out.setk false).go (w' := (w.setCell ⟨pk, 0, none⟩ (.bool false)).drew) ((Ext.refl _ _).drew)
  have HB1 := Lib.hid hb1
  clear ck fk cs fs HB hb1
  generalize (w.setCell ⟨pk, 0, none⟩ (.bool false)).drew = w1 at *
  obtain ⟨v0, hv0⟩ : ∃ v, IntKind.u8.wrap n = v := ⟨_, rfl⟩
  obtain ⟨v1, hv1⟩ : ∃ v, IntKind.u8.wrap (n / 256) = v := ⟨_, rfl⟩
  have co1 := HB1.out.ho.cell (k := 0) rfl
  have fo1 := HB1.out.ho.free 0
  have cs1 := HB1.out.hs.cell HN.out
  have fs1 := HB1.out.hs.free f
  have hsz1 := HB1.out.lb
  have hlo1 : (out).length ≤ 200000 := by (try simp); omega
  have HX := Lib.hid ((HB1.out.go ((Ext.refl [] _).alloc (.cells #[.int .u8 v1] 5))).go ((Ext.refl _ _).drew))
  have co3 := (HB1.out.go ((Ext.refl [] w1).alloc (.cells #[.int .u8 v1] 5))).ho.cell (k := 0) rfl
  have cs3 := (HB1.out.go ((Ext.refl [] w1).alloc (.cells #[.int .u8 v1] 5))).hs.cell HN.out
  go_region_law ((refine step_append_lies _ (by rfl) (.tmp 24) (.tmp 30) 29 (by rfl) base 5 i0 (.int .u8 0) 1 1 Try.underlying29 hi hz0 hz1 hz2 rfl (by decide) _ _ _ (by rfl) HX.out.own ⟨w1.heap.size, 0, none⟩ 1 1 [.int .u8 v1] (by rfl) (by rfl) (World.news_of_block (cs := #[.int .u8 v1]) (t := 5) (fr := (0, 0)) (heap_alloc_new w1 _)) (by simp [Value.oneCell']) (by omega) (by unfold maxLen; omega) (by omega) (by simp; omega) _ rfl ?_; intro g capg w2 hown hgrow hat hlt; have hb2 := HX.out.ho2 hgrow; have co2 := hb2.cell (k := 0) rfl; have fo2 := hb2.free 0; have hb3 := HX.out.hs2 hgrow; have cs2 := hb3.cell HN.out; have fs2 := hb3.free f; have HB2 := Lib.hid (HX.out.app hown hgrow hat); clear hb3 hb2 hown hgrow hat))
  all_goals
    go_wp2
    generalize w2.setCell ⟨po, 0, none⟩ (.slice (some ⟨g, 0, none⟩) (out.length + 1) capg) = w3 at *
    clear co1 fo1 cs1 fs1 co2 fo2 cs2 fs2 co3 cs3 HX HB1
    obtain ⟨out2, ho2⟩ : ∃ o, out ++ [v1] = o := ⟨_, rfl⟩
    have e2 : out.length + 1 = out2.length := by rw [← ho2]; simp
    rw [ho2] at HB2
    rw [e2]
    have hl2 : out2.length ≤ 200000 := by omega
    have HO2 := Lib.hid ho2
    clear e2 ho2
    have co2 := HB2.out.ho.cell (k := 0) rfl
    have fo2 := HB2.out.ho.free 0
    have cs2 := HB2.out.hs.cell HN.out
    have fs2 := HB2.out.hs.free f
    have hsz2 := HB2.out.lb
    have HX := Lib.hid ((HB2.out.go ((Ext.refl [] _).alloc (.cells #[.int .u8 v0] 5))).go ((Ext.refl _ _).drew))
    have co3 := (HB2.out.go ((Ext.refl [] w3).alloc (.cells #[.int .u8 v0] 5))).ho.cell (k := 0) rfl
    have cs3 := (HB2.out.go ((Ext.refl [] w3).alloc (.cells #[.int .u8 v0] 5))).hs.cell HN.out
    go_region_law ((refine step_append_lies _ (by rfl) (.tmp 32) (.tmp 37) 29 (by rfl) base 5 i0 (.int .u8 0) 1 1 Try.underlying29 hi hz0 hz1 hz2 rfl (by decide) _ _ _ (by rfl) HX.out.own ⟨w3.heap.size, 0, none⟩ 1 1 [.int .u8 v0] (by rfl) (by rfl) (World.news_of_block (cs := #[.int .u8 v0]) (t := 5) (fr := (0, 0)) (heap_alloc_new w3 _)) (by simp [Value.oneCell']) (by omega) (by unfold maxLen; omega) (by omega) (by simp; omega) _ rfl ?_; intro gg capgg w4 hown hgrow hat hlt; have hb2 := HX.out.ho2 hgrow; have co2 := hb2.cell (k := 0) rfl; have fo2 := hb2.free 0; have hb3 := HX.out.hs2 hgrow; have cs2 := hb3.cell HN.out; have fs2 := hb3.free f; have HB3 := Lib.hid (HX.out.app hown hgrow hat); clear hb3 hb2 hown hgrow hat))
  all_goals
    go_wp2
    go_end0
    exact ⟨rfl, some ⟨gg, 0, none⟩, capgg, by rw [show encB 2 n = [v1] ++ [v0] from by rw [← hv0, ← hv1]; rfl, ← List.append_assoc, HO2.out]; first | exact HB3.out.setf f hf 0 | exact (HB3.out.go ((Ext.refl _ _).drew)).setf f hf 0⟩

set_option maxRecDepth 100000 in
set_option maxHeartbeats 4000000 in
theorem each2_big (w0 w : World) (base sb pk po : Nat) (x : St) (A : Option Addr) (c : Nat) (out : List Int) (h : BS w0 w base sb pk po x A c out true) (hl : out.length ≤ 100000) (f : Nat) (hf : f < 8) (n : Int) (hn : x.cells[f]? = some (.int .i64 n)) (h0 : 65536 ≤ n) :
    Calls Try.prog 23 #[.pointer (some ⟨sb, f, none⟩), .int .i64 2, .pointer (some ⟨pk, 0, none⟩), .pointer (some ⟨po, 0, none⟩)] w fun e w' => e = .returned (.tuple #[]) ∧ ∃ A' c', BS w0 w' base sb pk po (x.put f 0) A' c' (out ++ encB 2 n) false := by
  obtain ⟨i0, hi, hz0, hz1, hz2⟩ := info_parts info5
  have ck := h.hk.cell (k := 0) rfl
  have fk := h.hk.free 0
  have cs := h.hs.cell hn
  have fs := h.hs.free f
  have n1 := h.ne.1
  have n2 := h.ne.2.1
  have n3 := h.ne.2.2
  have HB := Lib.hid h
  have HN := Lib.hid hn
  clear h hn
  have h1 : 0 ≤ n := by omega
  have hd : decide (n < 65536) = false := decide_eq_false (by omega)
  go_enter Try.func23, Try.ntmps23
  go_wp2
  go_region
  go_wp2
  have hb1 := (HB.out.setk false).go (w' := (w.setCell ⟨pk, 0, none⟩ (.bool false)).drew) ((Ext.refl _ _).drew)
  have HB1 := Lib.hid hb1
  clear ck fk cs fs HB hb1
  generalize (w.setCell ⟨pk, 0, none⟩ (.bool false)).drew = w1 at *
  obtain ⟨v0, hv0⟩ : ∃ v, IntKind.u8.wrap n = v := ⟨_, rfl⟩
  obtain ⟨v1, hv1⟩ : ∃ v, IntKind.u8.wrap (n / 256) = v := ⟨_, rfl⟩
  have co1 := HB1.out.ho.cell (k := 0) rfl
  have fo1 := HB1.out.ho.free 0
  have cs1 := HB1.out.hs.cell HN.out
  have fs1 := HB1.out.hs.free f
  have hsz1 := HB1.out.lb
  have hlo1 : (out).length ≤ 200000 := by (try simp); omega
  have HX := Lib.hid ((HB1.out.go ((Ext.refl [] _).alloc (.cells #[.int .u8 v1] 5))).go ((Ext.refl _ _).drew))
  have co3 := (HB1.out.go ((Ext.refl [] w1).alloc (.cells #[.int .u8 v1] 5))).ho.cell (k := 0) rfl
  have cs3 := (HB1.out.go ((Ext.refl [] w1).alloc (.cells #[.int .u8 v1] 5))).hs.cell HN.out
  go_region_law ((refine step_append_lies _ (by rfl) (.tmp 24) (.tmp 30) 29 (by rfl) base 5 i0 (.int .u8 0) 1 1 Try.underlying29 hi hz0 hz1 hz2 rfl (by decide) _ _ _ (by rfl) HX.out.own ⟨w1.heap.size, 0, none⟩ 1 1 [.int .u8 v1] (by rfl) (by rfl) (World.news_of_block (cs := #[.int .u8 v1]) (t := 5) (fr := (0, 0)) (heap_alloc_new w1 _)) (by simp [Value.oneCell']) (by omega) (by unfold maxLen; omega) (by omega) (by simp; omega) _ rfl ?_; intro g capg w2 hown hgrow hat hlt; have hb2 := HX.out.ho2 hgrow; have co2 := hb2.cell (k := 0) rfl; have fo2 := hb2.free 0; have hb3 := HX.out.hs2 hgrow; have cs2 := hb3.cell HN.out; have fs2 := hb3.free f; have HB2 := Lib.hid (HX.out.app hown hgrow hat); clear hb3 hb2 hown hgrow hat))
  all_goals
    go_wp2
    generalize w2.setCell ⟨po, 0, none⟩ (.slice (some ⟨g, 0, none⟩) (out.length + 1) capg) = w3 at *
    clear co1 fo1 cs1 fs1 co2 fo2 cs2 fs2 co3 cs3 HX HB1
    obtain ⟨out2, ho2⟩ : ∃ o, out ++ [v1] = o := ⟨_, rfl⟩
    have e2 : out.length + 1 = out2.length := by rw [← ho2]; simp
    rw [ho2] at HB2
    rw [e2]
    have hl2 : out2.length ≤ 200000 := by omega
    have HO2 := Lib.hid ho2
    clear e2 ho2
    have co2 := HB2.out.ho.cell (k := 0) rfl
    have fo2 := HB2.out.ho.free 0
    have cs2 := HB2.out.hs.cell HN.out
    have fs2 := HB2.out.hs.free f
    have hsz2 := HB2.out.lb
    have HX := Lib.hid ((HB2.out.go ((Ext.refl [] _).alloc (.cells #[.int .u8 v0] 5))).go ((Ext.refl _ _).drew))
    have co3 := (HB2.out.go ((Ext.refl [] w3).alloc (.cells #[.int .u8 v0] 5))).ho.cell (k := 0) rfl
    have cs3 := (HB2.out.go ((Ext.refl [] w3).alloc (.cells #[.int .u8 v0] 5))).hs.cell HN.out
    go_region_law ((refine step_append_lies _ (by rfl) (.tmp 32) (.tmp 37) 29 (by rfl) base 5 i0 (.int .u8 0) 1 1 Try.underlying29 hi hz0 hz1 hz2 rfl (by decide) _ _ _ (by rfl) HX.out.own ⟨w3.heap.size, 0, none⟩ 1 1 [.int .u8 v0] (by rfl) (by rfl) (World.news_of_block (cs := #[.int .u8 v0]) (t := 5) (fr := (0, 0)) (heap_alloc_new w3 _)) (by simp [Value.oneCell']) (by omega) (by unfold maxLen; omega) (by omega) (by simp; omega) _ rfl ?_; intro gg capgg w4 hown hgrow hat hlt; have hb2 := HX.out.ho2 hgrow; have co2 := hb2.cell (k := 0) rfl; have fo2 := hb2.free 0; have hb3 := HX.out.hs2 hgrow; have cs2 := hb3.cell HN.out; have fs2 := hb3.free f; have HB3 := Lib.hid (HX.out.app hown hgrow hat); clear hb3 hb2 hown hgrow hat))
  all_goals
    go_wp2
    go_end0
    exact ⟨rfl, some ⟨gg, 0, none⟩, capgg, by rw [show encB 2 n = [v1] ++ [v0] from by rw [← hv0, ← hv1]; rfl, ← List.append_assoc, HO2.out]; first | exact HB3.out.setf f hf 0 | exact (HB3.out.go ((Ext.refl _ _).drew)).setf f hf 0⟩

set_option maxRecDepth 100000 in
set_option maxHeartbeats 4000000 in
theorem each2_no (w0 w : World) (base sb pk po : Nat) (x : St) (A : Option Addr) (c : Nat) (out : List Int) (h : BS w0 w base sb pk po x A c out false) (hl : out.length ≤ 100000) (f : Nat) (hf : f < 8) (n : Int) (hn : x.cells[f]? = some (.int .i64 n)) :
    Calls Try.prog 23 #[.pointer (some ⟨sb, f, none⟩), .int .i64 2, .pointer (some ⟨pk, 0, none⟩), .pointer (some ⟨po, 0, none⟩)] w fun e w' => e = .returned (.tuple #[]) ∧ ∃ A' c', BS w0 w' base sb pk po (x.put f 0) A' c' (out ++ encB 2 n) false := by
  obtain ⟨i0, hi, hz0, hz1, hz2⟩ := info_parts info5
  have ck := h.hk.cell (k := 0) rfl
  have fk := h.hk.free 0
  have cs := h.hs.cell hn
  have fs := h.hs.free f
  have n1 := h.ne.1
  have n2 := h.ne.2.1
  have n3 := h.ne.2.2
  have HB := Lib.hid h
  have HN := Lib.hid hn
  clear h hn
  go_enter Try.func23, Try.ntmps23
  go_wp2
  go_region
  go_wp2
  have hb1 := (HB.out.setk false).go (w' := (w.setCell ⟨pk, 0, none⟩ (.bool false)).drew) ((Ext.refl _ _).drew)
  have HB1 := Lib.hid hb1
  clear ck fk cs fs HB hb1
  generalize (w.setCell ⟨pk, 0, none⟩ (.bool false)).drew = w1 at *
  obtain ⟨v0, hv0⟩ : ∃ v, IntKind.u8.wrap n = v := ⟨_, rfl⟩
  obtain ⟨v1, hv1⟩ : ∃ v, IntKind.u8.wrap (n / 256) = v := ⟨_, rfl⟩
  have co1 := HB1.out.ho.cell (k := 0) rfl
  have fo1 := HB1.out.ho.free 0
  have cs1 := HB1.out.hs.cell HN.out
  have fs1 := HB1.out.hs.free f
  have hsz1 := HB1.out.lb
  have hlo1 : (out).length ≤ 200000 := by (try simp); omega
  have HX := Lib.hid ((HB1.out.go ((Ext.refl [] _).alloc (.cells #[.int .u8 v1] 5))).go ((Ext.refl _ _).drew))
  have co3 := (HB1.out.go ((Ext.refl [] w1).alloc (.cells #[.int .u8 v1] 5))).ho.cell (k := 0) rfl
  have cs3 := (HB1.out.go ((Ext.refl [] w1).alloc (.cells #[.int .u8 v1] 5))).hs.cell HN.out
  go_region_law ((refine step_append_lies _ (by rfl) (.tmp 24) (.tmp 30) 29 (by rfl) base 5 i0 (.int .u8 0) 1 1 Try.underlying29 hi hz0 hz1 hz2 rfl (by decide) _ _ _ (by rfl) HX.out.own ⟨w1.heap.size, 0, none⟩ 1 1 [.int .u8 v1] (by rfl) (by rfl) (World.news_of_block (cs := #[.int .u8 v1]) (t := 5) (fr := (0, 0)) (heap_alloc_new w1 _)) (by simp [Value.oneCell']) (by omega) (by unfold maxLen; omega) (by omega) (by simp; omega) _ rfl ?_; intro g capg w2 hown hgrow hat hlt; have hb2 := HX.out.ho2 hgrow; have co2 := hb2.cell (k := 0) rfl; have fo2 := hb2.free 0; have hb3 := HX.out.hs2 hgrow; have cs2 := hb3.cell HN.out; have fs2 := hb3.free f; have HB2 := Lib.hid (HX.out.app hown hgrow hat); clear hb3 hb2 hown hgrow hat))
  all_goals
    go_wp2
    generalize w2.setCell ⟨po, 0, none⟩ (.slice (some ⟨g, 0, none⟩) (out.length + 1) capg) = w3 at *
    clear co1 fo1 cs1 fs1 co2 fo2 cs2 fs2 co3 cs3 HX HB1
    obtain ⟨out2, ho2⟩ : ∃ o, out ++ [v1] = o := ⟨_, rfl⟩
    have e2 : out.length + 1 = out2.length := by rw [← ho2]; simp
    rw [ho2] at HB2
    rw [e2]
    have hl2 : out2.length ≤ 200000 := by omega
    have HO2 := Lib.hid ho2
    clear e2 ho2
    have co2 := HB2.out.ho.cell (k := 0) rfl
    have fo2 := HB2.out.ho.free 0
    have cs2 := HB2.out.hs.cell HN.out
    have fs2 := HB2.out.hs.free f
    have hsz2 := HB2.out.lb
    have HX := Lib.hid ((HB2.out.go ((Ext.refl [] _).alloc (.cells #[.int .u8 v0] 5))).go ((Ext.refl _ _).drew))
    have co3 := (HB2.out.go ((Ext.refl [] w3).alloc (.cells #[.int .u8 v0] 5))).ho.cell (k := 0) rfl
    have cs3 := (HB2.out.go ((Ext.refl [] w3).alloc (.cells #[.int .u8 v0] 5))).hs.cell HN.out
    go_region_law ((refine step_append_lies _ (by rfl) (.tmp 32) (.tmp 37) 29 (by rfl) base 5 i0 (.int .u8 0) 1 1 Try.underlying29 hi hz0 hz1 hz2 rfl (by decide) _ _ _ (by rfl) HX.out.own ⟨w3.heap.size, 0, none⟩ 1 1 [.int .u8 v0] (by rfl) (by rfl) (World.news_of_block (cs := #[.int .u8 v0]) (t := 5) (fr := (0, 0)) (heap_alloc_new w3 _)) (by simp [Value.oneCell']) (by omega) (by unfold maxLen; omega) (by omega) (by simp; omega) _ rfl ?_; intro gg capgg w4 hown hgrow hat hlt; have hb2 := HX.out.ho2 hgrow; have co2 := hb2.cell (k := 0) rfl; have fo2 := hb2.free 0; have hb3 := HX.out.hs2 hgrow; have cs2 := hb3.cell HN.out; have fs2 := hb3.free f; have HB3 := Lib.hid (HX.out.app hown hgrow hat); clear hb3 hb2 hown hgrow hat))
  all_goals
    go_wp2
    go_end0
    exact ⟨rfl, some ⟨gg, 0, none⟩, capgg, by rw [show encB 2 n = [v1] ++ [v0] from by rw [← hv0, ← hv1]; rfl, ← List.append_assoc, HO2.out]; first | exact HB3.out.setf f hf 0 | exact (HB3.out.go ((Ext.refl _ _).drew)).setf f hf 0⟩


end Go.Proofs.Ythedllndcibkcaa
