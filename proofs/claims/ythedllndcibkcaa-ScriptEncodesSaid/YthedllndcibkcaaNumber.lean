/- Decode's closure; number: a step's numbers are read. -/
import Derived.Test.YthedllndcibkcaaNum
namespace Go.Proofs.Ythedllndcibkcaa
open Go.RowKit
set_option linter.unusedVariables false
set_option linter.unusedSimpArgs false

/-- A reader, its variable, a step. -/
structure DS (w0 w : World) (base rb pv sb : Nat) (c : List Value) (r : List Int) (o : Bool) : Prop where
  rd : RD w base rb r o
  hp : Blk w pv 48 [.pointer (some ⟨rb, 0, none⟩)]
  hs : Blk w sb 38 c
  ext : Ext [rb, sb] w0 w
  new : base ≤ sb
theorem DS.rdb {w0 w : World} {base rb pv sb : Nat} {c : List Value} {r : List Int} {o : Bool} (d : DS w0 w base rb pv sb c r o) : pv ≠ rb ∧ sb ≠ rb ∧ pv ≠ sb := by
  obtain ⟨A, cap, hb, _⟩ := d.rd.out
  exact ⟨d.hp.apart hb (by decide), d.hs.apart hb (by decide), d.hp.apart d.hs (by decide)⟩
theorem DS.read {w0 w w' : World} {base rb pv sb : Nat} {c : List Value} {r r' : List Int} {o o' : Bool} (d : DS w0 w base rb pv sb c r o) (h : RD w' base rb r' o') (e : Ext [rb] w w') : DS w0 w' base rb pv sb c r' o' := by
  have n := d.rdb
  exact ⟨h, d.hp.ext e (by simp; exact n.1), d.hs.ext e (by simp; exact n.2.1), d.ext.trans (e.mono (by intro x hx; simp at hx ⊢; exact .inl hx)), d.new⟩
theorem DS.put {w0 w : World} {base rb pv sb : Nat} {c : List Value} {r : List Int} {o : Bool} (d : DS w0 w base rb pv sb c r o) (f : Nat) (v : Value) : DS w0 (w.setCell ⟨sb, f, none⟩ v) base rb pv sb (c.set f v) r o := by
  have n := d.rdb
  have e : Ext [sb] w (w.setCell ⟨sb, f, none⟩ v) := (Ext.refl _ _).setCell (.inl (by simp)) _
  exact ⟨d.rd.ext e (by simp; exact fun h => n.2.1 h.symm) (by intro k hk; simp at hk; subst hk; exact d.new), d.hp.far (p := ⟨sb, f, none⟩) n.2.2 _, d.hs.set f v, d.ext.trans (e.mono (by intro x hx; simp at hx ⊢; exact .inr hx)), d.new⟩

set_option maxHeartbeats 2000000 in
theorem each_any (w0 w : World) (base rb pv sb : Nat) (c : List Value) (r : List Int) (o : Bool) (d : DS w0 w base rb pv sb c r o) (f k : Nat) (v : Value) (hf : c[f]? = some v) (hk : k = 1 ∨ k = 2) :
    Calls Try.prog 16 #[.pointer (some ⟨sb, f, none⟩), .int .i64 k, .pointer (some ⟨pv, 0, none⟩)] w fun e w' => e = .returned (.tuple #[]) ∧ DS w0 w' base rb pv sb (c.set f (.int .i64 (numV k r))) (numL k r) (numO k r o) := by
  have HD := Lib.hid d
  have p0 := d.hp.cell (k := 0) rfl
  clear d
  go_enter Try.func16, Try.ntmps16
  go_wp2_with (go_at_call 13; fail)
  refine (num_any _ base rb r o HD.out.rd k hk).mono ?_
  rintro e w1 ⟨rfl, h1, e1⟩
  have HD1 := Lib.hid (HD.out.read h1 e1)
  have c0 := HD1.out.hs.cell hf
  have f0 := HD1.out.hs.free f
  clear h1 e1 p0
  go_wp2
  go_end0
  exact ⟨rfl, HD1.out.put f _⟩

end Go.Proofs.Ythedllndcibkcaa
