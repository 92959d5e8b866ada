/- A pool's frames: plain lists; as they lie in memory. -/
import Derived.Test.YtkdmilchklmefaaMem
namespace Go.Proofs.Ytkdmilchklmefaa
open Go.RowKit
set_option linter.unusedVariables false
set_option linter.unusedSimpArgs false

/-- A frame. -/
structure Fr (X : Type) where
  there : Bool
  id : Int
  x : X
  mark : Bool
  fixes : Int
  dirty : Bool
  rc : Int

/-- A frame's cells. -/
def encF {X : Type} (V : X → Value) (f : Fr X) : List Value := [.bool f.there, .int .i64 f.id, V f.x, .bool f.mark, .int .i64 f.fixes, .bool f.dirty, .int .u64 f.rc]
theorem encF_length {X : Type} (V : X → Value) (f : Fr X) : (encF V f).length = 7 := rfl

def hitB {X : Type} (f : Fr X) (id : Int) : Bool := f.there && (f.id == id)
/-- A page's frame. -/
def find {X : Type} (F : List (Fr X)) (id : Int) : Option Nat := F.findIdx? (hitB · id)
theorem find_hit {X : Type} {F : List (Fr X)} {id : Int} {i : Nat} (h : find F id = some i) : (∃ f, F[i]? = some f ∧ hitB f id = true) ∧ ∀ j : Nat, j < i → ∀ q : Fr X, F[j]? = some q → hitB q id = false := by
  unfold find at h
  rw [List.findIdx?_eq_some_iff_getElem] at h
  obtain ⟨hl, h1, h2⟩ := h
  refine ⟨⟨F[i], List.getElem?_eq_getElem hl, h1⟩, fun j hj q hq => ?_⟩
  have := h2 j hj
  rw [List.getElem?_eq_getElem (by omega)] at hq
  injection hq with hq
  subst hq
  simpa using this
theorem find_miss {X : Type} {F : List (Fr X)} {id : Int} (h : find F id = none) : ∀ (j : Nat) (q : Fr X), F[j]? = some q → hitB q id = false := by
  unfold find at h
  rw [List.findIdx?_eq_none_iff] at h
  intro j q hq
  exact h q (List.mem_of_getElem? hq)

/-- A pool: its block and its frames' block, their types, the frames, the hand. -/
structure Pool {X : Type} (V : X → Value) (tb tg : Nat) (w : World) (b g : Nat) (F : List (Fr X)) (h : Nat) : Prop where
  hd : Blk w b tb [.slice (some ⟨g, 0, none⟩) F.length F.length, .int .i64 h]
  hc : Blk w g tg (encs (encF V) F)
  few : 1 ≤ F.length ∧ F.length ≤ 16
  hand : h < F.length
  ne : b ≠ g
section
variable {X : Type} {V : X → Value} {tb tg : Nat} {w w' : World} {b g h : Nat} {F : List (Fr X)}
theorem Pool.frames (p : Pool V tb tg w b g F h) : w.cell? ⟨b, 0, none⟩ = some (.slice (some ⟨g, 0, none⟩) F.length F.length) := p.hd.cell rfl
theorem Pool.handc (p : Pool V tb tg w b g F h) : w.cell? ⟨b, 1, none⟩ = some (.int .i64 h) := p.hd.cell rfl
theorem Pool.cells (p : Pool V tb tg w b g F h) {i : Nat} {f : Fr X} (hi : F[i]? = some f) :
    w.cell? ⟨g, i * 7, none⟩ = some (.bool f.there) ∧ w.cell? ⟨g, i * 7 + 1, none⟩ = some (.int .i64 f.id) ∧ w.cell? ⟨g, i * 7 + 2, none⟩ = some (V f.x) ∧ w.cell? ⟨g, i * 7 + 3, none⟩ = some (.bool f.mark) ∧
    w.cell? ⟨g, i * 7 + 4, none⟩ = some (.int .i64 f.fixes) ∧ w.cell? ⟨g, i * 7 + 5, none⟩ = some (.bool f.dirty) ∧ w.cell? ⟨g, i * 7 + 6, none⟩ = some (.int .u64 f.rc) := by
  have k : ∀ j, j < 7 → (encs (encF V) F)[i * 7 + j]? = (encF V f)[j]? := fun j hj => encs_get (encF_length V) hi hj
  exact ⟨p.hc.cell (by have := k 0 (by omega); simpa [encF] using this), p.hc.cell (by rw [k 1 (by omega)]; rfl), p.hc.cell (by rw [k 2 (by omega)]; rfl), p.hc.cell (by rw [k 3 (by omega)]; rfl),
    p.hc.cell (by rw [k 4 (by omega)]; rfl), p.hc.cell (by rw [k 5 (by omega)]; rfl), p.hc.cell (by rw [k 6 (by omega)]; rfl)⟩
theorem Pool.free (p : Pool V tb tg w b g F h) (k : Nat) : w.frozen? ⟨g, k, none⟩ = false := p.hc.free k
theorem Pool.freeb (p : Pool V tb tg w b g F h) (k : Nat) : w.frozen? ⟨b, k, none⟩ = false := p.hd.free k
theorem Pool.ext {S : List Nat} (p : Pool V tb tg w b g F h) (he : Ext S w w') (h1 : b ∉ S) (h2 : g ∉ S) : Pool V tb tg w' b g F h := ⟨p.hd.ext he h1, p.hc.ext he h2, p.few, p.hand, p.ne⟩
theorem Pool.same (p : Pool V tb tg w b g F h) (he : Ext [] w w') : Pool V tb tg w' b g F h := p.ext he (by simp) (by simp)
/-- One cell of a frame set. -/
theorem Pool.set (p : Pool V tb tg w b g F h) {i j : Nat} {f f' : Fr X} {v : Value} (hi : F[i]? = some f) (hj : j < 7) (hf : encF V f' = (encF V f).set j v) : Pool V tb tg (w.setCell ⟨g, i * 7 + j, none⟩ v) b g (F.set i f') h := by
  refine ⟨?_, ?_, by simpa using p.few, by simpa using p.hand, p.ne⟩
  · rw [List.length_set]; exact p.hd.far p.ne _
  · rw [← encs_set (encF_length V) hi hj hf]; exact p.hc.set _ _
theorem Pool.set0 (p : Pool V tb tg w b g F h) {i : Nat} {f f' : Fr X} {v : Value} (hi : F[i]? = some f) (hf : encF V f' = (encF V f).set 0 v) : Pool V tb tg (w.setCell ⟨g, i * 7, none⟩ v) b g (F.set i f') h := p.set (j := 0) hi (by omega) hf
/-- A whole frame set. -/
theorem Pool.store (p : Pool V tb tg w b g F h) {i : Nat} {f : Fr X} (f' : Fr X) (hi : F[i]? = some f) :
    Pool V tb tg (((((((w.setCell ⟨g, i * 7, none⟩ (.bool f'.there)).setCell ⟨g, i * 7 + 1, none⟩ (.int .i64 f'.id)).setCell ⟨g, i * 7 + 2, none⟩ (V f'.x)).setCell ⟨g, i * 7 + 3, none⟩ (.bool f'.mark)).setCell ⟨g, i * 7 + 4, none⟩ (.int .i64 f'.fixes)).setCell
      ⟨g, i * 7 + 5, none⟩ (.bool f'.dirty)).setCell ⟨g, i * 7 + 6, none⟩ (.int .u64 f'.rc)) b g (F.set i f') h := by
  refine ⟨?_, ?_, by simpa using p.few, by simpa using p.hand, p.ne⟩
  · rw [List.length_set]; exact ((((((p.hd.far p.ne _).far p.ne _).far p.ne _).far p.ne _).far p.ne _).far p.ne _).far p.ne _
  · rw [← encs_store (encF_length V) f' hi]; exact ((((((p.hc.set _ _).set _ _).set _ _).set _ _).set _ _).set _ _).set _ _
theorem Pool.turn2 (p : Pool V tb tg w b g F h) (v : Value) {h' : Nat} (hh : h' < F.length) : Pool V tb tg ((w.setCell ⟨b, 1, none⟩ v).setCell ⟨b, 1, none⟩ (.int .i64 h')) b g F h' :=
  ⟨(p.hd.set 1 _).set 1 _, (p.hc.far (fun e => p.ne e.symm) _).far (fun e => p.ne e.symm) _, p.few, hh, p.ne⟩
theorem Pool.turn3 (p : Pool V tb tg w b g F h) (v : Value) {h' : Nat} (hh : h' < F.length) (n m : Nat) : Pool V tb tg ((((w.drewN n).setCell ⟨b, 1, none⟩ v).drewN m).setCell ⟨b, 1, none⟩ (.int .i64 h')) b g F h' :=
  ⟨(((p.hd.drewN n).set 1 _).drewN m).set 1 _, (((p.hc.drewN n).far (fun e => p.ne e.symm) _).drewN m).far (fun e => p.ne e.symm) _, p.few, hh, p.ne⟩
theorem Pool.turn (p : Pool V tb tg w b g F h) {h' : Nat} (hh : h' < F.length) : Pool V tb tg (w.setCell ⟨b, 1, none⟩ (.int .i64 h')) b g F h' :=
  ⟨p.hd.set 1 _, p.hc.far (fun e => p.ne e.symm) _, p.few, hh, p.ne⟩
end

/-- What a call makes of a pool. -/
def PU {X : Type} (V : X → Value) (tb tg : Nat) (w w' : World) (b g : Nat) (F' : List (Fr X)) (h' : Nat) : Prop := Pool V tb tg w' b g F' h' ∧ Ext [b, g] w w'

end Go.Proofs.Ytkdmilchklmefaa
