/- What holds of a pool that was played. -/
import Derived.Test.YtkdmilchklmefaaClock
namespace Go.Proofs.Ytkdmilchklmefaa
open Go.RowKit
set_option linter.unusedVariables false
set_option linter.unusedSimpArgs false

structure PS (w : World) (b g : Nat) (wr : World) (F : List (Fr ByteArray)) (h : Nat) : Prop where
  p : sPool wr b g F h
  few : Few 1000 F
  uniq : Uniq F
  ext : Ext [] w wr
  new : w.heap.size ≤ b ∧ w.heap.size ≤ g
section
variable {w wr w1 : World} {b g h h' : Nat} {F F' : List (Fr ByteArray)}
theorem PS.to (a : PS w b g wr F h) (u : sPU wr w1 b g F' h') (hf : Few 1000 F') (hu : Uniq F') : PS w b g w1 F' h' :=
  ⟨u.1, hf, hu, a.ext.new u.2 (by have := a.new; intro x hx; simp at hx; omega), a.new⟩
theorem PS.same (a : PS w b g wr F h) (e : Ext [] wr w1) : PS w b g w1 F h := ⟨a.p.same e, a.few, a.uniq, a.ext.trans e, a.new⟩
theorem PS.vic_none (a : PS w b g wr F h) (ha : F.any cand = false) :
    Calls Try.prog 17 #[.pointer (some ⟨b, 0, none⟩)] wr fun e w' => e = .returned (.tuple #[.int .i64 0, .int .i64 8]) ∧ PS w b g w' F h := by
  refine (svictim_any wr b g h F a.p a.few).mono ?_
  rintro e w' ⟨rfl, hu⟩
  rw [Ytkdmilchklmefaa.vic_none ha] at hu ⊢
  exact ⟨rfl, a.to hu a.few a.uniq⟩
theorem PS.vic_some (a : PS w b g wr F h) {id : Int} {F' : List (Fr ByteArray)} {h' : Nat} (hv : vic F h = (id, 0, F', h')) :
    Calls Try.prog 17 #[.pointer (some ⟨b, 0, none⟩)] wr fun e w' => e = .returned (.tuple #[.int .i64 id, .int .i64 0]) ∧ PS w b g w' F' h' := by
  refine (svictim_any wr b g h F a.p a.few).mono ?_
  rintro e w' ⟨rfl, hu⟩
  have al : Alike F (vic F h).2.2.1 := vic_alike
  rw [hv] at hu al ⊢
  exact ⟨rfl, a.to hu (al.few a.few) (al.uniq a.uniq)⟩
theorem PS.get (a : PS w b g wr F h) (id : Int) :
    Calls Try.prog 21 #[.pointer (some ⟨b, 0, none⟩), .int .i64 id] wr fun e w' => e = .returned (.tuple #[.string (xOf ByteArray.empty F id), .bool (find F id).isSome]) ∧ PS w b g w' (upd F id mrkU) h := by
  refine (sget_any wr b g h F a.p id).mono ?_
  rintro e w' ⟨rfl, hu⟩
  exact ⟨rfl, a.to hu (a.few.upd id mrk_few (Int.le_refl _)) (a.uniq.upd id _ mrk_same)⟩
theorem PS.unfix (a : PS w b g wr F h) (id : Int) :
    Calls Try.prog 18 #[.pointer (some ⟨b, 0, none⟩), .int .i64 id] wr fun e w' => e = .returned (.int .i64 (ans F id unfK)) ∧ PS w b g w' (upd F id unfU) h ∧ Ext [b, g] wr w' := by
  refine (sunfix_any wr b g h F a.p (a.few.mono (by omega)) id).mono ?_
  rintro e w' ⟨rfl, hu⟩
  exact ⟨rfl, a.to hu (a.few.upd id unf_few (Int.le_refl _)) (a.uniq.upd id _ fun f hf => ⟨(unfU_same f).1.symm.trans hf, (unfU_same f).2⟩), hu.2⟩
theorem PS.drop (a : PS w b g wr F h) (id : Int) :
    Calls Try.prog 19 #[.pointer (some ⟨b, 0, none⟩), .int .i64 id] wr fun e w' => e = .returned (.int .i64 (ans F id drpK)) ∧ PS w b g w' (upd F id (drpU ByteArray.empty)) h := by
  refine (sdrop_any wr b g h F a.p id).mono ?_
  rintro e w' ⟨rfl, hu⟩
  exact ⟨rfl, a.to hu (a.few.upd id (drp_few _ (by omega)) (Int.le_refl _)) (a.uniq.upd id _ (drpU_same _))⟩
end

end Go.Proofs.Ytkdmilchklmefaa
