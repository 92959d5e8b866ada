/- The reference's Dirty. -/
import Derived.Test.YtkdmilchklmefaaRMeth
namespace Go.Proofs.Ytkdmilchklmefaa
open Go.RowKit
set_option linter.unusedVariables false
set_option linter.unusedSimpArgs false

/-- The first numbers. -/
def ids (n : Nat) : List Int := (List.range n).map fun (i : Nat) => (i : Int)
theorem ids_next (n : Nat) : ids (n + 1) = ids n ++ [(n : Int)] := by unfold ids; rw [List.range_succ, List.map_append]; rfl
theorem ids_length (n : Nat) : (ids n).length = n := by unfold ids; simp
theorem drL_ids (F : List (Fr ByteArray)) (n : Nat) : drL F (ids n) = drL F (pgN F n) := by
  induction n with
  | zero => rfl
  | succ n ih =>
    rw [ids_next, drL_snoc, pgN_next, ih]
    cases hf : find F (n : Int) with
    | none =>
      have : recF F (n : Int) = none := by unfold recF; rw [hf]
      simp [this, rowOf]
    | some i => simp only [Option.isSome_some, if_true]; rw [drL_snoc]
theorem rrec_any (w : World) (b g cap h : Nat) (tl : List Value) (F : List (Fr ByteArray)) (hp : RPool w b g cap tl F h) (id : Int) :
    Calls Try.prog 44 #[.pointer (some ⟨b, 0, none⟩), .int .i64 id] w fun e w' => e = .returned (.tuple #[.int .u64 ((recF F id).getD 0), .bool (recF F id).isSome]) ∧ w = w' := by
  cases hf : find F id with
  | none =>
    have e : recF F id = none := by unfold recF; rw [hf]
    rw [e]
    exact rrec_miss w b g cap h tl F hp id hf
  | some i =>
    obtain ⟨⟨f, hi, _⟩, _⟩ := find_hit hf
    cases hd : f.dirty with
    | false =>
      have e : recF F id = none := by unfold recF; rw [hf]; simp [hi, hd]
      rw [e]
      exact rrec_clean w b g cap h tl F hp id i f hf hi hd
    | true =>
      have e : recF F id = some f.rc := by unfold recF; rw [hf]; simp [hi, hd]
      rw [e]
      exact rrec_dirty w b g cap h tl F hp id i f hf hi hd

set_option maxHeartbeats 4000000 in
theorem rdirty_any (w : World) (b g cap h : Nat) (tl : List Value) (F : List (Fr ByteArray)) (hp : RPool w b g cap tl F h) :
    Calls Try.prog 45 #[.pointer (some ⟨b, 0, none⟩)] w fun e w' => ∃ A c, e = .returned (.slice A (drL F (ids 32)).length c) ∧ w'.ownsRow w.heap.size 37 2 (.slice A (drL F (ids 32)).length c) (drL F (ids 32)).length (encs encD (drL F (ids 32))) ∧ Ext [] w w' := by
  have HP := Lib.hid hp
  clear hp
  obtain ⟨i0, hi, hz0, hz1, hz2⟩ := info_parts Try.info37
  go_enter Try.func45, Try.ntmps45
  go_wp2
  go_loopw [3, 4] (fun v i wr => ∃ j : Nat, j ≤ 32 ∧ i = .int .i64 j ∧ (∃ A c, v = .slice A (drL F (ids j)).length c ∧ wr.ownsRow w.heap.size 37 2 v (drL F (ids j)).length (encs encD (drL F (ids j)))) ∧ Ext [] w wr) (fun _ i _ => 32 - (intOf i).toNat)
  case atStart => exact ⟨0, Nat.zero_le _, rfl, ⟨none, 0, rfl, World.ownsRow_nil _ _ _ _⟩, Ext.refl _ _⟩
  case round =>
    obtain ⟨j, hj, rfl, ⟨A, c, rfl, hown⟩, hext⟩ := hrel
    have hsz := hext.size
    have HO := Lib.hid hown
    have HE := Lib.hid hext
    clear hown hext
    by_cases hlt : j < 32
    · have hlt' : (j : Int) < 32 := by omega
      have hsn : drL F (ids (j + 1)) = drL F (ids j) ++ rowOf (j : Int) (recF F (j : Int)) := by rw [ids_next, drL_snoc]
      have hdl := drL_length F (ids j)
      rw [ids_length] at hdl
      rcases hrr : recF F (j : Int) with _ | r
      · rw [hrr] at hsn
        simp only [rowOf, List.append_nil] at hsn
        have HS := Lib.hid hsn
        have HRR : Hid (∀ w', RPool w' b g cap tl F h → Calls Try.prog 44 #[.pointer (some ⟨b, 0, none⟩), .int .i64 (j : Int)] w' fun e w'' => e = .returned (.tuple #[.int .u64 0, .bool false]) ∧ w' = w'') := fun w' hd => by
          have := rrec_any w' b g cap h tl F hd j
          rw [hrr] at this; exact this
        clear hsn hrr
        go_wp2_with (go_at_call 44; refine (HRR.out _ (HP.out.same HE.out)).mono ?_; rintro e w' ⟨rfl, rfl⟩)
        go_roundw
        case rel => exact ⟨j + 1, by omega, by go_num, by rw [HS.out]; exact ⟨A, c, rfl, HO.out⟩, HE.out⟩
        case measure => simp [intOf]; omega
      · rw [hrr] at hsn
        simp only [rowOf] at hsn
        have HS := Lib.hid hsn
        have HRR : Hid (∀ w', RPool w' b g cap tl F h → Calls Try.prog 44 #[.pointer (some ⟨b, 0, none⟩), .int .i64 (j : Int)] w' fun e w'' => e = .returned (.tuple #[.int .u64 r, .bool true]) ∧ w' = w'') := fun w' hd => by
          have := rrec_any w' b g cap h tl F hd j
          rw [hrr] at this; exact this
        clear hsn hrr
        generalize drL F (ids j) = l at *
        go_wp2_with (first
          | (go_at_call 44; refine (HRR.out _ (HP.out.same HE.out)).mono ?_; rintro e w' ⟨rfl, rfl⟩)
          | (at_builtin; refine wpList_append_lies _ rfl (.tmp 18) (.tmp 22) 34 rfl w.heap.size 37 i0 (.agg #[.int .i64 0, .int .u64 0]) 2 16 Try.underlying34 hi hz0 hz1 hz2 rfl (by decide) _ _ _ rfl (HO.out.alloc _) _ 1 1 [.int .i64 (j : Int), .int .u64 r] rfl rfl ?c1 ?c2 (by omega) ?c3 ?c4 ?c5 _ rfl ?kk))
        case c1 =>
          intro i u hu
          match i, hu with
          | 0, hu => simp at hu; subst hu; simp [Addr.add]
          | 1, hu => simp at hu; subst hu; simp [Addr.add]
        case c2 => intro u hu; simp at hu; rcases hu with rfl | rfl <;> rfl
        case c3 => unfold maxLen; omega
        case c4 => omega
        case c5 => simp; omega
        case kk =>
          intro gg cap w2 hown hgrow hat hgl
          have HE2 := Lib.hid ((HE.out.alloc (.cells #[.int .i64 (j : Int), .int .u64 r] 37)).grown hgrow (fun k hk hlt => by have := HO.out.lt k hk; omega))
          have HO2 : Hid (w2.ownsRow w.heap.size 37 2 (.slice (some ⟨gg, 0, none⟩) (l.length + 1) cap) (l ++ [((j : Int), r)]).length (encs encD (l ++ [((j : Int), r)]))) := by
            have e : (l ++ [((j : Int), r)]).length = l.length + 1 := by simp
            unfold Hid; rw [encs_snoc, e]; exact hown
          clear hown hgrow hat
          go_wp2
          go_roundw
          case rel => exact ⟨j + 1, by omega, by go_num, by rw [HS.out]; exact ⟨some ⟨gg, 0, none⟩, cap, by simp, HO2.out⟩, HE2.out⟩
          case measure => simp [intOf]; omega
    · have e : j = 32 := by omega
      subst e
      go_wp2
      go_ret
      exact ⟨A, c, rfl, HO.out, HE.out⟩

end Go.Proofs.Ytkdmilchklmefaa
