/- The reference's Pages. -/
import Derived.Test.YtkdmilchklmefaaRMeth
namespace Go.Proofs.Ytkdmilchklmefaa
open Go.RowKit
set_option linter.unusedVariables false
set_option linter.unusedSimpArgs false

abbrev rInts (w : World) (base : Nat) (v : Value) (l : List Int) : Prop := w.ownsRow base 3 1 v l.length (l.map (Value.int .i64))

set_option maxHeartbeats 4000000 in
theorem rpages_any (w : World) (b g cap h : Nat) (tl : List Value) (F : List (Fr ByteArray)) (hp : RPool w b g cap tl F h) :
    Calls Try.prog 46 #[.pointer (some ⟨b, 0, none⟩)] w fun e w' => ∃ A c, e = .returned (.slice A (pgN F 32).length c) ∧ rInts w' w.heap.size (.slice A (pgN F 32).length c) (pgN F 32) ∧ Ext [] w w' := by
  have HP := Lib.hid hp
  clear hp
  obtain ⟨i0, hi, hz0, hz1, hz2⟩ := info_parts Try.info3
  go_enter Try.func46, Try.ntmps46
  go_wp2
  go_loopw [3, 4] (fun v i wr => ∃ j : Nat, j ≤ 32 ∧ i = .int .i64 j ∧ (∃ A c, v = .slice A (pgN F j).length c ∧ rInts wr w.heap.size v (pgN F j)) ∧ Ext [] w wr) (fun _ i _ => 32 - (intOf i).toNat)
  case atStart => exact ⟨0, Nat.zero_le _, rfl, ⟨none, 0, rfl, World.ownsRow_nil _ _ _ _⟩, Ext.refl _ _⟩
  case round =>
    obtain ⟨j, hj, rfl, ⟨A, c, rfl, hown⟩, hext⟩ := hrel
    have hsz := hext.size
    have HO := Lib.hid hown
    have HE := Lib.hid hext
    clear hown hext
    by_cases hlt : j < 32
    · have hlt' : (j : Int) < 32 := by omega
      have hsn := pgN_next F j
      have hlen := pgN_length F j
      rcases hff : find F (j : Int) with _ | q
      · rw [hff] at hsn
        simp only [Option.isSome_none, Bool.false_eq_true, if_false, List.append_nil] at hsn
        have HS := Lib.hid hsn
        have HFF := Lib.hid hff
        clear hsn hff
        go_wp2_with (go_at_call 57; refine (rat_miss _ b g cap h tl F (HP.out.same HE.out) (j : Int) HFF.out).mono ?_; rintro e w' ⟨rfl, rfl⟩)
        go_roundw
        case rel => exact ⟨j + 1, by omega, by go_num, by rw [HS.out]; exact ⟨A, c, rfl, HO.out⟩, HE.out⟩
        case measure => simp [intOf]; omega
      · rw [hff] at hsn
        simp only [Option.isSome_some, if_true] at hsn
        have HS := Lib.hid hsn
        have HFF := Lib.hid hff
        clear hsn hff
        generalize pgN F j = l at *
        go_wp2_with (first
          | (go_at_call 57; refine (rat_hit _ b g cap h tl F (HP.out.same HE.out) (j : Int) q HFF.out).mono ?_; rintro e w' ⟨rfl, rfl⟩)
          | (at_builtin; refine wpList_append_lies _ rfl (.tmp 13) (.tmp 15) 43 rfl w.heap.size 3 i0 (.int .i64 0) 1 8 Try.underlying43 hi hz0 hz1 hz2 rfl (by decide) _ _ _ rfl (HO.out.alloc _) _ 1 1 [.int .i64 (j : Int)] rfl rfl ?c1 ?c2 (by omega) ?c3 ?c4 ?c5 _ rfl ?kk))
        case c1 => intro i u hu; match i, hu with | 0, hu => simp at hu; subst hu; simp [Addr.add]
        case c2 => intro u hu; simp at hu; subst hu; rfl
        case c3 => unfold maxLen; omega
        case c4 => omega
        case c5 => simp; omega
        case kk =>
          intro gg cap w1 hown hgrow hat hgl
          have HE1 := Lib.hid ((HE.out.alloc (.cells #[.int .i64 (j : Int)] 3)).grown hgrow (fun k hk hlt => by have := HO.out.lt k hk; omega))
          have HO1 : Hid (rInts w1 w.heap.size (.slice (some ⟨gg, 0, none⟩) (l.length + 1) cap) (l ++ [(j : Int)])) := by
            unfold Hid rInts; simpa using hown
          clear hown hgrow hat
          go_wp2
          go_roundw
          case rel => exact ⟨j + 1, by omega, by go_num, by rw [HS.out]; exact ⟨some ⟨gg, 0, none⟩, cap, by simp, HO1.out⟩, HE1.out⟩
          case measure => simp [intOf]; omega
    · have e : j = 32 := by omega
      subst e
      go_wp2
      go_ret
      exact ⟨A, c, rfl, HO.out, HE.out⟩

end Go.Proofs.Ytkdmilchklmefaa
