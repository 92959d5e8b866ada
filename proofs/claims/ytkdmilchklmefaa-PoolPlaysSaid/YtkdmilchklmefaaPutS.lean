/- Put and Pages. -/
import Derived.Test.YtkdmilchklmefaaFindS
import Derived.Test.YtkdmilchklmefaaPure
namespace Go.Proofs.Ytkdmilchklmefaa
open Go.RowKit
set_option linter.unusedVariables false
set_option linter.unusedSimpArgs false

/-- Numbers, rows of a dirty list, of the call's own. -/
abbrev sInts (w : World) (base : Nat) (v : Value) (l : List Int) : Prop := w.ownsRow base 3 1 v l.length (l.map (Value.int .i64))

set_option maxHeartbeats 1000000 in
theorem sput_bad (d : Value) (w : World) (id : Int) (x : ByteArray) (hid : ¬ (0 ≤ id ∧ id < 32)) :
    Calls Try.prog 11 #[d, .int .i64 id, Value.string x] w fun e w' => e = .returned (.int .i64 1) ∧ w = w' := by
  by_cases h0 : id < 0
  · clear hid
    go_enter Try.func11, Try.ntmps11
    go_wp2
    go_ret
    exact ⟨rfl, rfl⟩
  · have h1 : (32 : Int) ≤ id := by omega
    clear hid
    go_enter Try.func11, Try.ntmps11
    go_wp2
    go_ret
    exact ⟨rfl, rfl⟩

set_option maxHeartbeats 1000000 in
theorem sput_exists (w : World) (b g h : Nat) (F : List (Fr ByteArray)) (hp : sPool w b g F h) (id : Int) (x : ByteArray) (h0 : 0 ≤ id) (h1 : id < 32) (i : Nat) (hf : find F id = some i) :
    Calls Try.prog 11 #[.pointer (some ⟨b, 0, none⟩), .int .i64 id, Value.string x] w fun e w' => e = .returned (.int .i64 6) ∧ w = w' := by
  have HP := Lib.hid hp
  have HI := Lib.hid hf
  clear hp hf
  go_enter Try.func11, Try.ntmps11
  go_wp2_with (go_at_call 36; refine (sfind_hit _ b g h F HP.out id i HI.out).mono ?_; rintro e w' ⟨rfl, rfl⟩)
  go_ret
  exact ⟨rfl, rfl⟩

set_option maxHeartbeats 1000000 in
theorem sput_first (w : World) (b g h : Nat) (F : List (Fr ByteArray)) (hp : sPool w b g F h) (id : Int) (x : ByteArray) (h0 : 0 ≤ id) (h1 : id < 32) (hf : find F id = none) (i : Nat) (he : empty F = some i) :
    Calls Try.prog 11 #[.pointer (some ⟨b, 0, none⟩), .int .i64 id, Value.string x] w fun e w' => e = .returned (.int .i64 0) ∧ PU Value.string 66 71 w w' b g (F.set i ⟨true, id, x, true, 0, false, 0⟩) h := by
  have hfew := hp.few
  have c0 := hp.frames
  have HP := Lib.hid hp
  have HI := Lib.hid hf
  have HE := Lib.hid (empty_hit he)
  clear hp hf he
  go_enter Try.func11, Try.ntmps11
  go_wp2_with (go_at_call 36; refine (sfind_miss _ b g h F HP.out id HI.out).mono ?_; rintro e w' ⟨rfl, rfl⟩)
  go_loop [25] (fun k => ∃ j : Nat, j ≤ i ∧ k = .int .i64 j) (fun k => i + 1 - (intOf k).toNat)
  case atStart => exact ⟨0, Nat.zero_le _, rfl⟩
  case round =>
    obtain ⟨j, hj, rfl⟩ := hrel
    obtain ⟨f, hfi, hh⟩ := HE.out.1
    have hil : i < F.length := (List.getElem?_eq_some_iff.1 hfi).1
    by_cases hlt : j < i
    · obtain ⟨q, hq⟩ : ∃ q, F[j]? = some q := ⟨F[j]'(by omega), by rw [List.getElem?_eq_getElem (by omega)]⟩
      have hn := HE.out.2 j hlt q hq
      obtain ⟨k0, _⟩ := HP.out.cells hq
      rw [hn] at k0
      have hlen : j < F.length := by omega
      clear hq hfi hh hn
      go_wp2
      go_round
      case rel => exact ⟨j + 1, by omega, by go_num⟩
      case measure => simp [intOf]; omega
    · have e : j = i := by omega
      subst e
      obtain ⟨k0, k1, k2, k3, k4, k5, k6⟩ := HP.out.cells hfi
      rw [hh] at k0
      have f0 := HP.out.free (j * 7)
      have f1 := HP.out.free (j * 7 + 1)
      have f2 := HP.out.free (j * 7 + 2)
      have f3 := HP.out.free (j * 7 + 3)
      have f4 := HP.out.free (j * 7 + 4)
      have f5 := HP.out.free (j * 7 + 5)
      have f6 := HP.out.free (j * 7 + 6)
      have HF := Lib.hid hfi
      clear hfi hh
      go_wp2
      go_ret
      exact ⟨rfl, HP.out.store ⟨true, id, x, true, 0, false, 0⟩ HF.out, (((((((Ext.refl _ _).setCell (.inl (by simp)) _).setCell (.inl (by simp)) _).setCell (.inl (by simp)) _).setCell (.inl (by simp)) _).setCell (.inl (by simp)) _).setCell (.inl (by simp)) _).setCell (.inl (by simp)) _⟩

set_option maxHeartbeats 1000000 in
theorem sput_full (w : World) (b g h : Nat) (F : List (Fr ByteArray)) (hp : sPool w b g F h) (id : Int) (x : ByteArray) (h0 : 0 ≤ id) (h1 : id < 32) (hf : find F id = none) (he : empty F = none) :
    Calls Try.prog 11 #[.pointer (some ⟨b, 0, none⟩), .int .i64 id, Value.string x] w fun e w' => e = .returned (.int .i64 8) ∧ w = w' := by
  have hfew := hp.few
  have c0 := hp.frames
  have HP := Lib.hid hp
  have HI := Lib.hid hf
  have HE := Lib.hid (empty_miss he)
  clear hp hf he
  go_enter Try.func11, Try.ntmps11
  go_wp2_with (go_at_call 36; refine (sfind_miss _ b g h F HP.out id HI.out).mono ?_; rintro e w' ⟨rfl, rfl⟩)
  go_loop [25] (fun k => ∃ j : Nat, j ≤ F.length ∧ k = .int .i64 j) (fun k => F.length - (intOf k).toNat)
  case atStart => exact ⟨0, Nat.zero_le _, rfl⟩
  case round =>
    obtain ⟨j, hj, rfl⟩ := hrel
    by_cases hlt : j < F.length
    · obtain ⟨q, hq⟩ : ∃ q, F[j]? = some q := ⟨F[j], by simp [hlt]⟩
      have hn := HE.out j q hq
      obtain ⟨k0, _⟩ := HP.out.cells hq
      rw [hn] at k0
      clear hq hn
      go_wp2
      go_round
      case rel => exact ⟨j + 1, by omega, by go_num⟩
      case measure => simp [intOf]; omega
    · go_wp2
      go_ret
      exact ⟨rfl, rfl⟩

set_option maxHeartbeats 2000000 in
theorem spages_any (w : World) (b g h : Nat) (F : List (Fr ByteArray)) (hp : sPool w b g F h) :
    Calls Try.prog 20 #[.pointer (some ⟨b, 0, none⟩)] w fun e w' => ∃ A c, e = .returned (.slice A (pgN F 32).length c) ∧ sInts w' w.heap.size (.slice A (pgN F 32).length c) (pgN F 32) ∧ Ext [] w w' := by
  have HP := Lib.hid hp
  clear hp
  obtain ⟨i0, hi, hz0, hz1, hz2⟩ := info_parts Try.info3
  go_enter Try.func20, Try.ntmps20
  go_wp2
  go_loopw [3, 5] (fun v i wr => ∃ j : Nat, j ≤ 32 ∧ i = .int .i64 j ∧ (∃ A c, v = .slice A (pgN F j).length c ∧ sInts wr w.heap.size v (pgN F j)) ∧ Ext [] w wr) (fun _ i _ => 32 - (intOf i).toNat)
  case atStart => exact ⟨0, Nat.zero_le _, rfl, ⟨none, 0, rfl, World.ownsRow_nil _ _ _ _⟩, Ext.refl _ _⟩
  case round =>
    obtain ⟨j, hj, rfl, ⟨A, c, rfl, hown⟩, hext⟩ := hrel
    have hsz := hext.size
    have HO := Lib.hid hown
    have HE := Lib.hid hext
    clear hown hext
    by_cases hlt : j < 32
    · have hlt' : (j : Int) < 32 := by omega
      have hsn := pgN_next F j
      have hlen := pgN_length F j
      rcases hff : find F (j : Int) with _ | q
      · rw [hff] at hsn
        simp only [Option.isSome_none, Bool.false_eq_true, if_false, List.append_nil] at hsn
        have HS := Lib.hid hsn
        have HFF := Lib.hid hff
        clear hsn hff
        go_wp2_with (go_at_call 36; refine (sfind_miss _ b g h F (HP.out.same HE.out) (j : Int) HFF.out).mono ?_; rintro e w' ⟨rfl, rfl⟩)
        go_roundw
        case rel => exact ⟨j + 1, by omega, by go_num, by rw [HS.out]; exact ⟨A, c, rfl, HO.out⟩, HE.out⟩
        case measure => simp [intOf]; omega
      · rw [hff] at hsn
        simp only [Option.isSome_some, if_true] at hsn
        have HS := Lib.hid hsn
        have HFF := Lib.hid hff
        clear hsn hff
        generalize pgN F j = l at *
        go_wp2_with (first
          | (go_at_call 36; refine (sfind_hit _ b g h F (HP.out.same HE.out) (j : Int) q HFF.out).mono ?_; rintro e w' ⟨rfl, rfl⟩)
          | (at_builtin; refine wpList_append_lies _ rfl (.tmp 12) (.tmp 14) 43 rfl w.heap.size 3 i0 (.int .i64 0) 1 8 Try.underlying43 hi hz0 hz1 hz2 rfl (by decide) _ _ _ rfl (HO.out.alloc _) _ 1 1 [.int .i64 (j : Int)] rfl rfl ?c1 ?c2 (by omega) ?c3 ?c4 ?c5 _ rfl ?kk))
        case c1 => intro i u hu; match i, hu with | 0, hu => simp at hu; subst hu; simp [Addr.add]
        case c2 => intro u hu; simp at hu; subst hu; rfl
        case c3 => unfold maxLen; omega
        case c4 => omega
        case c5 => simp; omega
        case kk =>
          intro gg cap w1 hown hgrow hat hgl
          have HE1 := Lib.hid ((HE.out.alloc (.cells #[.int .i64 (j : Int)] 3)).grown hgrow (fun k hk hlt => by have := HO.out.lt k hk; omega))
          have HO1 : Hid (sInts w1 w.heap.size (.slice (some ⟨gg, 0, none⟩) (l.length + 1) cap) (l ++ [(j : Int)])) := by
            unfold Hid sInts; simpa using hown
          clear hown hgrow hat
          go_wp2
          go_roundw
          case rel => exact ⟨j + 1, by omega, by go_num, by rw [HS.out]; exact ⟨some ⟨gg, 0, none⟩, cap, by simp, HO1.out⟩, HE1.out⟩
          case measure => simp [intOf]; omega
    · have e : j = 32 := by omega
      subst e
      go_wp2
      go_ret
      exact ⟨A, c, rfl, HO.out, HE.out⟩

end Go.Proofs.Ytkdmilchklmefaa
