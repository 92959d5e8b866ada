/- Dirty (and Full): the dirty pages. -/
import Derived.Test.YtkdmilchklmefaaMethS
import Derived.Test.YtkdmilchklmefaaPutS
namespace Go.Proofs.Ytkdmilchklmefaa
open Go.RowKit
set_option linter.unusedVariables false
set_option linter.unusedSimpArgs false


set_option maxHeartbeats 1000000 in
theorem sfull_yes (w : World) (b g h : Nat) (F : List (Fr ByteArray)) (hp : sPool w b g F h) (he : empty F = none) :
    Calls Try.prog 35 #[.pointer (some ⟨b, 0, none⟩)] w fun e w' => e = .returned (.bool true) ∧ w = w' := by
  have hfew := hp.few
  have c0 := hp.frames
  have HP := Lib.hid hp
  have HE := Lib.hid (empty_miss he)
  clear hp he
  go_enter Try.func35, Try.ntmps35
  go_wp2
  go_loop [11] (fun k => ∃ j : Nat, j ≤ F.length ∧ k = .int .i64 j) (fun k => F.length - (intOf k).toNat)
  case atStart => exact ⟨0, Nat.zero_le _, rfl⟩
  case round =>
    obtain ⟨j, hj, rfl⟩ := hrel
    by_cases hlt : j < F.length
    · obtain ⟨q, hq⟩ : ∃ q, F[j]? = some q := ⟨F[j], by simp [hlt]⟩
      have hn := HE.out j q hq
      obtain ⟨k0, _⟩ := HP.out.cells hq
      rw [hn] at k0
      clear hq hn
      go_wp2
      go_round
      case rel => exact ⟨j + 1, by omega, by go_num⟩
      case measure => simp [intOf]; omega
    · go_wp2
      go_ret
      exact ⟨rfl, rfl⟩

set_option maxHeartbeats 1000000 in
theorem sfull_no (w : World) (b g h : Nat) (F : List (Fr ByteArray)) (hp : sPool w b g F h) (i : Nat) (he : empty F = some i) :
    Calls Try.prog 35 #[.pointer (some ⟨b, 0, none⟩)] w fun e w' => e = .returned (.bool false) ∧ w = w' := by
  have hfew := hp.few
  have c0 := hp.frames
  have HP := Lib.hid hp
  have HE := Lib.hid (empty_hit he)
  clear hp he
  go_enter Try.func35, Try.ntmps35
  go_wp2
  go_loop [11] (fun k => ∃ j : Nat, j ≤ i ∧ k = .int .i64 j) (fun k => i + 1 - (intOf k).toNat)
  case atStart => exact ⟨0, Nat.zero_le _, rfl⟩
  case round =>
    obtain ⟨j, hj, rfl⟩ := hrel
    obtain ⟨f, hfi, hh⟩ := HE.out.1
    have hil : i < F.length := (List.getElem?_eq_some_iff.1 hfi).1
    by_cases hlt : j < i
    · obtain ⟨q, hq⟩ : ∃ q, F[j]? = some q := ⟨F[j]'(by omega), by rw [List.getElem?_eq_getElem (by omega)]⟩
      have hn := HE.out.2 j hlt q hq
      obtain ⟨k0, _⟩ := HP.out.cells hq
      rw [hn] at k0
      have hlen : j < F.length := by omega
      clear hq hfi hh hn
      go_wp2
      go_round
      case rel => exact ⟨j + 1, by omega, by go_num⟩
      case measure => simp [intOf]; omega
    · have e : j = i := by omega
      subst e
      obtain ⟨k0, _⟩ := HP.out.cells hfi
      rw [hh] at k0
      clear hfi hh
      go_wp2
      go_ret
      exact ⟨rfl, rfl⟩

theorem sfull_any (w : World) (b g h : Nat) (F : List (Fr ByteArray)) (hp : sPool w b g F h) :
    Calls Try.prog 35 #[.pointer (some ⟨b, 0, none⟩)] w fun e w' => e = .returned (.bool (empty F).isNone) ∧ w = w' := by
  cases he : empty F with
  | none => exact sfull_yes w b g h F hp he
  | some i => exact sfull_no w b g h F hp i he


/-- Rows of a dirty list, of the call's own. -/
abbrev sRows (w : World) (base : Nat) (v : Value) (l : List (Int × Int)) : Prop := w.ownsRow base 37 2 v l.length (encs encD l)

theorem srec_any (w : World) (b g h : Nat) (F : List (Fr ByteArray)) (hp : sPool w b g F h) (id : Int) :
    Calls Try.prog 14 #[.pointer (some ⟨b, 0, none⟩), .int .i64 id] w fun e w' => e = .returned (.tuple #[.int .u64 ((recF F id).getD 0), .bool (recF F id).isSome]) ∧ w = w' := by
  cases hf : find F id with
  | none =>
    have e : recF F id = none := by unfold recF; rw [hf]
    rw [e]
    exact srec_miss w b g h F hp id hf
  | some i =>
    obtain ⟨⟨f, hi, _⟩, _⟩ := find_hit hf
    cases hd : f.dirty with
    | false =>
      have e : recF F id = none := by unfold recF; rw [hf]; simp [hi, hd]
      rw [e]
      exact srec_clean w b g h F hp id i f hf hi hd
    | true =>
      have e : recF F id = some f.rc := by unfold recF; rw [hf]; simp [hi, hd]
      rw [e]
      exact srec_dirty w b g h F hp id i f hf hi hd

set_option maxHeartbeats 4000000 in
theorem sdirty_any (w : World) (b g h : Nat) (F : List (Fr ByteArray)) (hp : sPool w b g F h) :
    Calls Try.prog 15 #[.pointer (some ⟨b, 0, none⟩)] w fun e w' => ∃ A c, e = .returned (.slice A (drL F (pgN F 32)).length c) ∧ sRows w' w.heap.size (.slice A (drL F (pgN F 32)).length c) (drL F (pgN F 32)) ∧ Ext [] w w' := by
  have hlp := pgN_length F 32
  have hgs : g < w.heap.size := hp.hc.lt
  have HP := Lib.hid hp
  clear hp
  obtain ⟨i0, hi, hz0, hz1, hz2⟩ := info_parts Try.info37
  go_enter Try.func15, Try.ntmps15
  go_wp2_with (go_at_call 20; fail)
  refine (spages_any _ b g h F HP.out).mono ?_
  rintro e w1 ⟨A1, c1, rfl, ho1, he1⟩
  have HO1 := Lib.hid ho1
  have HE1 := Lib.hid he1
  clear ho1 he1
  generalize hpg : pgN F 32 = pl at *
  have HPG := Lib.hid hpg
  clear hpg
  go_wp2
  go_loopw [3, 11] (fun v i wr => ∃ j : Nat, j ≤ pl.length ∧ i = .int .i64 j ∧ (∃ A c, v = .slice A (drL F (pl.take j)).length c ∧ sRows wr w.heap.size v (drL F (pl.take j))) ∧ sInts wr w.heap.size (.slice A1 pl.length c1) pl ∧ Ext [] w wr ∧ (∀ k, Value.ownBlock v = some k → Value.ownBlock (.slice A1 pl.length c1) ≠ some k)) (fun _ i _ => pl.length - (intOf i).toNat)
  case atStart => exact ⟨0, Nat.zero_le _, rfl, ⟨none, 0, rfl, World.ownsRow_nil _ _ _ _⟩, HO1.out, HE1.out, fun k hk => by simp [Value.ownBlock] at hk⟩
  case round =>
    obtain ⟨j, hj, rfl, ⟨A, c, rfl, hown⟩, hi1, hext, hap⟩ := hrel
    have hsz := hext.size
    have HO := Lib.hid hown
    have HI := Lib.hid hi1
    have HE := Lib.hid hext
    have HAP := Lib.hid hap
    clear hown hi1 hext hap
    by_cases hlt : j < pl.length
    · obtain ⟨x, hx⟩ : ∃ x, pl[j]? = some x := ⟨pl[j], by simp [hlt]⟩
      obtain ⟨g1, rfl, hg1, hg2⟩ := own_some HI.out (by omega)
      have cx := own_cell HI.out (j := j) (v := .int .i64 x) (by rw [List.getElem?_map, hx]; rfl)
      have hsn : drL F (pl.take (j + 1)) = drL F (pl.take j) ++ rowOf x (recF F x) := by
        rw [List.take_add_one, hx, Option.toList_some, drL_snoc]
      have hdl := drL_length F (pl.take j)
      have htl : (pl.take j).length ≤ j := List.length_take_le _ _
      have HR := Lib.hid (fun w' => srec_any w' b g h F)
      clear hx
      rcases hrr : recF F x with _ | r
      · rw [hrr] at hsn
        simp only [rowOf, List.append_nil] at hsn
        have HS := Lib.hid hsn
        have HRR : Hid (∀ w', sPool w' b g F h → Calls Try.prog 14 #[.pointer (some ⟨b, 0, none⟩), .int .i64 x] w' fun e w'' => e = .returned (.tuple #[.int .u64 0, .bool false]) ∧ w' = w'') := fun w' hd => by
          have := srec_any w' b g h F hd x
          rw [hrr] at this; exact this
        clear hsn hrr
        go_wp2_with (go_at_call 14; refine (HRR.out _ (HP.out.same HE.out)).mono ?_; rintro e w' ⟨rfl, rfl⟩)
        go_roundw
        case rel => exact ⟨j + 1, by omega, by go_num, by rw [HS.out]; exact ⟨A, c, rfl, HO.out⟩, HI.out, HE.out, HAP.out⟩
        case measure => simp [intOf]; omega
      · rw [hrr] at hsn
        simp only [rowOf] at hsn
        have HS := Lib.hid hsn
        have HRR : Hid (∀ w', sPool w' b g F h → Calls Try.prog 14 #[.pointer (some ⟨b, 0, none⟩), .int .i64 x] w' fun e w'' => e = .returned (.tuple #[.int .u64 r, .bool true]) ∧ w' = w'') := fun w' hd => by
          have := srec_any w' b g h F hd x
          rw [hrr] at this; exact this
        clear hsn hrr
        generalize drL F (pl.take j) = l at *
        go_wp2_with (first
          | (go_at_call 14; refine (HRR.out _ (HP.out.same HE.out)).mono ?_; rintro e w' ⟨rfl, rfl⟩)
          | (at_builtin; refine wpList_append_lies _ rfl (.tmp 22) (.tmp 26) 34 rfl w.heap.size 37 i0 (.agg #[.int .i64 0, .int .u64 0]) 2 16 Try.underlying34 hi hz0 hz1 hz2 rfl (by decide) _ _ _ rfl (HO.out.alloc _) _ 1 1 [.int .i64 x, .int .u64 r] rfl rfl ?c1 ?c2 (by omega) ?c3 ?c4 ?c5 _ rfl ?kk))
        case c1 =>
          intro i u hu
          match i, hu with
          | 0, hu => simp at hu; subst hu; simp [Addr.add]
          | 1, hu => simp at hu; subst hu; simp [Addr.add]
        case c2 => intro u hu; simp at hu; rcases hu with rfl | rfl <;> rfl
        case c3 => unfold maxLen; omega
        case c4 => omega
        case c5 => simp; omega
        case kk =>
          intro gg cap w2 hown hgrow hat hgl
          have HE2 := Lib.hid ((HE.out.alloc (.cells #[.int .i64 x, .int .u64 r] 37)).grown hgrow (fun k hk hlt => by have := HO.out.lt k hk; omega))
          have hw2 := hown
          have HO2 : Hid (sRows w2 w.heap.size (.slice (some ⟨gg, 0, none⟩) (l.length + 1) cap) (l ++ [(x, r)])) := by
            have e : (l ++ [(x, r)]).length = l.length + 1 := by simp
            unfold Hid sRows; rw [encs_snoc, e]; exact hown
          have hne : ∀ k, Value.ownBlock (.slice (some ⟨gg, 0, none⟩) (l.length + 1) cap) = some k → Value.ownBlock (.slice (some ⟨g1, 0, none⟩) pl.length c1) ≠ some k := by
            intro k hk
            simp only [Value.ownBlock, Option.some.injEq] at hk
            subst hk
            rcases hat with hat | hat
            · exact HAP.out _ hat
            · simp only [Value.ownBlock, Option.some.injEq, ne_eq]
              (try simp at hat)
              omega
          have HI2 : Hid (sInts w2 w.heap.size (.slice (some ⟨g1, 0, none⟩) pl.length c1) pl) := by
            refine (HI.out.alloc (.cells #[.int .i64 x, .int .u64 r] 37)).kept hgrow ?_
            cases hb : Value.ownBlock (.slice A l.length c) with
            | none => right; simp [Value.ownBlock]
            | some k => right; exact HAP.out k hb
          have HN := Lib.hid hne
          clear hown hgrow hat hw2 hne
          go_wp2
          go_roundw
          case rel => exact ⟨j + 1, by omega, by go_num, by rw [HS.out]; exact ⟨some ⟨gg, 0, none⟩, cap, by simp, HO2.out⟩, HI2.out, HE2.out, HN.out⟩
          case measure => simp [intOf]; omega
    · have e : j = pl.length := by omega
      subst e
      have HT : Hid (pl.take pl.length = pl) := by rw [List.take_length]; exact rfl
      go_wp2
      go_ret
      have e := HPG.out
      subst e
      rw [HT.out] at HO ⊢
      exact ⟨A, c, rfl, HO.out, HE.out⟩

end Go.Proofs.Ytkdmilchklmefaa
