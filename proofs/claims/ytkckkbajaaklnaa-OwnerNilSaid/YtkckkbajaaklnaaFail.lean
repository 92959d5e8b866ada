/- Fail: the pages that are lost with a node. -/
import Derived.Test.YtkckkbajaaklnaaFailMath
import Derived.Test.YtkckkbajaaklnaaOwn
namespace Go.Proofs.Ytkckkbajaaklnaa
open Go.RowKit
set_option linter.unusedVariables false
set_option linter.unusedSimpArgs false

set_option maxHeartbeats 4000000 in
theorem fail_any (b g : Nat) (L : List (Int × Int)) (w : World) (h : Dir w 51 57 b g L) (n : Int) :
    Calls Try.prog 20 #[.pointer (some ⟨b, 0, none⟩), .int .i64 n] w fun e w' =>
      ∃ A c, e = .returned (.slice A (failK L 0 n).length c) ∧ Ints w' w.heap.size (.slice A (failK L 0 n).length c) (failK L 0 n) ∧ Upd w w' 51 57 b g (failL L n) := by
  have hf := h.few
  have hgs : g < w.heap.size := lt_of_block h.hc
  have hbs : b < w.heap.size := lt_of_block h.hd
  have hc := h.cell
  have H := Lib.hid h
  clear h
  have hl1 := ofK_length L 0 n 1
  have hl2 := ofK_length L 0 n 2
  obtain ⟨i0, hi, hz0, hz1, hz2⟩ := info_parts Try.info3
  have t1 : ((1 : Int) != 0) = true := by decide
  have t2 : ((2 : Int) != 0) = true := by decide
  go_enter Try.func20, Try.ntmps20
  go_wp2_with (go_at_call 18; fail)
  refine (of_some b g L _ H.out n 1 t1).mono ?_
  rintro e w1 ⟨A1, c1, rfl, ho1, he1⟩
  have hs1 := he1.size
  have D1 := H.out.ext he1 (by simp) (by simp)
  have hc1 := D1.cell
  have HD1 := Lib.hid D1
  have HO1 := Lib.hid ho1
  have HE1 := Lib.hid he1
  clear D1 ho1 he1
  go_wp2_with (go_at_call 18; fail)
  refine (of_some b g L _ HD1.out n 2 t2).mono ?_
  rintro e w2 ⟨A2, c2, rfl, ho2, he2⟩
  have hs2 := he2.size
  have D2 := HD1.out.ext he2 (by simp) (by simp)
  have hc2 := D2.cell
  have HD2 := Lib.hid D2
  have HO2 := Lib.hid ho2
  have HE2 := Lib.hid (HE1.out.trans he2)
  have HO12 : Hid (Ints w2 w.heap.size (.slice A1 (ofK L 0 n 1).length c1) (ofK L 0 n 1)) := own_ext HO1.out he2 (by simp)
  clear D2 ho2 he2
  have hlen : (ofK L 0 n 1 ++ ofK L 0 n 2).length = (ofK L 0 n 1).length + (ofK L 0 n 2).length := List.length_append
  have HFS : Hid (∀ l : List Int, l.Perm (ofK L 0 n 1 ++ ofK L 0 n 2) → l.Pairwise (· ≤ ·) → l = failK L 0 n) := fun l h1 h2 => sorted_fail h1 h2
  have HMF : Hid (markL L (ofK L 0 n 1 ++ ofK L 0 n 2) = failL L n) := mark_fail L n
  have HMEM : Hid (∀ x ∈ ofK L 0 n 1 ++ ofK L 0 n 2, ∃ j : Nat, x = (j : Int) ∧ j < L.length) := by
    intro x hx
    rcases List.mem_append.1 hx with hx | hx
    all_goals
      obtain ⟨j, rfl, hj⟩ := (ofK_mem _ _ _ _ _).1 hx
      exact ⟨j, by omega, (List.getElem?_eq_some_iff.1 hj).1⟩
  have HPL : Hid ((failK L 0 n).length = (ofK L 0 n 1).length + (ofK L 0 n 2).length) := by
    rw [← hlen]; exact (both_perm L 0 n).length_eq.symm
  generalize hx1 : ofK L 0 n 1 = l1 at *
  generalize hx2 : ofK L 0 n 2 = l2 at *
  have HX := Lib.hid (And.intro hx1 hx2)
  clear hx1 hx2
  go_wp2_with (at_builtin; refine wpList_append_own2 _ rfl (.tmp 10) (.tmp 13) 42 rfl w.heap.size w1.heap.size 3 i0 (.int .i64 0) 1 8 Try.underlying42 hi hz0 hz1 hz2 rfl (by decide) _ _ _ _ _ _ rfl HO12.out rfl HO2.out ?c1 ?c3 ?c4 ?c5 ?kk)
  case c1 => intro u hu; obtain ⟨x, _, rfl⟩ := List.mem_map.1 hu; rfl
  case c3 => unfold maxLen; omega
  case c4 => omega
  case c5 => omega
  case kk =>
    intro v' w3 ho3 hgr3
    have he3 : Ext [] w w3 := HE2.out.grown hgr3 (fun k hk hlt => by have := HO12.out.lt k hk; omega)
    have ho3' : w3.ownsRow w.heap.size 3 1 v' (l1.length + l2.length) ((l1 ++ l2).map (Value.int .i64)) := by rw [List.map_append]; exact ho3
    have D3 := H.out.ext he3 (by simp) (by simp)
    have hc3 := D3.cell
    obtain ⟨A3, c3, rfl⟩ := own_val ho3'
    have HO3 := Lib.hid ho3'
    have HE3 := Lib.hid he3
    have HD3 := Lib.hid D3
    clear ho3 ho3' he3 hgr3 D3
    go_wp2
    go_loopw [17] (fun i wr => ∃ j : Nat, j ≤ l1.length + l2.length ∧ i = .int .i64 j ∧ Dir wr 51 57 b g (markL L ((l1 ++ l2).take j)) ∧ wr.ownsRow w.heap.size 3 1 (.slice A3 (l1.length + l2.length) c3) (l1.length + l2.length) ((l1 ++ l2).map (Value.int .i64)) ∧ Ext [g] w wr)
      (fun i _ => l1.length + l2.length - (intOf i).toNat)
    case atStart => exact ⟨0, Nat.zero_le _, rfl, by simpa [markL] using HD3.out, HO3.out, HE3.out.mono (by simp)⟩
    case round =>
      obtain ⟨j, hj, rfl, D, ho, he⟩ := hrel
      have hcr := D.cell
      have HD := Lib.hid D
      have HO := Lib.hid ho
      have HE := Lib.hid he
      clear D ho he
      by_cases hlt : j < l1.length + l2.length
      · obtain ⟨x, hx⟩ : ∃ x, (l1 ++ l2)[j]? = some x := ⟨(l1 ++ l2)[j]'(by omega), by rw [List.getElem?_eq_getElem (by omega)]⟩
        obtain ⟨p, hxp, hp⟩ := HMEM.out x (List.mem_of_getElem? hx)
        subst hxp
        obtain ⟨gg, cap, hA⟩ : ∃ gg cap, A3 = some ⟨gg, 0, none⟩ ∧ c3 = cap := by
          rcases own_form HO.out with ⟨h1, h2⟩ | ⟨gg, cap, h1⟩
          · omega
          · injection h1 with h1 h2 h3; exact ⟨gg, c3, h1, rfl⟩
        obtain ⟨rfl, rfl⟩ := hA
        have cx := Ints.cell HO.out hx
        have hpl : p < (markL L ((l1 ++ l2).take j)).length := by rw [markL_length]; exact hp
        have hq := pl_get hpl
        obtain ⟨q0, q1⟩ := HD.out.cells hq
        have fq := HD.out.free (p * 2)
        have hsn : markL L ((l1 ++ l2).take (j + 1)) = (markL L ((l1 ++ l2).take j)).set p (3, (pl (markL L ((l1 ++ l2).take j)) (p : Int)).2) := by
          rw [List.take_add_one, hx, Option.toList_some, markL_snoc, Int.toNat_natCast]
        have HS := Lib.hid hsn
        have HQ := Lib.hid hq
        have HXX := Lib.hid hx
        clear hsn hq hx
        have hml : (markL L ((l1 ++ l2).take j)).length = L.length := markL_length _ _
        rw [hml] at hcr hpl
        clear hml
        go_wp2
        go_roundw
        case rel =>
          refine ⟨j + 1, by omega, by go_num, ?_, ?_, HE.out.setCell (.inl (by simp)) _⟩
          · rw [HS.out]; exact HD.out.set0 HQ.out 3
          · exact own_ext HO.out ((Ext.refl [g] _).setCell (.inl (by simp)) _) (by intro k hk; simp at hk; omega)
        case measure => simp [intOf]; omega
      · have e : j = l1.length + l2.length := by omega
        subst e
        go_wp2_with (go_at_call 33; fail)
        refine (sort_own _ w.heap.size _ _ (l1 ++ l2) HO.out (by omega) HE.out.size).mono ?_
        rintro e w4 ⟨rfl, l', hp, hs, ho4, hb4⟩
        have e1 := HFS.out l' hp hs
        subst e1
        have hD4 : Dir w4 51 57 b g (failL L n) := by
          have h1 := HD.out
          have h2 : (l1 ++ l2).take (l1.length + l2.length) = l1 ++ l2 := by rw [List.take_of_length_le (by simp)]
          rw [h2, HMF.out] at h1
          exact ⟨(hb4.block b hbs).trans h1.hd, (hb4.block g hgs).trans h1.hc, h1.few, h1.some⟩
        have HD4 := Lib.hid hD4
        have HO4 := Lib.hid ho4
        have HE4 := Lib.hid (HE.out.below hb4 (Nat.le_refl _))
        clear hD4 ho4 hb4 hp hs
        go_wp2
        go_ret
        refine ⟨A3, c3, by rw [HPL.out]; exact rfl, ?_, HD4.out, HE4.out⟩
        unfold Ints
        rw [HPL.out]
        exact HO4.out

end Go.Proofs.Ytkckkbajaaklnaa
