/- The reference's Of and Fail; the program's Of of no kind. -/
import Derived.Test.YtkckkbajaaklnaaFail
import Derived.Test.YtkckkbajaaklnaaRef
namespace Go.Proofs.Ytkckkbajaaklnaa
open Go.RowKit
set_option linter.unusedVariables false
set_option linter.unusedSimpArgs false

set_option maxHeartbeats 400000 in
theorem of_zero (d : Value) (hd : d = .pointer none ∨ ∃ a, d = .pointer (some a)) (w : World) (n : Int) :
    Calls Try.prog 18 #[d, .int .i64 n, .int .i64 0] w fun e w' => e = .returned (.slice none 0 0) ∧ w = w' := by
  rcases hd with rfl | ⟨a, rfl⟩
  · go_enter Try.func18, Try.ntmps18
    go_wp2
    go_ret
    exact ⟨rfl, rfl⟩
  · go_enter Try.func18, Try.ntmps18
    go_wp2
    go_ret
    exact ⟨rfl, rfl⟩

theorem of_any (b g : Nat) (L : List (Int × Int)) (w : World) (h : Dir w 51 57 b g L) (n k : Int) :
    Calls Try.prog 18 #[.pointer (some ⟨b, 0, none⟩), .int .i64 n, .int .i64 k] w fun e w' =>
      ∃ A c, e = .returned (.slice A (ofL L n k).length c) ∧ Ints w' w.heap.size (.slice A (ofL L n k).length c) (ofL L n k) ∧ Ext [] w w' := by
  unfold ofL
  by_cases hk : k = 0
  · subst hk
    rw [if_pos rfl]
    exact (of_zero _ (.inr ⟨_, rfl⟩) w n).mono fun e w' ⟨he, hw⟩ => by subst hw; exact ⟨none, 0, he, World.ownsRow_nil _ _ _ _, Ext.refl _ _⟩
  · rw [if_neg hk]
    exact of_some b g L w h n k (by rw [bne_iff_ne]; exact hk)

set_option maxHeartbeats 1000000 in
theorem rof_zero (b g : Nat) (L : List (Int × Int)) (w : World) (h : Dir w 61 70 b g L) (n : Int) :
    Calls Try.prog 31 #[.pointer (some ⟨b, 0, none⟩), .int .i64 n, .int .i64 0] w fun e w' => e = .returned (.slice none 0 0) ∧ w = w' := by
  have hc := h.cell
  have hf := h.few
  have H := Lib.hid h
  clear h
  go_enter Try.func31, Try.ntmps31
  go_wp2
  go_loop [7, 14] (fun v i => v = .slice none 0 0 ∧ ∃ j : Nat, j ≤ L.length ∧ i = .int .i64 j) (fun _ i => L.length - (intOf i).toNat)
  case atStart => exact ⟨rfl, 0, Nat.zero_le _, rfl⟩
  case round =>
    obtain ⟨rfl, j, hj, rfl⟩ := hrel
    by_cases hlt : j < L.length
    · go_wp2
      go_round
      case rel => exact ⟨rfl, j + 1, by omega, by go_num⟩
      case measure => simp [intOf]; omega
    · go_wp2
      go_ret
      exact ⟨rfl, rfl⟩

set_option maxHeartbeats 2000000 in
theorem rof_some (b g : Nat) (L : List (Int × Int)) (w : World) (h : Dir w 61 70 b g L) (n k : Int) (hk : (k != 0) = true) :
    Calls Try.prog 31 #[.pointer (some ⟨b, 0, none⟩), .int .i64 n, .int .i64 k] w fun e w' =>
      ∃ A c, e = .returned (.slice A (ofK L 0 n k).length c) ∧ Ints w' w.heap.size (.slice A (ofK L 0 n k).length c) (ofK L 0 n k) ∧ Ext [] w w' := by
  have hc := h.cell
  have hf := h.few
  have H := Lib.hid h
  clear h
  obtain ⟨i0, hi, hz0, hz1, hz2⟩ := info_parts Try.info3
  go_enter Try.func31, Try.ntmps31
  go_wp2
  go_loopw [7, 14] (fun v i wr => ∃ j : Nat, j ≤ L.length ∧ i = .int .i64 j ∧ (∃ A c, v = .slice A (ofK (L.take j) 0 n k).length c ∧ Ints wr w.heap.size v (ofK (L.take j) 0 n k)) ∧ Ext [] w wr)
    (fun _ i _ => L.length - (intOf i).toNat)
  case atStart => exact ⟨0, Nat.zero_le _, rfl, ⟨none, 0, rfl, World.ownsRow_nil _ _ _ _⟩, Ext.refl _ _⟩
  case round =>
    obtain ⟨j, hj, rfl, ⟨A, c, rfl, hown⟩, hext⟩ := hrel
    have hsz := hext.size
    have HO := Lib.hid hown
    have HE := Lib.hid hext
    clear hown hext
    by_cases hlt : j < L.length
    · obtain ⟨⟨q1, q2⟩, hq⟩ : ∃ q, L[j]? = some q := ⟨L[j], by simp [hlt]⟩
      have hsn : ofK (L.take (j + 1)) 0 n k = ofK (L.take j) 0 n k ++ (if (q1, q2) = (k, n) then [((j : Nat) : Int)] else []) := by
        rw [List.take_add_one, hq, Option.toList_some, ofK_snoc]
        simp [Nat.min_eq_left (Nat.le_of_lt hlt)]
      have hlen := ofK_length (L.take j) 0 n k
      have HS := Lib.hid hsn
      clear hsn
      have hD := H.out.ext HE.out (by simp) (by simp)
      obtain ⟨c0, c1⟩ := hD.cells hq
      have hcr := hD.cell
      have HD := Lib.hid hD
      have HQ := Lib.hid hq
      clear hD hq
      by_cases hqe : (q1, q2) = (k, n)
      · obtain ⟨rfl, rfl⟩ := Prod.mk.inj hqe
        have hlj : (L.take j).length ≤ j := List.length_take_le _ _
        have HS2 : Hid (ofK (L.take (j + 1)) 0 q2 q1 = ofK (L.take j) 0 q2 q1 ++ [(j : Int)]) := by rw [HS.out, if_pos rfl]; exact rfl
        clear hqe HS
        generalize ofK (L.take j) 0 q2 q1 = l at *
        go_wp2_with (at_builtin; refine wpList_append_lies _ rfl (.tmp 32) (.tmp 34) 42 rfl w.heap.size 3 i0 (.int .i64 0) 1 8 Try.underlying42 hi hz0 hz1 hz2 rfl (by decide) _ _ _ rfl (HO.out.alloc _) _ 1 1 [.int .i64 (j : Int)] rfl rfl ?c1 ?c2 (by omega) ?c3 ?c4 ?c5 _ rfl ?kk)
        case c1 => intro i u hu; match i, hu with | 0, hu => simp at hu; subst hu; simp [Addr.add]
        case c2 => intro u hu; simp at hu; subst hu; rfl
        case c3 => unfold maxLen; omega
        case c4 => omega
        case c5 => simp; omega
        case kk =>
         intro gg cap w1 hown hgrow hat hgl
         have hE1 : Ext [] w w1 := (HE.out.alloc _).grown hgrow (fun k hk hlt => by have := HO.out.lt k hk; omega)
         have HE1 := Lib.hid hE1
         have HO1 : Hid (Ints w1 w.heap.size (.slice (some ⟨gg, 0, none⟩) (l.length + 1) cap) (l ++ [(j : Int)])) := by
           unfold Hid Ints; simpa using hown
         clear hE1 hown hgrow hat
         go_wp2
         go_roundw
         case rel => exact ⟨j + 1, by omega, by go_num, by rw [HS2.out]; exact ⟨some ⟨gg, 0, none⟩, cap, by simp, HO1.out⟩, HE1.out⟩
         case measure => simp [intOf]; omega
      · have hd : (q1 == k) = false ∨ ((q1 == k) = true ∧ (q2 == n) = false) := by
          by_cases h1 : q1 = k
          · exact .inr ⟨beq_iff_eq.2 h1, beq_eq_false_iff_ne.2 fun h2 => hqe (by rw [h1, h2])⟩
          · exact .inl (beq_eq_false_iff_ne.2 h1)
        have HS2 : Hid (ofK (L.take (j + 1)) 0 n k = ofK (L.take j) 0 n k) := by rw [HS.out, if_neg hqe, List.append_nil]; exact rfl
        clear hqe HS
        rcases hd with hd | ⟨hd, hd2⟩
        all_goals
          go_wp2
          go_roundw
          case rel => exact ⟨j + 1, by omega, by go_num, by rw [HS2.out]; exact ⟨A, c, rfl, HO.out⟩, HE.out⟩
          case measure => simp [intOf]; omega
    · have e : j = L.length := by omega
      subst e
      have HT : Hid (L.take L.length = L) := by rw [List.take_length]; exact rfl
      go_wp2
      go_ret
      rw [HT.out] at HO ⊢
      exact ⟨A, c, rfl, HO.out, HE.out⟩

theorem rof_any (b g : Nat) (L : List (Int × Int)) (w : World) (h : Dir w 61 70 b g L) (n k : Int) :
    Calls Try.prog 31 #[.pointer (some ⟨b, 0, none⟩), .int .i64 n, .int .i64 k] w fun e w' =>
      ∃ A c, e = .returned (.slice A (ofL L n k).length c) ∧ Ints w' w.heap.size (.slice A (ofL L n k).length c) (ofL L n k) ∧ Ext [] w w' := by
  unfold ofL
  by_cases hk : k = 0
  · subst hk
    rw [if_pos rfl]
    exact (rof_zero b g L w h n).mono fun e w' ⟨he, hw⟩ => by subst hw; exact ⟨none, 0, he, World.ownsRow_nil _ _ _ _, Ext.refl _ _⟩
  · rw [if_neg hk]
    exact rof_some b g L w h n k (by rw [bne_iff_ne]; exact hk)

theorem failK_snoc (L : List (Int × Int)) (q : Int × Int) : ∀ (i : Nat) (n : Int), failK (L ++ [q]) i n = failK L i n ++ (if q = (1, n) ∨ q = (2, n) then [((i + L.length : Nat) : Int)] else []) := by
  induction L with
  | nil => intro i n; simp [failK]
  | cons a L ih =>
    intro i n
    simp only [List.cons_append, failK, ih, List.length_cons]
    rw [show i + 1 + L.length = i + (L.length + 1) by omega]
    split <;> simp
theorem failK_length (L : List (Int × Int)) : ∀ (i : Nat) (n : Int), (failK L i n).length ≤ L.length := by
  induction L with
  | nil => intro i n; simp [failK]
  | cons a L ih => intro i n; have := ih (i + 1) n; simp only [failK]; split <;> simp <;> omega
/-- The first places turned. -/
def partL (L : List (Int × Int)) (j : Nat) (n : Int) : List (Int × Int) := (L.take j).map (failP n) ++ L.drop j
theorem partL_zero (L : List (Int × Int)) (n : Int) : partL L 0 n = L := by simp [partL]
theorem partL_all (L : List (Int × Int)) (n : Int) : partL L L.length n = failL L n := by simp [partL, failL]
theorem partL_length (L : List (Int × Int)) (j : Nat) (n : Int) : (partL L j n).length = L.length := by simp [partL]; omega
theorem partL_get (L : List (Int × Int)) {j : Nat} (n : Int) {q : Int × Int} (h : L[j]? = some q) : (partL L j n)[j]? = some q := by
  have hj := (List.getElem?_eq_some_iff.1 h).1
  unfold partL
  rw [List.getElem?_append_right (by simp; omega)]
  simp [Nat.min_eq_left (Nat.le_of_lt hj)]
  exact h
theorem partL_succ (L : List (Int × Int)) {j : Nat} (n : Int) {q : Int × Int} (h : L[j]? = some q) : partL L (j + 1) n = (partL L j n).set j (failP n q) := by
  have hj := (List.getElem?_eq_some_iff.1 h).1
  have he := (List.getElem?_eq_some_iff.1 h).2
  have hd : L.drop j = q :: L.drop (j + 1) := by rw [List.drop_eq_getElem_cons hj, he]
  unfold partL
  rw [List.take_add_one, h, Option.toList_some, List.map_append, hd]
  have hl : ((L.take j).map (failP n)).length = j := by simp; omega
  rw [List.set_append_right _ _ (by omega), hl, Nat.sub_self]
  simp
theorem partL_same (L : List (Int × Int)) {j : Nat} (n : Int) {q : Int × Int} (h : L[j]? = some q) (hq : failP n q = q) : partL L (j + 1) n = partL L j n := by
  rw [partL_succ L n h, hq]
  apply List.ext_getElem?
  intro i
  rw [List.getElem?_set]
  by_cases e : j = i
  · subst e
    rw [if_pos rfl, partL_length, if_pos (List.getElem?_eq_some_iff.1 h).1, partL_get L n h]
  · rw [if_neg e]

theorem Dir.grown {w w' : World} {tb tg b g : Nat} {L : List (Int × Int)} {row : Option Nat} (h : Dir w tb tg b g L) (hg : w.grownBy w' row) (h1 : row ≠ Option.some b) (h2 : row ≠ Option.some g) : Dir w' tb tg b g L :=
  ⟨(hg.block b (lt_of_block h.hd) (fun e => h1 e.symm)).trans h.hd, (hg.block g (lt_of_block h.hc) (fun e => h2 e.symm)).trans h.hc, h.few, h.some⟩

set_option maxHeartbeats 4000000 in
theorem rfail_any (b g : Nat) (L : List (Int × Int)) (w : World) (h : Dir w 61 70 b g L) (n : Int) :
    Calls Try.prog 29 #[.pointer (some ⟨b, 0, none⟩), .int .i64 n] w fun e w' =>
      ∃ A c, e = .returned (.slice A (failK L 0 n).length c) ∧ Ints w' w.heap.size (.slice A (failK L 0 n).length c) (failK L 0 n) ∧ Upd w w' 61 70 b g (failL L n) := by
  have hf := h.few
  have hc := h.cell
  have hgs : g < w.heap.size := lt_of_block h.hc
  have hbs : b < w.heap.size := lt_of_block h.hd
  have H := Lib.hid h
  clear h
  obtain ⟨i0, hi, hz0, hz1, hz2⟩ := info_parts Try.info3
  go_enter Try.func29, Try.ntmps29
  go_wp2
  go_loopw [5, 12] (fun v i wr => ∃ j : Nat, j ≤ L.length ∧ i = .int .i64 j ∧ (∃ A c, v = .slice A (failK (L.take j) 0 n).length c ∧ Ints wr w.heap.size v (failK (L.take j) 0 n)) ∧ Dir wr 61 70 b g (partL L j n) ∧ Ext [g] w wr)
    (fun _ i _ => L.length - (intOf i).toNat)
  case atStart => exact ⟨0, Nat.zero_le _, rfl, ⟨none, 0, rfl, World.ownsRow_nil _ _ _ _⟩, by rw [partL_zero]; exact H.out, Ext.refl _ _⟩
  case round =>
    obtain ⟨j, hj, rfl, ⟨A, c, rfl, hown⟩, hD, hext⟩ := hrel
    have hsz := hext.size
    have HO := Lib.hid hown
    have HE := Lib.hid hext
    have HD := Lib.hid hD
    clear hown hext hD
    have hcr := HD.out.cell
    rw [partL_length] at hcr
    by_cases hlt : j < L.length
    · obtain ⟨⟨q1, q2⟩, hq⟩ : ∃ q, L[j]? = some q := ⟨L[j], by simp [hlt]⟩
      have hsn : failK (L.take (j + 1)) 0 n = failK (L.take j) 0 n ++ (if (q1, q2) = (1, n) ∨ (q1, q2) = (2, n) then [((j : Nat) : Int)] else []) := by
        rw [List.take_add_one, hq, Option.toList_some, failK_snoc]
        simp [Nat.min_eq_left (Nat.le_of_lt hlt)]
      have hlen := failK_length (L.take j) 0 n
      have hlj : (L.take j).length ≤ j := List.length_take_le _ _
      have HS := Lib.hid hsn
      clear hsn
      obtain ⟨c0, c1⟩ := HD.out.cells (partL_get L n hq)
      have f0 := HD.out.free (j * 2)
      have HQ := Lib.hid hq
      clear hq
      by_cases hqe : (q1, q2) = (1, n) ∨ (q1, q2) = (2, n)
      · have hq2 : q2 = n := by rcases hqe with h | h <;> exact (Prod.mk.inj h).2
        have hq1 : q1 = 1 ∨ q1 = 2 := by
          rcases hqe with h | h
          · exact .inl (Prod.mk.inj h).1
          · exact .inr (Prod.mk.inj h).1
        subst hq2
        have HS2 : Hid (failK (L.take (j + 1)) 0 q2 = failK (L.take j) 0 q2 ++ [(j : Int)]) := by rw [HS.out, if_pos hqe]; exact rfl
        have HP : Hid (partL L (j + 1) q2 = (partL L j q2).set j (3, q2)) := by
          rw [partL_succ L q2 HQ.out]; unfold failP; rw [if_pos hqe]; exact rfl
        clear hqe HS
        generalize failK (L.take j) 0 q2 = l at *
        rcases hq1 with rfl | rfl
        all_goals
          go_wp2_with (at_builtin; refine wpList_append_lies _ rfl (.tmp 44) (.tmp 46) 42 rfl w.heap.size 3 i0 (.int .i64 0) 1 8 Try.underlying42 hi hz0 hz1 hz2 rfl (by decide) _ _ _ rfl ((own_ext HO.out ((Ext.refl [g] _).setCell (.inl (by simp)) _) (by intro k hk; simp at hk; omega)).alloc _) _ 1 1 [.int .i64 (j : Int)] rfl rfl ?c1 ?c2 (by omega) ?c3 ?c4 ?c5 _ rfl ?kk)
          case c1 => intro i u hu; match i, hu with | 0, hu => simp at hu; subst hu; rw [Addr.add, if_pos rfl, World.cell?_alloc_at (hn := by simp)]; rfl
          case c2 => intro u hu; simp at hu; subst hu; rfl
          case c3 => unfold maxLen; omega
          case c4 => omega
          case c5 => simp; omega
          case kk =>
           intro gg cap w1 hown hgrow hat hgl
           have hE1 : Ext [g] w w1 := ((HE.out.setCell (.inl (by simp)) _).alloc _).grown hgrow (fun k hk hlt => by have := HO.out.lt k hk; omega)
           have hD1 := ((HD.out.set0 (partL_get L q2 HQ.out) 3).alloc (.cells #[.int .i64 (j : Int)] 3)).grown hgrow (fun e => by have := HO.out.lt b e; omega) (fun e => by have := HO.out.lt g e; omega)
           have HE1 := Lib.hid hE1
           have HD1 := Lib.hid hD1
           have HO1 : Hid (Ints w1 w.heap.size (.slice (some ⟨gg, 0, none⟩) (l.length + 1) cap) (l ++ [(j : Int)])) := by
             unfold Hid Ints; simpa using hown
           clear hE1 hown hgrow hat hD1
           go_wp2
           go_roundw
           case rel => exact ⟨j + 1, by omega, by go_num, by rw [HS2.out]; exact ⟨some ⟨gg, 0, none⟩, cap, by simp, HO1.out⟩, by rw [HP.out]; exact HD1.out, HE1.out⟩
           case measure => simp [intOf]; omega
      · have HS2 : Hid (failK (L.take (j + 1)) 0 n = failK (L.take j) 0 n) := by rw [HS.out, if_neg hqe, List.append_nil]; exact rfl
        have HP : Hid (partL L (j + 1) n = partL L j n) := partL_same L n HQ.out (by unfold failP; rw [if_neg hqe])
        have hd : ((q1 == 1) = false ∨ ((q1 == 1) = true ∧ (q2 == n) = false)) ∧ ((q1 == 2) = false ∨ ((q1 == 2) = true ∧ (q2 == n) = false)) := by
          constructor
          · by_cases h1 : q1 = 1
            · exact .inr ⟨beq_iff_eq.2 h1, beq_eq_false_iff_ne.2 fun h2 => hqe (.inl (by rw [h1, h2]))⟩
            · exact .inl (beq_eq_false_iff_ne.2 h1)
          · by_cases h1 : q1 = 2
            · exact .inr ⟨beq_iff_eq.2 h1, beq_eq_false_iff_ne.2 fun h2 => hqe (.inr (by rw [h1, h2]))⟩
            · exact .inl (beq_eq_false_iff_ne.2 h1)
        clear hqe HS
        obtain ⟨hd1, hd2⟩ := hd
        rcases hd1 with hd1 | ⟨hd1, hd11⟩ <;> rcases hd2 with hd2 | ⟨hd2, hd22⟩
        all_goals
          go_wp2
          go_roundw
          case rel => exact ⟨j + 1, by omega, by go_num, by rw [HS2.out]; exact ⟨A, c, rfl, HO.out⟩, by rw [HP.out]; exact HD.out, HE.out⟩
          case measure => simp [intOf]; omega
    · have e : j = L.length := by omega
      subst e
      have HT : Hid (L.take L.length = L) := by rw [List.take_length]; exact rfl
      have HP : Hid (partL L L.length n = failL L n) := partL_all L n
      go_wp2
      go_ret
      rw [HT.out] at HO ⊢
      rw [HP.out] at HD
      exact ⟨A, c, rfl, HO.out, HD.out, HE.out⟩

end Go.Proofs.Ytkckkbajaaklnaa
