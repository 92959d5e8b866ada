/- Of: the pages of a kind and a node. -/
import Derived.Test.YtkckkbajaaklnaaAt
namespace Go.Proofs.Ytkckkbajaaklnaa
open Go.RowKit
set_option linter.unusedVariables false
set_option linter.unusedSimpArgs false

/-- A slice of numbers that a call made. -/
def Ints (w : World) (base : Nat) (v : Value) (l : List Int) : Prop := w.ownsRow base 3 1 v l.length (l.map (Value.int .i64))

def ofK : List (Int × Int) → Nat → Int → Int → List Int
  | [], _, _, _ => []
  | q :: L, i, n, k => if q = (k, n) then (i : Int) :: ofK L (i + 1) n k else ofK L (i + 1) n k

theorem ofK_snoc (L : List (Int × Int)) (q : Int × Int) : ∀ (i : Nat) (n k : Int), ofK (L ++ [q]) i n k = ofK L i n k ++ (if q = (k, n) then [((i + L.length : Nat) : Int)] else []) := by
  induction L with
  | nil => intro i n k; simp [ofK]
  | cons a L ih =>
    intro i n k
    simp only [List.cons_append, ofK, ih, List.length_cons]
    rw [show i + 1 + L.length = i + (L.length + 1) by omega]
    split <;> simp
theorem ofK_length (L : List (Int × Int)) : ∀ (i : Nat) (n k : Int), (ofK L i n k).length ≤ L.length := by
  induction L with
  | nil => intro i n k; simp [ofK]
  | cons a L ih => intro i n k; have := ih (i + 1) n k; simp only [ofK]; split <;> simp <;> omega
def ofL (L : List (Int × Int)) (n k : Int) : List Int := if k = 0 then [] else ofK L 0 n k

theorem Try.info3 : (Try.prog.info? 3).map (fun i => (i.zero, i.size, i.bytes)) = some (some (.int .i64 0), 1, 8) := by kernel_rfl

set_option maxHeartbeats 1000000 in
theorem of_some (b g : Nat) (L : List (Int × Int)) (w : World) (h : Dir w 51 57 b g L) (n k : Int) (hk : (k != 0) = true) :
    Calls Try.prog 18 #[.pointer (some ⟨b, 0, none⟩), .int .i64 n, .int .i64 k] w fun e w' =>
      ∃ A c, e = .returned (.slice A (ofK L 0 n k).length c) ∧ Ints w' w.heap.size (.slice A (ofK L 0 n k).length c) (ofK L 0 n k) ∧ Ext [] w w' := by
  have hc := h.cell
  have hf := h.few
  have H := Lib.hid h
  clear h
  obtain ⟨i0, hi, hz0, hz1, hz2⟩ := info_parts Try.info3
  go_enter Try.func18, Try.ntmps18
  go_wp2
  go_loopw [7, 21] (fun v i wr => ∃ j : Nat, j ≤ L.length ∧ i = .int .i64 j ∧ (∃ A c, v = .slice A (ofK (L.take j) 0 n k).length c ∧ Ints wr w.heap.size v (ofK (L.take j) 0 n k)) ∧ Ext [] w wr)
    (fun _ i _ => L.length - (intOf i).toNat)
  case atStart => exact ⟨0, Nat.zero_le _, rfl, ⟨none, 0, rfl, World.ownsRow_nil _ _ _ _⟩, Ext.refl _ _⟩
  case round =>
    obtain ⟨j, hj, rfl, ⟨A, c, rfl, hown⟩, hext⟩ := hrel
    have hsz := hext.size
    have HO := Lib.hid hown
    have HE := Lib.hid hext
    clear hown hext
    by_cases hlt : j < L.length
    · obtain ⟨⟨q1, q2⟩, hq⟩ : ∃ q, L[j]? = some q := ⟨L[j], by simp [hlt]⟩
      have hsn : ofK (L.take (j + 1)) 0 n k = ofK (L.take j) 0 n k ++ (if (q1, q2) = (k, n) then [((j : Nat) : Int)] else []) := by
        rw [List.take_add_one, hq, Option.toList_some, ofK_snoc]
        simp [Nat.min_eq_left (Nat.le_of_lt hlt)]
      have hlen := ofK_length (L.take j) 0 n k
      have HS := Lib.hid hsn
      clear hsn
      have hD := H.out.ext HE.out (by simp) (by simp)
      obtain ⟨c0, c1⟩ := hD.cells hq
      have HD := Lib.hid hD
      have HQ := Lib.hid hq
      clear hD hq
      by_cases hqe : (q1, q2) = (k, n)
      · obtain ⟨rfl, rfl⟩ := Prod.mk.inj hqe
        have hlj : (L.take j).length ≤ j := List.length_take_le _ _
        have HS2 : Hid (ofK (L.take (j + 1)) 0 q2 q1 = ofK (L.take j) 0 q2 q1 ++ [(j : Int)]) := by rw [HS.out, if_pos rfl]; exact rfl
        clear hqe HS
        generalize ofK (L.take j) 0 q2 q1 = l at *
        go_wp2_with (at_builtin; refine wpList_append_lies _ rfl (.tmp 31) (.tmp 33) 42 rfl w.heap.size 3 i0 (.int .i64 0) 1 8 Try.underlying42 hi hz0 hz1 hz2 rfl (by decide) _ _ _ rfl ((HO.out.alloc _).alloc _) _ 1 1 [.int .i64 (j : Int)] rfl rfl ?c1 ?c2 (by omega) ?c3 ?c4 ?c5 _ rfl ?kk)
        case c1 => intro i u hu; match i, hu with | 0, hu => simp at hu; subst hu; simp [Addr.add]
        case c2 => intro u hu; simp at hu; subst hu; rfl
        case c3 => unfold maxLen; omega
        case c4 => omega
        case c5 => simp; omega
        case kk =>
         intro gg cap w1 hown hgrow hat hgl
         have hE1 : Ext [] w w1 := ((HE.out.alloc _).alloc _).grown hgrow (fun k hk hlt => by have := (HO.out.alloc (.cells #[] 0)).lt k hk; have := HE.out.size; omega)
         have HE1 := Lib.hid hE1
         have HO1 : Hid (Ints w1 w.heap.size (.slice (some ⟨gg, 0, none⟩) (l.length + 1) cap) (l ++ [(j : Int)])) := by
           unfold Hid Ints; simpa using hown
         clear hE1 hown hgrow hat
         go_wp2
         go_roundw
         case rel => exact ⟨j + 1, by omega, by go_num, by rw [HS2.out]; exact ⟨some ⟨gg, 0, none⟩, cap, by simp, HO1.out⟩, HE1.out⟩
         case measure => simp [intOf]; omega
      · have hd : (q1 == k) = false ∨ ((q1 == k) = true ∧ (q2 == n) = false) := by
          by_cases h1 : q1 = k
          · exact .inr ⟨beq_iff_eq.2 h1, beq_eq_false_iff_ne.2 fun h2 => hqe (by rw [h1, h2])⟩
          · exact .inl (beq_eq_false_iff_ne.2 h1)
        have HS2 : Hid (ofK (L.take (j + 1)) 0 n k = ofK (L.take j) 0 n k) := by rw [HS.out, if_neg hqe, List.append_nil]; exact rfl
        clear hqe HS
        rcases hd with hd | ⟨hd, hd2⟩
        all_goals
          go_wp2
          go_roundw
          case rel => exact ⟨j + 1, by omega, by go_num, by rw [HS2.out]; exact ⟨A, c, rfl, HO.out.alloc _⟩, HE.out.alloc _⟩
          case measure => simp [intOf]; omega
    · have e : j = L.length := by omega
      subst e
      have HT : Hid (L.take L.length = L) := by rw [List.take_length]; exact rfl
      go_wp2
      go_ret
      rw [HT.out] at HO ⊢
      exact ⟨A, c, rfl, HO.out, HE.out⟩

end Go.Proofs.Ytkckkbajaaklnaa
