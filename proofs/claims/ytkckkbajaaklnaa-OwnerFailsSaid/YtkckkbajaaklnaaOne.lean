/- OwnerOne: a page is listed once, with one node, in one kind, or is at home. -/
import Derived.Test.YtkckkbajaaklnaaPlay
namespace Go.Proofs.Ytkckkbajaaklnaa
open Go.RowKit
set_option linter.unusedVariables false
set_option linter.unusedSimpArgs false

theorem ofK_count (L : List (Int × Int)) : ∀ (s : Nat) (n k : Int) (i : Nat), (ofK L s n k).count (i : Int) = if s ≤ i ∧ L[i - s]? = some (k, n) then 1 else 0 := by
  induction L with
  | nil => intro s n k i; simp [ofK]
  | cons q L ih =>
    intro s n k i
    unfold ofK
    by_cases hi : i = s
    · subst hi
      have hz : (ofK L (i + 1) n k).count (i : Int) = 0 := by rw [ih]; rw [if_neg (by omega)]
      by_cases hq : q = (k, n)
      · rw [if_pos hq, List.count_cons_self, hz, if_pos ⟨Nat.le_refl _, by simp [hq]⟩]
      · rw [if_neg hq, hz, if_neg (by simp [hq])]
    · have hc : (ofK L (s + 1) n k).count (i : Int) = if s ≤ i ∧ (q :: L)[i - s]? = some (k, n) then 1 else 0 := by
        rw [ih]
        by_cases hs : s + 1 ≤ i
        · have e : i - s = (i - (s + 1)) + 1 := by omega
          rw [e, List.getElem?_cons_succ]
          by_cases h2 : L[i - (s + 1)]? = some (k, n)
          · rw [if_pos ⟨hs, h2⟩, if_pos ⟨by omega, h2⟩]
          · rw [if_neg (fun h => h2 h.2), if_neg (fun h => h2 h.2)]
        · rw [if_neg (fun h => hs h.1), if_neg (fun h => by omega)]
      by_cases hq : q = (k, n)
      · rw [if_pos hq, List.count_cons_of_ne (by omega)]; exact hc
      · rw [if_neg hq]; exact hc

/-- What was listed ahead of a node and a kind. -/
def pr (L : List (Int × Int)) (n kk : Nat) : List Int := (List.range n).flatMap (fun (m : Nat) => (List.range 3).flatMap fun (i : Nat) => ofK L 0 (m : Int) ((i : Int) + 1)) ++ (List.range kk).flatMap fun (i : Nat) => ofK L 0 (n : Int) ((i : Int) + 1)
theorem pr_next (L : List (Int × Int)) (n kk : Nat) : pr L n (kk + 1) = pr L n kk ++ ofK L 0 (n : Int) ((kk : Int) + 1) := by
  unfold pr; rw [List.range_succ (n := kk), List.flatMap_append]; simp
theorem pr_node (L : List (Int × Int)) (n : Nat) : pr L (n + 1) 0 = pr L n 3 := by
  unfold pr
  rw [List.range_succ (n := n), List.flatMap_append]
  simp
theorem pr_length (L : List (Int × Int)) (n : Nat) : ∀ kk, (pr L n kk).length ≤ (n * 3 + kk) * L.length := by
  induction n with
  | zero =>
    intro kk
    induction kk with
    | zero => simp [pr]
    | succ kk ih => rw [pr_next, List.length_append]; have := ofK_length L 0 ((0 : Nat) : Int) ((kk : Int) + 1); rw [show (0 * 3 + (kk + 1)) * L.length = (0 * 3 + kk) * L.length + L.length by rw [Nat.zero_mul, Nat.zero_add, Nat.zero_add, Nat.succ_mul]]; omega
  | succ n ihn =>
    intro kk
    induction kk with
    | zero => rw [pr_node]; exact Nat.le_trans (ihn 3) (Nat.mul_le_mul_right _ (by omega))
    | succ kk ih => rw [pr_next, List.length_append]; have := ofK_length L 0 ((n + 1 : Nat) : Int) ((kk : Int) + 1); rw [show ((n + 1) * 3 + (kk + 1)) * L.length = ((n + 1) * 3 + kk) * L.length + L.length by rw [← Nat.add_assoc, Nat.succ_mul]]; omega
theorem pr_start (L : List (Int × Int)) : pr L 0 0 = [] := rfl

theorem pr_count (L : List (Int × Int)) (hR : Rights L) (i : Nat) : (pr L 8 0).count (i : Int) = if (L.getD i (0, 0)).1 = 0 then 0 else 1 := by
  have h : ∀ n k : Int, (ofK L 0 n k).count (i : Int) = if L[i]? = some (k, n) then 1 else 0 := by
    intro n k
    rw [ofK_count]
    simp
  unfold pr
  simp only [show List.range 8 = [0, 1, 2, 3, 4, 5, 6, 7] from rfl, show List.range 3 = [0, 1, 2] from rfl, show List.range 0 = [] from rfl, List.flatMap_cons, List.flatMap_nil, List.append_nil, List.count_append, h]
  cases hq : L[i]? with
  | none => simp [List.getD, hq]
  | some q =>
    have hr := hR q (List.mem_of_getElem? hq)
    obtain ⟨k, n⟩ := q
    rw [List.getD_eq_getElem?_getD, hq]
    rcases hr with hr | ⟨h1, h2, h3, h4⟩
    · obtain ⟨rfl, rfl⟩ := Prod.mk.inj hr; simp
    · simp only at h1 h2 h3 h4
      have hk : k = 1 ∨ k = 2 ∨ k = 3 := by omega
      have hn : n = 0 ∨ n = 1 ∨ n = 2 ∨ n = 3 ∨ n = 4 ∨ n = 5 ∨ n = 6 ∨ n = 7 := by omega
      rcases hk with rfl | rfl | rfl <;> rcases hn with rfl | rfl | rfl | rfl | rfl | rfl | rfl | rfl <;> simp

def cntL (l : List Int) : List Int := (List.range 32).map fun (i : Nat) => ((l.count (i : Int) : Nat) : Int)
theorem cntL_get (l : List Int) {i : Nat} (hi : i < 32) : (cntL l)[i]? = some ((l.count (i : Int) : Nat) : Int) := by simp [cntL, hi]
theorem cntL_snoc (l : List Int) {p : Nat} (hp : p < 32) : cntL (l ++ [(p : Int)]) = (cntL l).set p (((l.count (p : Int) : Nat) : Int) + 1) := by
  apply List.ext_getElem?
  intro i
  by_cases hi : i < 32
  · rw [cntL_get _ hi, List.getElem?_set]
    by_cases e : p = i
    · subst e; simp [cntL, hp]
    · rw [if_neg e, cntL_get _ hi]
      have : ((p : Int) == (i : Int)) = false := beq_eq_false_iff_ne.2 (by omega)
      simp [List.count_cons, this]
  · rw [List.getElem?_eq_none (by simp [cntL]; omega), List.getElem?_eq_none (by simp [cntL]; omega)]

/-- The counts in their block, and a directory. -/
structure CS (w0 : World) (b g cb : Nat) (w : World) (L : List (Int × Int)) (l : List Int) : Prop where
  o : Own1 w0 b g w L
  c : w.heap[cb]? = some (.cells ((cntL l).map (Value.int .i64)).toArray 40 (0, 0))
  new : w0.heap.size ≤ cb
theorem CS.same {w0 w w' : World} {b g cb : Nat} {L : List (Int × Int)} {l : List Int} (h : CS w0 b g cb w L l) (u : Ext [] w w') : CS w0 b g cb w' L l :=
  ⟨h.o.same u, (u.block _ (lt_of_block h.c) (by simp)).trans h.c, h.new⟩
theorem CS.cell {w0 w : World} {b g cb : Nat} {L : List (Int × Int)} {l : List Int} (h : CS w0 b g cb w L l) {i : Nat} (hi : i < 32) : w.cell? ⟨cb, i, none⟩ = some (.int .i64 ((l.count (i : Int) : Nat) : Int)) := by
  rw [cell_of_row w cb i _ _ _ h.c, List.getElem?_toArray, List.getElem?_map, cntL_get l hi]; rfl
theorem CS.free {w0 w : World} {b g cb : Nat} {L : List (Int × Int)} {l : List Int} (h : CS w0 b g cb w L l) (i : Nat) : w.frozen? ⟨cb, i, none⟩ = false := frozen_of_row w cb i _ _ h.c
theorem CS.bump {w0 w : World} {b g cb : Nat} {L : List (Int × Int)} {l : List Int} (h : CS w0 b g cb w L l) {p : Nat} (hp : p < 32) :
    CS w0 b g cb (w.setCell ⟨cb, p, none⟩ (.int .i64 (((l.count (p : Int) : Nat) : Int) + 1))) L (l ++ [(p : Int)]) := by
  have n1 : b ≠ cb := by rintro rfl; have := h.o.d.hd.symm.trans h.c; simp at this
  have n2 : g ≠ cb := by rintro rfl; have := h.o.d.hc.symm.trans h.c; simp at this
  have u : Ext [cb] w (w.setCell ⟨cb, p, none⟩ (.int .i64 (((l.count (p : Int) : Nat) : Int) + 1))) := (Ext.refl _ _).setCell (.inl (by simp)) _
  refine ⟨⟨h.o.d.ext u (by simp; exact n1) (by simp; exact n2), h.o.ext.new u (by have := h.new; simp; omega), h.o.new⟩, ?_, h.new⟩
  rw [heap_setCell_same w cb p _ 40 _ h.c, cntL_snoc l hp, List.map_set, List.setIfInBounds_toArray]

theorem ones_zero : (.cells #[.int .i64 0, .int .i64 0, .int .i64 0, .int .i64 0, .int .i64 0, .int .i64 0, .int .i64 0, .int .i64 0, .int .i64 0, .int .i64 0, .int .i64 0, .int .i64 0, .int .i64 0, .int .i64 0, .int .i64 0, .int .i64 0, .int .i64 0, .int .i64 0, .int .i64 0, .int .i64 0, .int .i64 0, .int .i64 0, .int .i64 0, .int .i64 0, .int .i64 0, .int .i64 0, .int .i64 0, .int .i64 0, .int .i64 0, .int .i64 0, .int .i64 0, .int .i64 0] 40 : Obj) = .cells ((cntL []).map (Value.int .i64)).toArray 40 (0, 0) := rfl

set_option maxHeartbeats 2000000 in
theorem one_many (pages : Int) (A : Option Addr) (n c : Nat) (w : World) (hn : 1000 < n) :
    Calls Try.prog 5 #[.int .i64 pages, .slice A n c] w fun e w' => e = .returned (.bool true) ∧ Ext [] w w' := by
  have hn2 : (1000 : Int) < (n : Int) := by omega
  go_enter Try.func5, Try.ntmps5
  go_wp2_with (go_at_call 8; fail)
  refine (awake_any _).mono ?_
  rintro e w1 ⟨rfl, E1⟩
  have HE1 := Lib.hid E1
  clear E1
  go_wp2_with (go_at_call 8; fail)
  refine (awake_any _).mono ?_
  rintro e w2 ⟨rfl, E2⟩
  have HE2 := Lib.hid (HE1.out.trans E2)
  clear E2
  go_wp2
  go_ret
  exact ⟨rfl, HE2.out⟩

theorem ofK_get (L : List (Int × Int)) {n k : Int} {j : Nat} (hj : j < (ofK L 0 n k).length) : ∃ p : Nat, (ofK L 0 n k)[j]? = some (p : Int) ∧ L[p]? = some (k, n) := by
  have hm : (ofK L 0 n k)[j] ∈ ofK L 0 n k := List.getElem_mem hj
  obtain ⟨p, hp, hq⟩ := (ofK_mem L 0 n k _).1 hm
  refine ⟨p, ?_, hq⟩
  rw [List.getElem?_eq_getElem hj, hp]; simp
theorem ofK_before (L : List (Int × Int)) {n k : Int} {j : Nat} {x y : Int} (hx : (ofK L 0 n k)[j + 1]? = some x) (hy : (ofK L 0 n k)[j]? = some y) : y < x := by
  have h := ofK_rise L 0 n k
  rw [List.pairwise_iff_getElem] at h
  obtain ⟨h1, h2⟩ := List.getElem?_eq_some_iff.1 hx
  obtain ⟨h3, h4⟩ := List.getElem?_eq_some_iff.1 hy
  rw [← h2, ← h4]
  exact h j (j + 1) h3 h1 (by omega)

set_option maxRecDepth 100000 in
set_option maxHeartbeats 8000000 in
theorem one_few (pages : Int) (A : Option Addr) (c : Nat) (l : List Op) (w : World) (hn : l.length ≤ 1000) (hO : Ops w A l) :
    Calls Try.prog 5 #[.int .i64 pages, .slice A l.length c] w fun e w' => e = .returned (.bool true) ∧ Ext [] w w' := by
  have hn2 : ¬ (1000 : Int) < (l.length : Int) := by omega
  have HO := Lib.hid hO
  clear hO
  go_enter Try.func5, Try.ntmps5
  go_wp2_with (go_at_call 8; fail)
  refine (awake_any _).mono ?_
  rintro e w1 ⟨rfl, E1⟩
  have HE1 := Lib.hid E1
  have hs1 := E1.size
  clear E1
  go_wp2_with (go_at_call 9; fail)
  refine (new_any pages _).mono ?_
  rintro e w2 ⟨rfl, D2, E2⟩
  have HB : Hid (Own1 w (w1.heap.size + 1) w1.heap.size w2 (List.replicate (many pages).toNat (0, 0))) := ⟨D2, HE1.out.trans E2, by omega⟩
  have HR0 : Hid (Rights (List.replicate (many pages).toNat (0, 0))) := Rights.home _
  clear D2 E2
  generalize w1.heap.size + 1 = b at *
  generalize w1.heap.size = g at *
  generalize List.replicate (many pages).toNat ((0 : Int), (0 : Int)) = L0 at *
  clear HE1
  go_wp2
  go_loopw [31] (fun i wr => ∃ j : Nat, j ≤ l.length ∧ i = .int .i64 j ∧ Own1 w b g wr (playL L0 (l.take j))) (fun i _ => l.length - (intOf i).toNat)
  case atStart => exact ⟨0, Nat.zero_le _, rfl, HB.out⟩
  case round =>
    obtain ⟨j, hj, rfl, hb⟩ := hrel
    replace HB := Lib.hid hb
    clear hb
    by_cases hlt : j < l.length
    · obtain ⟨q, hq⟩ : ∃ q, l[j]? = some q := ⟨l[j], by simp [hlt]⟩
      obtain ⟨ab, off, rfl, hab, c0, c1, c2, c3⟩ := (HO.out.ext HB.out.ext).at_ hq
      have HP : Hid (playL L0 (l.take (j + 1)) = doesL (playL L0 (l.take j)) q.k q.p q.a q.b) := by
        unfold Hid
        rw [List.take_add_one, hq, Option.toList_some, playL_snoc]
      have b0 : (0 : Int) ≤ (j : Int) := by omega
      have b1 : (j : Int) < (l.length : Int) := by omega
      clear hq
      go_wp2_with (go_at_call 17; fail)
      refine (HB.out.play q.k q.p q.a q.b).mono ?_
      rintro e w4 ⟨rfl, hb⟩
      replace HB := Lib.hid hb
      clear hb c0 c1 c2 c3
      go_wp2
      go_roundw
      case rel => exact ⟨j + 1, by omega, by go_num, by rw [HP.out]; exact HB.out⟩
      case measure => simp [intOf]; omega
    · have e : j = l.length := by omega
      subst e
      have HR := Lib.hid (HR0.out.play (l.take l.length))
      generalize playL L0 (l.take l.length) = L at *
      clear HR0
      have hfew := HB.out.d.few
      have HC : Hid (CS w b g wr.heap.size (wr.alloc (.cells ((cntL []).map (Value.int .i64)).toArray 40 (0, 0))) L []) :=
        ⟨HB.out.same ((Ext.refl _ _).alloc _), heap_alloc_new _ _, HB.out.ext.size⟩
      rw [← ones_zero] at HC
      generalize hcb : wr.heap.size = cb at *
      go_wp2
      clear hcb
      go_loopw [8] (fun i wr => ∃ n : Nat, n ≤ 8 ∧ i = .int .i64 n ∧ CS w b g cb wr L (pr L n 0)) (fun i _ => 8 - (intOf i).toNat)
      case atStart => exact ⟨0, by omega, rfl, HC.out⟩
      case round =>
        obtain ⟨n, hn8, rfl, hc⟩ := hrel
        have HC := Lib.hid hc
        clear hc
        by_cases hlt8 : n < 8
        · have hlt8' : (n : Int) < 8 := by omega
          go_wp2
          go_loopw [9] (fun i wr => ∃ k : Nat, k ≤ 3 ∧ i = .int .i64 ((k : Int) + 1) ∧ CS w b g cb wr L (pr L n k)) (fun i _ => 4 - (intOf i).toNat)
          case atStart => exact ⟨0, by omega, rfl, HC.out⟩
          case round =>
            obtain ⟨k, hk3, rfl, hc⟩ := hrel
            replace HC := Lib.hid hc
            clear hc
            by_cases hltk : k < 3
            · have hltk' : (k : Int) + 1 ≤ 3 := by omega
              have hkz : ((k : Int) + 1 != 0) = true := by rw [bne_iff_ne]; omega
              go_wp2_with (go_at_call 18; fail)
              refine (of_some b g L _ HC.out.o.d (n : Int) ((k : Int) + 1) hkz).mono ?_
              rintro e w4 ⟨A4, c4, rfl, hi, hu⟩
              have hcb4 : cb < wr.heap.size := lt_of_block HC.out.c
              replace HC := Lib.hid (HC.out.same hu)
              have HI := Lib.hid hi
              have hlen := ofK_length L 0 (n : Int) ((k : Int) + 1)
              clear hi hu
              generalize wr.heap.size = B4 at *
              have HPN : Hid (pr L n (k + 1) = pr L n k ++ ofK L 0 (n : Int) ((k : Int) + 1)) := pr_next L n k
              generalize hlk : ofK L 0 (n : Int) ((k : Int) + 1) = lk at *
              have HLK := Lib.hid hlk
              clear hlk
              go_wp2
              go_loopw [55] (fun i w5 => ∃ j : Nat, j ≤ lk.length ∧ i = .int .i64 j ∧ CS w b g cb w5 L (pr L n k ++ lk.take j) ∧ Ints w5 B4 (.slice A4 lk.length c4) lk) (fun i _ => lk.length - (intOf i).toNat)
              case atStart => exact ⟨0, by omega, rfl, by simpa using HC.out, HI.out⟩
              case round =>
                obtain ⟨j, hj, rfl, hc, hi⟩ := hrel
                replace HC := Lib.hid hc
                replace HI := Lib.hid hi
                clear hc hi
                by_cases hltj : j < lk.length
                · obtain ⟨p, hp, hLp⟩ : ∃ p : Nat, lk[j]? = some (p : Int) ∧ L[p]? = some ((k : Int) + 1, (n : Int)) := by
                    have h1 := HLK.out
                    subst h1
                    exact ofK_get L hltj
                  obtain ⟨gg, rfl⟩ : ∃ gg, A4 = some ⟨gg, 0, none⟩ := by
                    rcases own_form HI.out with ⟨_, h⟩ | ⟨gg, cap, h⟩
                    · omega
                    · injection h with h _ _; exact ⟨gg, h⟩
                  have hpL : p < L.length := (List.getElem?_eq_some_iff.1 hLp).1
                  have hp32 : p < 32 := by omega
                  have cj := Ints.cell HI.out hp
                  have cc := HC.out.cell hp32
                  have fc := HC.out.free p
                  have hgc : gg ≠ cb := by
                    have := HI.out.lt gg rfl
                    omega
                  have HBU := Lib.hid (HC.out.bump hp32)
                  have HIU : Hid (Ints (wr.setCell ⟨cb, p, none⟩ (.int .i64 ((((pr L n k ++ lk.take j).count (p : Int) : Nat) : Int) + 1))) B4 (.slice (some ⟨gg, 0, none⟩) lk.length c4) lk) :=
                    own_ext HI.out ((Ext.refl [cb] _).setCell (.inl (by simp)) _) (by intro x hx; simp at hx; omega)
                  have hwk : whereK L (p : Int) = (k : Int) + 1 := by
                    unfold whereK pl; rw [if_pos ⟨by omega, by omega⟩]; simp [hLp]
                  have hwn : whereN L (p : Int) = (n : Int) := by
                    unfold whereN pl; rw [if_pos ⟨by omega, by omega⟩]; simp [hLp]
                  have HW : Hid (∀ w', Dir w' 51 57 b g L → Calls Try.prog 19 #[.pointer (some ⟨b, 0, none⟩), .int .i64 (p : Int)] w' fun e w'' => e = .returned (.tuple #[.int .i64 ((k : Int) + 1), .int .i64 (n : Int)]) ∧ ∃ m, w'' = w'.drewN m) := fun w' hd => by
                    have := where_any b g L w' hd (p : Int)
                    rwa [hwk, hwn] at this
                  have HTS : Hid (pr L n k ++ lk.take (j + 1) = (pr L n k ++ lk.take j) ++ [(p : Int)]) := by
                    unfold Hid; rw [List.take_add_one, hp, Option.toList_some, List.append_assoc]
                  have hcnt : 0 ≤ (((pr L n k ++ lk.take j).count (p : Int) : Nat) : Int) ∧ (((pr L n k ++ lk.take j).count (p : Int) : Nat) : Int) ≤ 100000 := by
                    have h1 := List.count_le_length (a := (p : Int)) (l := pr L n k ++ lk.take j)
                    have h2 := pr_length L n k
                    have h3 : (lk.take j).length ≤ j := List.length_take_le _ _
                    simp only [List.length_append] at h1
                    have h4 : (n * 3 + k) * L.length ≤ 27 * 32 := Nat.mul_le_mul (by omega) (by omega)
                    omega
                  have b0 : (0 : Int) ≤ (j : Int) := by omega
                  have b1 : (j : Int) < (lk.length : Int) := by omega
                  have b2 : (0 : Int) ≤ (p : Int) := by omega
                  have b3 : (p : Int) < 32 := by omega
                  have t1 : decide ((p : Int) < 0) = false := decide_eq_false (by omega)
                  have t2 : decide ((32 : Int) ≤ (p : Int)) = false := decide_eq_false (by omega)
                  have HP := Lib.hid hp
                  have HLP := Lib.hid hLp
                  clear hp hLp hwk hwn
                  generalize hcn : (((pr L n k ++ lk.take j).count (p : Int) : Nat) : Int) = cn at *
                  clear hcn
                  rcases Nat.eq_zero_or_pos j with rfl | hpos
                  · go_wp2
                    go_quiet (fail)
                    go_wp2_with (go_at_call 19; fail)
                    refine (HW.out _ (HBU.out.o.d.drewN _)).mono ?_
                    rintro e w6 ⟨rfl, m6, rfl⟩
                    have HC6 := Lib.hid (HBU.out.same ((Ext.refl _ _).drewN (nq + m6)))
                    have HI6 : Hid (Ints _ B4 (.slice (some ⟨gg, 0, none⟩) lk.length c4) lk) := own_ext HIU.out ((Ext.refl [] _).drewN (nq + m6)) (by simp)
                    go_wp2
                    go_roundw
                    case rel => exact ⟨0 + 1, by omega, by go_num, by rw [HTS.out]; exact HC6.out, HI6.out⟩
                    case measure => simp [intOf]; omega
                  · obtain ⟨m, rfl⟩ : ∃ m, j = m + 1 := ⟨j - 1, by omega⟩
                    obtain ⟨y, hy⟩ : ∃ y, lk[m]? = some y := ⟨lk[m]'(by omega), by rw [List.getElem?_eq_getElem (by omega)]⟩
                    have hyx : y < (p : Int) := by
                      have h1 := HLK.out
                      subst h1
                      exact ofK_before L HP.out hy
                    have cy := Ints.cell HI.out hy
                    have t3 : decide ((p : Int) ≤ y) = false := decide_eq_false (by omega)
                    have t4 : decide ((0 : Int) < ((m + 1 : Nat) : Int)) = true := decide_eq_true (by omega)
                    have t5 : IntKind.i64.wrap (((m + 1 : Nat) : Int) - 1) = (m : Int) := by rw [IntWalk.i64_in _ (by omega)]; omega
                    have b4 : (0 : Int) ≤ (m : Int) := by omega
                    have b5 : (m : Int) < (lk.length : Int) := by omega
                    clear hy hyx
                    go_wp2
                    go_quiet (fail)
                    go_wp2_with (go_at_call 19; fail)
                    refine (HW.out _ (HBU.out.o.d.drewN _)).mono ?_
                    rintro e w6 ⟨rfl, m6, rfl⟩
                    have HC6 := Lib.hid (HBU.out.same ((Ext.refl _ _).drewN (nq + m6)))
                    have HI6 : Hid (Ints _ B4 (.slice (some ⟨gg, 0, none⟩) lk.length c4) lk) := own_ext HIU.out ((Ext.refl [] _).drewN (nq + m6)) (by simp)
                    go_wp2
                    go_roundw
                    case rel => exact ⟨m + 1 + 1, by omega, by go_num, by rw [HTS.out]; exact HC6.out, HI6.out⟩
                    case measure => simp [intOf]; omega
                · have e : j = lk.length := by omega
                  subst e
                  have hfin : CS w b g cb wr L (pr L n (k + 1)) := by
                    have h := HC.out
                    rw [List.take_length] at h
                    rw [HPN.out]; exact h
                  replace HC := Lib.hid hfin
                  clear hfin
                  go_wp2
                  go_roundw
                  case rel => exact ⟨k + 1, by omega, by go_num, HC.out⟩
                  case measure => simp [intOf]; omega
            · have e : k = 3 := by omega
              subst e
              have hfin : CS w b g cb wr L (pr L (n + 1) 0) := by rw [pr_node]; exact HC.out
              replace HC := Lib.hid hfin
              clear hfin
              go_wp2
              go_roundw
              case rel => exact ⟨n + 1, by omega, by go_num, HC.out⟩
              case measure => simp [intOf]; omega
        · have e : n = 8 := by omega
          subst e
          have HCNT : Hid (∀ i : Nat, (pr L 8 0).count (i : Int) = if (L.getD i (0, 0)).1 = 0 then 0 else 1) := fun i => pr_count L HR.out i
          generalize pr L 8 0 = done at *
          go_wp2
          go_loopw [112] (fun i wr => ∃ j : Nat, j ≤ 32 ∧ i = .int .i64 j ∧ CS w b g cb wr L done) (fun i _ => 32 - (intOf i).toNat)
          case atStart => exact ⟨0, by omega, rfl, HC.out⟩
          case round =>
            obtain ⟨j, hj, rfl, hc⟩ := hrel
            replace HC := Lib.hid hc
            clear hc
            by_cases hltj : j < 32
            · have hltj' : (j : Int) < 32 := by omega
              have b0 : (0 : Int) ≤ (j : Int) := by omega
              have cc := HC.out.cell hltj
              have hgd : whereK L (j : Int) = (L.getD j (0, 0)).1 ∧ ((L.getD j (0, 0)).1 = 0 → whereN L (j : Int) = 0) := by
                unfold whereK whereN pl
                by_cases hin : inP L (j : Int)
                · rw [if_pos hin, if_pos hin, Int.toNat_natCast]
                  refine ⟨rfl, fun h0 => ?_⟩
                  have hjl : j < L.length := by have := hin.2; omega
                  have hm : L.getD j (0, 0) ∈ L := by rw [List.getD_eq_getElem?_getD, List.getElem?_eq_getElem hjl]; exact List.getElem_mem hjl
                  rcases HR.out _ hm with h | ⟨h, _⟩
                  · rw [h]
                  · omega
                · rw [if_neg hin, if_neg hin]
                  have hjl : L.length ≤ j := by unfold inP at hin; omega
                  rw [List.getD_eq_getElem?_getD, List.getElem?_eq_none hjl]
                  exact ⟨rfl, fun _ => rfl⟩
              rw [HCNT.out j] at cc
              by_cases hk : (L.getD j (0, 0)).1 = 0
              · rw [if_pos hk] at cc
                have HW : Hid (∀ w', Dir w' 51 57 b g L → Calls Try.prog 19 #[.pointer (some ⟨b, 0, none⟩), .int .i64 (j : Int)] w' fun e w'' => e = .returned (.tuple #[.int .i64 0, .int .i64 0]) ∧ ∃ m, w'' = w'.drewN m) := fun w' hd => by
                  have := where_any b g L w' hd (j : Int)
                  rwa [hgd.1, hgd.2 hk, hk] at this
                clear hgd hk
                go_wp2_with (go_at_call 19; fail)
                refine (HW.out _ HC.out.o.d).mono ?_
                rintro e w6 ⟨rfl, m6, rfl⟩
                replace HC := Lib.hid (HC.out.same ((Ext.refl _ _).drewN m6))
                go_wp2
                go_roundw
                case rel => (repeat apply Exists.intro); exact ⟨⟨j + 1, by omega, by go_num, HC.out⟩, rfl⟩
                case measure => simp [intOf]; omega
              · rw [if_neg hk] at cc
                have HW : Hid (∀ w', Dir w' 51 57 b g L → Calls Try.prog 19 #[.pointer (some ⟨b, 0, none⟩), .int .i64 (j : Int)] w' fun e w'' => e = .returned (.tuple #[.int .i64 (L.getD j (0, 0)).1, .int .i64 (whereN L (j : Int))]) ∧ ∃ m, w'' = w'.drewN m) := fun w' hd => by
                  have := where_any b g L w' hd (j : Int)
                  rwa [hgd.1] at this
                have hkb : ((L.getD j (0, 0)).1 == 0) = false := beq_eq_false_iff_ne.2 hk
                clear hgd hk
                generalize (L.getD j (0, 0)).1 = kk at *
                generalize whereN L (j : Int) = nn at *
                go_wp2_with (go_at_call 19; fail)
                refine (HW.out _ HC.out.o.d).mono ?_
                rintro e w6 ⟨rfl, m6, rfl⟩
                replace HC := Lib.hid (HC.out.same ((Ext.refl _ _).drewN m6))
                go_wp2
                go_roundw
                case rel => (repeat apply Exists.intro); exact ⟨⟨j + 1, by omega, by go_num, HC.out⟩, rfl⟩
                case measure => simp [intOf]; omega
            · have e : j = 32 := by omega
              subst e
              go_wp2
              go_ret
              exact ⟨rfl, HC.out.o.ext⟩

end Go.Proofs.Ytkckkbajaaklnaa
