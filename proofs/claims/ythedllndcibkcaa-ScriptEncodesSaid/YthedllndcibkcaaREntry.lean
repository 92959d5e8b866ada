/- The document's entry: the letters of a kind, one by one. -/
import Derived.Test.YthedllndcibkcaaNums
namespace Go.Proofs.Ythedllndcibkcaa
open Go.RowKit
set_option linter.unusedVariables false
set_option linter.unusedSimpArgs false

def rletters : List UInt8 := [110, 116, 112, 115, 99, 67, 111, 79, 109, 118]
theorem rrun_next (l : List UInt8) (j : Nat) (c : UInt8) (h : l[j]? = some c) (x : St × List Int) : rrun (l.drop j) x = (rstep c x.1 x.2).bind (rrun (l.drop (j + 1))) := by
  have hj := (List.getElem?_eq_some_iff.1 h).1
  have e := (List.getElem?_eq_some_iff.1 h).2
  rw [List.drop_eq_getElem_cons hj, e]; rfl
theorem rstep_one {c : UInt8} {f : Nat} (h : c ≠ 118) (hF : toF c = (f, 1)) (s : St) (x : Int) (r : List Int) : rstep c s (x :: r) = some (s.put f x, r) := by
  unfold rstep
  rw [if_neg h, hF, if_neg (by simp)]
  simp [numV]
theorem rstep_two {c : UInt8} {f : Nat} (h : c ≠ 118) (hF : toF c = (f, 2)) (s : St) (x y : Int) (r : List Int) : rstep c s (x :: y :: r) = some (s.put f (256 * x + y), r) := by
  unfold rstep
  rw [if_neg h, hF, if_neg (by simp)]
  have : numV 2 (x :: y :: r) = 256 * x + y := by
    unfold numV
    rw [if_neg (by simp), if_neg (by decide), Int.mul_comm 256 x]
    rfl
  rw [this]; rfl
theorem rstep_short {c : UInt8} {f k : Nat} (h : c ≠ 118) (hF : toF c = (f, k)) (s : St) (r : List Int) (hr : r.length < k) : rstep c s r = none := by
  unfold rstep
  rw [if_neg h, hF, if_pos hr]
theorem rstep_text (s : St) (x : Int) (r : List Int) (hr : ¬ r.length < x.toNat) : rstep 118 s (x :: r) = some ({ s with v := strOfNums (r.take x.toNat) }, r.drop x.toNat) := by
  unfold rstep
  rw [if_pos rfl, if_neg (by simp)]
  have : numV 1 (x :: r) = x := by simp [numV]
  rw [this]
  simp only [List.drop_one, List.tail_cons]
  rw [if_neg hr]
theorem rstep_text_short (s : St) (x : Int) (r : List Int) (hr : r.length < x.toNat) : rstep 118 s (x :: r) = none := by
  unfold rstep
  rw [if_pos rfl, if_neg (by simp)]
  have : numV 1 (x :: r) = x := by simp [numV]
  rw [this]
  simp only [List.drop_one, List.tail_cons]
  rw [if_pos hr]
theorem rstep_text_nil (s : St) : rstep 118 s [] = none := rfl

theorem form_is (k : Int) (F : ByteArray) (h : formS k = F) (w : World) : Calls Try.prog 19 #[.int .i64 k] w fun e w' => e = .returned (.string F) ∧ w = w' := by
  subst h; exact form_any k w

def EntryPost (b : ByteArray) (q : Option (St × List Int)) (i : Nat) (w : World) (e : Ending) (w' : World) : Prop :=
  Ext [] w w' ∧ match q with
  | none => e = .returned (.tuple #[.agg (st0 0).cells.toArray, .int .i64 0, .bool false])
  | some (s, r) => ∃ i' : Nat, i < i' ∧ i' ≤ b.size ∧ r = (nums b).drop i' ∧ e = .returned (.tuple #[.agg s.cells.toArray, .int .i64 i', .bool true])
theorem EntryPost.miss {b : ByteArray} {q : Option (St × List Int)} {i : Nat} {w w' : World} {e : Ending} (hq : q = none) (h : Ext [] w w') (he : e = .returned (.tuple #[.agg (st0 0).cells.toArray, .int .i64 0, .bool false])) : EntryPost b q i w e w' := by
  subst hq; exact ⟨h, he⟩
theorem EntryPost.hit {b : ByteArray} {q : Option (St × List Int)} {i : Nat} {w w' : World} {e : Ending} {s : St} {i' : Nat} (hq : some (s, (nums b).drop i') = q) (h1 : i < i') (h2 : i' ≤ b.size) (h : Ext [] w w') (he : e = .returned (.tuple #[.agg s.cells.toArray, .int .i64 i', .bool true])) : EntryPost b q i w e w' := by
  subst hq; exact ⟨h, i', h1, h2, rfl, he⟩

theorem letters_ok (k : Int) : (∀ c ∈ formL k, c ∈ rletters) ∧ (formL k).length ≤ 5 := by
  unfold formL; split <;> exact ⟨by decide, by decide⟩

set_option maxHeartbeats 64000000 in
set_option maxRecDepth 100000 in
theorem rentry_any (w : World) (b : ByteArray) (hl : b.size ≤ 1000000) (i : Nat) (hi : i < b.size) (k : Int) (hk : (b[i].toNat : Int) = k) :
    Calls Try.prog 20 #[.string b, .int .i64 i] w (EntryPost b (rrun (formL k) (st0 k, (nums b).drop (i + 1))) i w) := by
  obtain ⟨hfl, hf5⟩ := letters_ok k
  obtain ⟨F, hF⟩ : ∃ F, formS k = F := ⟨_, rfl⟩
  have hFl : F.data.toList = formL k := by rw [← hF]; rfl
  have hFs : F.size ≤ 5 := by rw [← hFl] at hf5; exact hf5
  rw [← hFl] at hfl ⊢
  generalize hq0 : rrun F.data.toList (st0 k, (nums b).drop (i + 1)) = q
  have hk1 : k < 256 := by rw [← hk]; have := b[i].toNat_lt; omega
  have hk2 : 0 ≤ k := by rw [← hk]; omega
  have HF := Lib.hid hF
  have HFl := Lib.hid hfl
  have HQ0 := Lib.hid hq0
  clear hF hFl hfl hf5 hq0
  go_enter Try.func20, Try.ntmps20
  go_wp2_with (go_at_call 19; refine (form_is k F HF.out _).mono ?_; rintro e w' ⟨rfl, rfl⟩)
  clear hk
  go_loopw [1, 9] (fun ii kk wr => ∃ (j i' : Nat) (s : St), kk = .int .i64 j ∧ ii = .int .i64 i' ∧ j ≤ F.size ∧ i < i' ∧ i' ≤ b.size ∧ rrun (F.data.toList.drop j) (s, (nums b).drop i') = q ∧ Blk wr w.heap.size 39 (st0 0).cells ∧ Blk wr (w.heap.size + 1) 39 s.cells ∧ Ext [] w wr) (fun _ kk _ => F.size - (intOf kk).toNat)
  case atStart =>
    refine ⟨0, i + 1, st0 k, rfl, by go_num, Nat.zero_le _, by omega, by omega, HQ0.out, ?_, ?_, ((Ext.refl _ _).alloc _).alloc _⟩
    · exact Blk.alloc (Blk.new w 39 (st0 0).cells) _
    · have := Blk.new (w.alloc (.cells (st0 0).cells.toArray 39)) 39 (st0 k).cells
      rw [World.size_alloc] at this
      exact this
  case round =>
    obtain ⟨j, i', s, rfl, rfl, hj, hii, hi', hq, hb0, hb1, hext⟩ := hrel
    have HB0 := Lib.hid hb0
    have HB1 := Lib.hid hb1
    have HE := Lib.hid hext
    clear hb0 hb1 hext
    by_cases hlt : j < F.size
    · have hcl : F.data.toList[j]? = some F[j] := Go.Proofs.byte_at F j hlt
      have hmem : F[j] ∈ rletters := HFl.out _ (List.mem_of_getElem? hcl)
      rw [rrun_next _ _ _ hcl] at hq
      simp only [rletters, List.mem_cons, List.not_mem_nil, or_false] at hmem
      have hixF := index_run F j hlt
      have HQ := Lib.hid hq
      clear hq hcl
      rcases hmem with hcc | hcc | hcc | hcc | hcc | hcc | hcc | hcc | hcc | hcc
      · rw [hcc] at hixF
        have hixF2 : ∀ W, (Instr.index 9 (.string F) (.int .i64 (j : Int))).run Try.prog W = .ok (.int .u8 110) W := hixF
        have HQ2 := HQ.out
        rw [hcc] at HQ2
        have HQ := Lib.hid HQ2
        clear hixF HQ2 hcc
        by_cases hs : i' + 0 < b.size
        · have hixb := index_run b i' (by omega)
          have hxl := byte_lt b i' (by omega)
          have hq2 := HQ.out
          rw [nums_drop b i' (by omega), rstep_one (f := 1) (by decide) (by decide)] at hq2
          generalize (b[i']'(by omega)).toNat = x at *
          have HQ3 := Lib.hid hq2
          clear hq2
          have hu := HB1.out.cell (k := 1) rfl
          have fu := HB1.out.free 1
          go_wp2
          go_roundw
          case rel => exact ⟨j + 1, i' + 1, s.put 1 x, by go_num, by go_num, by omega, by omega, by omega, HQ3.out, HB0.out.far (p := ⟨w.heap.size + 1, 1, none⟩) (by simp) _, HB1.out.set 1 _, HE.out.setCell (.inr (by simp)) _⟩
          case measure => simp [intOf]; omega
        · have d0 := HB0.out.cell (k := 0) rfl
          have d1 := HB0.out.cell (k := 1) rfl
          have d2 := HB0.out.cell (k := 2) rfl
          have d3 := HB0.out.cell (k := 3) rfl
          have d4 := HB0.out.cell (k := 4) rfl
          have d5 := HB0.out.cell (k := 5) rfl
          have d6 := HB0.out.cell (k := 6) rfl
          have d7 := HB0.out.cell (k := 7) rfl
          have d8 := HB0.out.cell (k := 8) rfl
          have g0 := HB0.out.free 0
          have g1 := HB0.out.free 1
          have g2 := HB0.out.free 2
          have g3 := HB0.out.free 3
          have g4 := HB0.out.free 4
          have g5 := HB0.out.free 5
          have g6 := HB0.out.free 6
          have g7 := HB0.out.free 7
          have g8 := HB0.out.free 8
          have hqn : q = none := by rw [← HQ.out]; rw [rstep_short (f := 1) (k := 1) (by decide) (by decide) _ _ (by rw [List.length_drop, nums_length]; omega)]; rfl
          have HQN := Lib.hid hqn
          clear hqn
          go_wp2
          refine bodyPost_ret (v := .tuple #[.agg (st0 0).cells.toArray, .int .i64 0, .bool false]) (by simp [results, Try.results20, go_sem, st0, St.cells, *]) rfl ?_
          exact EntryPost.miss HQN.out (((((((((HE.out.setCell (.inr (by simp)) _).setCell (.inr (by simp)) _).setCell (.inr (by simp)) _).setCell (.inr (by simp)) _).setCell (.inr (by simp)) _).setCell (.inr (by simp)) _).setCell (.inr (by simp)) _).setCell (.inr (by simp)) _).setCell (.inr (by simp)) _) rfl
      · rw [hcc] at hixF
        have hixF2 : ∀ W, (Instr.index 9 (.string F) (.int .i64 (j : Int))).run Try.prog W = .ok (.int .u8 116) W := hixF
        have HQ2 := HQ.out
        rw [hcc] at HQ2
        have HQ := Lib.hid HQ2
        clear hixF HQ2 hcc
        by_cases hs : i' + 0 < b.size
        · have hixb := index_run b i' (by omega)
          have hxl := byte_lt b i' (by omega)
          have hq2 := HQ.out
          rw [nums_drop b i' (by omega), rstep_one (f := 2) (by decide) (by decide)] at hq2
          generalize (b[i']'(by omega)).toNat = x at *
          have HQ3 := Lib.hid hq2
          clear hq2
          have hu := HB1.out.cell (k := 2) rfl
          have fu := HB1.out.free 2
          go_wp2
          go_roundw
          case rel => exact ⟨j + 1, i' + 1, s.put 2 x, by go_num, by go_num, by omega, by omega, by omega, HQ3.out, HB0.out.far (p := ⟨w.heap.size + 1, 2, none⟩) (by simp) _, HB1.out.set 2 _, HE.out.setCell (.inr (by simp)) _⟩
          case measure => simp [intOf]; omega
        · have d0 := HB0.out.cell (k := 0) rfl
          have d1 := HB0.out.cell (k := 1) rfl
          have d2 := HB0.out.cell (k := 2) rfl
          have d3 := HB0.out.cell (k := 3) rfl
          have d4 := HB0.out.cell (k := 4) rfl
          have d5 := HB0.out.cell (k := 5) rfl
          have d6 := HB0.out.cell (k := 6) rfl
          have d7 := HB0.out.cell (k := 7) rfl
          have d8 := HB0.out.cell (k := 8) rfl
          have g0 := HB0.out.free 0
          have g1 := HB0.out.free 1
          have g2 := HB0.out.free 2
          have g3 := HB0.out.free 3
          have g4 := HB0.out.free 4
          have g5 := HB0.out.free 5
          have g6 := HB0.out.free 6
          have g7 := HB0.out.free 7
          have g8 := HB0.out.free 8
          have hqn : q = none := by rw [← HQ.out]; rw [rstep_short (f := 2) (k := 1) (by decide) (by decide) _ _ (by rw [List.length_drop, nums_length]; omega)]; rfl
          have HQN := Lib.hid hqn
          clear hqn
          go_wp2
          refine bodyPost_ret (v := .tuple #[.agg (st0 0).cells.toArray, .int .i64 0, .bool false]) (by simp [results, Try.results20, go_sem, st0, St.cells, *]) rfl ?_
          exact EntryPost.miss HQN.out (((((((((HE.out.setCell (.inr (by simp)) _).setCell (.inr (by simp)) _).setCell (.inr (by simp)) _).setCell (.inr (by simp)) _).setCell (.inr (by simp)) _).setCell (.inr (by simp)) _).setCell (.inr (by simp)) _).setCell (.inr (by simp)) _).setCell (.inr (by simp)) _) rfl
      · rw [hcc] at hixF
        have hixF2 : ∀ W, (Instr.index 9 (.string F) (.int .i64 (j : Int))).run Try.prog W = .ok (.int .u8 112) W := hixF
        have HQ2 := HQ.out
        rw [hcc] at HQ2
        have HQ := Lib.hid HQ2
        clear hixF HQ2 hcc
        by_cases hs : i' + 0 < b.size
        · have hixb := index_run b i' (by omega)
          have hxl := byte_lt b i' (by omega)
          have hq2 := HQ.out
          rw [nums_drop b i' (by omega), rstep_one (f := 3) (by decide) (by decide)] at hq2
          generalize (b[i']'(by omega)).toNat = x at *
          have HQ3 := Lib.hid hq2
          clear hq2
          have hu := HB1.out.cell (k := 3) rfl
          have fu := HB1.out.free 3
          go_wp2
          go_roundw
          case rel => exact ⟨j + 1, i' + 1, s.put 3 x, by go_num, by go_num, by omega, by omega, by omega, HQ3.out, HB0.out.far (p := ⟨w.heap.size + 1, 3, none⟩) (by simp) _, HB1.out.set 3 _, HE.out.setCell (.inr (by simp)) _⟩
          case measure => simp [intOf]; omega
        · have d0 := HB0.out.cell (k := 0) rfl
          have d1 := HB0.out.cell (k := 1) rfl
          have d2 := HB0.out.cell (k := 2) rfl
          have d3 := HB0.out.cell (k := 3) rfl
          have d4 := HB0.out.cell (k := 4) rfl
          have d5 := HB0.out.cell (k := 5) rfl
          have d6 := HB0.out.cell (k := 6) rfl
          have d7 := HB0.out.cell (k := 7) rfl
          have d8 := HB0.out.cell (k := 8) rfl
          have g0 := HB0.out.free 0
          have g1 := HB0.out.free 1
          have g2 := HB0.out.free 2
          have g3 := HB0.out.free 3
          have g4 := HB0.out.free 4
          have g5 := HB0.out.free 5
          have g6 := HB0.out.free 6
          have g7 := HB0.out.free 7
          have g8 := HB0.out.free 8
          have hqn : q = none := by rw [← HQ.out]; rw [rstep_short (f := 3) (k := 1) (by decide) (by decide) _ _ (by rw [List.length_drop, nums_length]; omega)]; rfl
          have HQN := Lib.hid hqn
          clear hqn
          go_wp2
          refine bodyPost_ret (v := .tuple #[.agg (st0 0).cells.toArray, .int .i64 0, .bool false]) (by simp [results, Try.results20, go_sem, st0, St.cells, *]) rfl ?_
          exact EntryPost.miss HQN.out (((((((((HE.out.setCell (.inr (by simp)) _).setCell (.inr (by simp)) _).setCell (.inr (by simp)) _).setCell (.inr (by simp)) _).setCell (.inr (by simp)) _).setCell (.inr (by simp)) _).setCell (.inr (by simp)) _).setCell (.inr (by simp)) _).setCell (.inr (by simp)) _) rfl
      · rw [hcc] at hixF
        have hixF2 : ∀ W, (Instr.index 9 (.string F) (.int .i64 (j : Int))).run Try.prog W = .ok (.int .u8 115) W := hixF
        have HQ2 := HQ.out
        rw [hcc] at HQ2
        have HQ := Lib.hid HQ2
        clear hixF HQ2 hcc
        by_cases hs : i' + 0 < b.size
        · have hixb := index_run b i' (by omega)
          have hxl := byte_lt b i' (by omega)
          have hq2 := HQ.out
          rw [nums_drop b i' (by omega), rstep_one (f := 4) (by decide) (by decide)] at hq2
          generalize (b[i']'(by omega)).toNat = x at *
          have HQ3 := Lib.hid hq2
          clear hq2
          have hu := HB1.out.cell (k := 4) rfl
          have fu := HB1.out.free 4
          go_wp2
          go_roundw
          case rel => exact ⟨j + 1, i' + 1, s.put 4 x, by go_num, by go_num, by omega, by omega, by omega, HQ3.out, HB0.out.far (p := ⟨w.heap.size + 1, 4, none⟩) (by simp) _, HB1.out.set 4 _, HE.out.setCell (.inr (by simp)) _⟩
          case measure => simp [intOf]; omega
        · have d0 := HB0.out.cell (k := 0) rfl
          have d1 := HB0.out.cell (k := 1) rfl
          have d2 := HB0.out.cell (k := 2) rfl
          have d3 := HB0.out.cell (k := 3) rfl
          have d4 := HB0.out.cell (k := 4) rfl
          have d5 := HB0.out.cell (k := 5) rfl
          have d6 := HB0.out.cell (k := 6) rfl
          have d7 := HB0.out.cell (k := 7) rfl
          have d8 := HB0.out.cell (k := 8) rfl
          have g0 := HB0.out.free 0
          have g1 := HB0.out.free 1
          have g2 := HB0.out.free 2
          have g3 := HB0.out.free 3
          have g4 := HB0.out.free 4
          have g5 := HB0.out.free 5
          have g6 := HB0.out.free 6
          have g7 := HB0.out.free 7
          have g8 := HB0.out.free 8
          have hqn : q = none := by rw [← HQ.out]; rw [rstep_short (f := 4) (k := 1) (by decide) (by decide) _ _ (by rw [List.length_drop, nums_length]; omega)]; rfl
          have HQN := Lib.hid hqn
          clear hqn
          go_wp2
          refine bodyPost_ret (v := .tuple #[.agg (st0 0).cells.toArray, .int .i64 0, .bool false]) (by simp [results, Try.results20, go_sem, st0, St.cells, *]) rfl ?_
          exact EntryPost.miss HQN.out (((((((((HE.out.setCell (.inr (by simp)) _).setCell (.inr (by simp)) _).setCell (.inr (by simp)) _).setCell (.inr (by simp)) _).setCell (.inr (by simp)) _).setCell (.inr (by simp)) _).setCell (.inr (by simp)) _).setCell (.inr (by simp)) _).setCell (.inr (by simp)) _) rfl
      · rw [hcc] at hixF
        have hixF2 : ∀ W, (Instr.index 9 (.string F) (.int .i64 (j : Int))).run Try.prog W = .ok (.int .u8 99) W := hixF
        have HQ2 := HQ.out
        rw [hcc] at HQ2
        have HQ := Lib.hid HQ2
        clear hixF HQ2 hcc
        by_cases hs : i' + 0 < b.size
        · have hixb := index_run b i' (by omega)
          have hxl := byte_lt b i' (by omega)
          have hq2 := HQ.out
          rw [nums_drop b i' (by omega), rstep_one (f := 6) (by decide) (by decide)] at hq2
          generalize (b[i']'(by omega)).toNat = x at *
          have HQ3 := Lib.hid hq2
          clear hq2
          have hu := HB1.out.cell (k := 6) rfl
          have fu := HB1.out.free 6
          go_wp2
          go_roundw
          case rel => exact ⟨j + 1, i' + 1, s.put 6 x, by go_num, by go_num, by omega, by omega, by omega, HQ3.out, HB0.out.far (p := ⟨w.heap.size + 1, 6, none⟩) (by simp) _, HB1.out.set 6 _, HE.out.setCell (.inr (by simp)) _⟩
          case measure => simp [intOf]; omega
        · have d0 := HB0.out.cell (k := 0) rfl
          have d1 := HB0.out.cell (k := 1) rfl
          have d2 := HB0.out.cell (k := 2) rfl
          have d3 := HB0.out.cell (k := 3) rfl
          have d4 := HB0.out.cell (k := 4) rfl
          have d5 := HB0.out.cell (k := 5) rfl
          have d6 := HB0.out.cell (k := 6) rfl
          have d7 := HB0.out.cell (k := 7) rfl
          have d8 := HB0.out.cell (k := 8) rfl
          have g0 := HB0.out.free 0
          have g1 := HB0.out.free 1
          have g2 := HB0.out.free 2
          have g3 := HB0.out.free 3
          have g4 := HB0.out.free 4
          have g5 := HB0.out.free 5
          have g6 := HB0.out.free 6
          have g7 := HB0.out.free 7
          have g8 := HB0.out.free 8
          have hqn : q = none := by rw [← HQ.out]; rw [rstep_short (f := 6) (k := 1) (by decide) (by decide) _ _ (by rw [List.length_drop, nums_length]; omega)]; rfl
          have HQN := Lib.hid hqn
          clear hqn
          go_wp2
          refine bodyPost_ret (v := .tuple #[.agg (st0 0).cells.toArray, .int .i64 0, .bool false]) (by simp [results, Try.results20, go_sem, st0, St.cells, *]) rfl ?_
          exact EntryPost.miss HQN.out (((((((((HE.out.setCell (.inr (by simp)) _).setCell (.inr (by simp)) _).setCell (.inr (by simp)) _).setCell (.inr (by simp)) _).setCell (.inr (by simp)) _).setCell (.inr (by simp)) _).setCell (.inr (by simp)) _).setCell (.inr (by simp)) _).setCell (.inr (by simp)) _) rfl
      · rw [hcc] at hixF
        have hixF2 : ∀ W, (Instr.index 9 (.string F) (.int .i64 (j : Int))).run Try.prog W = .ok (.int .u8 67) W := hixF
        have HQ2 := HQ.out
        rw [hcc] at HQ2
        have HQ := Lib.hid HQ2
        clear hixF HQ2 hcc
        by_cases hs : i' + 1 < b.size
        · have hixb := index_run b i' (by omega)
          have hixb2 : ∀ W, (Instr.index 9 (.string b) (.int .i64 ((i' : Int) + 1))).run Try.prog W = .ok (.int .u8 ((b[i' + 1]'(by omega)).toNat : Int)) W := index_run b (i' + 1) (by omega)
          have hxl := byte_lt b i' (by omega)
          have hyl := byte_lt b (i' + 1) (by omega)
          have hq2 := HQ.out
          rw [nums_drop b i' (by omega), nums_drop b (i' + 1) (by omega), rstep_two (f := 6) (by decide) (by decide)] at hq2
          generalize (b[i']'(by omega)).toNat = x at *
          generalize (b[i' + 1]'(by omega)).toNat = y at *
          have HQ3 := Lib.hid hq2
          clear hq2
          have hu := HB1.out.cell (k := 6) rfl
          have fu := HB1.out.free 6
          go_wp2
          go_roundw
          case rel => exact ⟨j + 1, i' + 2, s.put 6 (256 * x + y), by go_num, by go_num, by omega, by omega, by omega, HQ3.out, HB0.out.far (p := ⟨w.heap.size + 1, 6, none⟩) (by simp) _, HB1.out.set 6 _, HE.out.setCell (.inr (by simp)) _⟩
          case measure => simp [intOf]; omega
        · have d0 := HB0.out.cell (k := 0) rfl
          have d1 := HB0.out.cell (k := 1) rfl
          have d2 := HB0.out.cell (k := 2) rfl
          have d3 := HB0.out.cell (k := 3) rfl
          have d4 := HB0.out.cell (k := 4) rfl
          have d5 := HB0.out.cell (k := 5) rfl
          have d6 := HB0.out.cell (k := 6) rfl
          have d7 := HB0.out.cell (k := 7) rfl
          have d8 := HB0.out.cell (k := 8) rfl
          have g0 := HB0.out.free 0
          have g1 := HB0.out.free 1
          have g2 := HB0.out.free 2
          have g3 := HB0.out.free 3
          have g4 := HB0.out.free 4
          have g5 := HB0.out.free 5
          have g6 := HB0.out.free 6
          have g7 := HB0.out.free 7
          have g8 := HB0.out.free 8
          have hqn : q = none := by rw [← HQ.out]; rw [rstep_short (f := 6) (k := 2) (by decide) (by decide) _ _ (by rw [List.length_drop, nums_length]; omega)]; rfl
          have HQN := Lib.hid hqn
          clear hqn
          go_wp2
          refine bodyPost_ret (v := .tuple #[.agg (st0 0).cells.toArray, .int .i64 0, .bool false]) (by simp [results, Try.results20, go_sem, st0, St.cells, *]) rfl ?_
          exact EntryPost.miss HQN.out (((((((((HE.out.setCell (.inr (by simp)) _).setCell (.inr (by simp)) _).setCell (.inr (by simp)) _).setCell (.inr (by simp)) _).setCell (.inr (by simp)) _).setCell (.inr (by simp)) _).setCell (.inr (by simp)) _).setCell (.inr (by simp)) _).setCell (.inr (by simp)) _) rfl
      · rw [hcc] at hixF
        have hixF2 : ∀ W, (Instr.index 9 (.string F) (.int .i64 (j : Int))).run Try.prog W = .ok (.int .u8 111) W := hixF
        have HQ2 := HQ.out
        rw [hcc] at HQ2
        have HQ := Lib.hid HQ2
        clear hixF HQ2 hcc
        by_cases hs : i' + 0 < b.size
        · have hixb := index_run b i' (by omega)
          have hxl := byte_lt b i' (by omega)
          have hq2 := HQ.out
          rw [nums_drop b i' (by omega), rstep_one (f := 5) (by decide) (by decide)] at hq2
          generalize (b[i']'(by omega)).toNat = x at *
          have HQ3 := Lib.hid hq2
          clear hq2
          have hu := HB1.out.cell (k := 5) rfl
          have fu := HB1.out.free 5
          go_wp2
          go_roundw
          case rel => exact ⟨j + 1, i' + 1, s.put 5 x, by go_num, by go_num, by omega, by omega, by omega, HQ3.out, HB0.out.far (p := ⟨w.heap.size + 1, 5, none⟩) (by simp) _, HB1.out.set 5 _, HE.out.setCell (.inr (by simp)) _⟩
          case measure => simp [intOf]; omega
        · have d0 := HB0.out.cell (k := 0) rfl
          have d1 := HB0.out.cell (k := 1) rfl
          have d2 := HB0.out.cell (k := 2) rfl
          have d3 := HB0.out.cell (k := 3) rfl
          have d4 := HB0.out.cell (k := 4) rfl
          have d5 := HB0.out.cell (k := 5) rfl
          have d6 := HB0.out.cell (k := 6) rfl
          have d7 := HB0.out.cell (k := 7) rfl
          have d8 := HB0.out.cell (k := 8) rfl
          have g0 := HB0.out.free 0
          have g1 := HB0.out.free 1
          have g2 := HB0.out.free 2
          have g3 := HB0.out.free 3
          have g4 := HB0.out.free 4
          have g5 := HB0.out.free 5
          have g6 := HB0.out.free 6
          have g7 := HB0.out.free 7
          have g8 := HB0.out.free 8
          have hqn : q = none := by rw [← HQ.out]; rw [rstep_short (f := 5) (k := 1) (by decide) (by decide) _ _ (by rw [List.length_drop, nums_length]; omega)]; rfl
          have HQN := Lib.hid hqn
          clear hqn
          go_wp2
          refine bodyPost_ret (v := .tuple #[.agg (st0 0).cells.toArray, .int .i64 0, .bool false]) (by simp [results, Try.results20, go_sem, st0, St.cells, *]) rfl ?_
          exact EntryPost.miss HQN.out (((((((((HE.out.setCell (.inr (by simp)) _).setCell (.inr (by simp)) _).setCell (.inr (by simp)) _).setCell (.inr (by simp)) _).setCell (.inr (by simp)) _).setCell (.inr (by simp)) _).setCell (.inr (by simp)) _).setCell (.inr (by simp)) _).setCell (.inr (by simp)) _) rfl
      · rw [hcc] at hixF
        have hixF2 : ∀ W, (Instr.index 9 (.string F) (.int .i64 (j : Int))).run Try.prog W = .ok (.int .u8 79) W := hixF
        have HQ2 := HQ.out
        rw [hcc] at HQ2
        have HQ := Lib.hid HQ2
        clear hixF HQ2 hcc
        by_cases hs : i' + 1 < b.size
        · have hixb := index_run b i' (by omega)
          have hixb2 : ∀ W, (Instr.index 9 (.string b) (.int .i64 ((i' : Int) + 1))).run Try.prog W = .ok (.int .u8 ((b[i' + 1]'(by omega)).toNat : Int)) W := index_run b (i' + 1) (by omega)
          have hxl := byte_lt b i' (by omega)
          have hyl := byte_lt b (i' + 1) (by omega)
          have hq2 := HQ.out
          rw [nums_drop b i' (by omega), nums_drop b (i' + 1) (by omega), rstep_two (f := 5) (by decide) (by decide)] at hq2
          generalize (b[i']'(by omega)).toNat = x at *
          generalize (b[i' + 1]'(by omega)).toNat = y at *
          have HQ3 := Lib.hid hq2
          clear hq2
          have hu := HB1.out.cell (k := 5) rfl
          have fu := HB1.out.free 5
          go_wp2
          go_roundw
          case rel => exact ⟨j + 1, i' + 2, s.put 5 (256 * x + y), by go_num, by go_num, by omega, by omega, by omega, HQ3.out, HB0.out.far (p := ⟨w.heap.size + 1, 5, none⟩) (by simp) _, HB1.out.set 5 _, HE.out.setCell (.inr (by simp)) _⟩
          case measure => simp [intOf]; omega
        · have d0 := HB0.out.cell (k := 0) rfl
          have d1 := HB0.out.cell (k := 1) rfl
          have d2 := HB0.out.cell (k := 2) rfl
          have d3 := HB0.out.cell (k := 3) rfl
          have d4 := HB0.out.cell (k := 4) rfl
          have d5 := HB0.out.cell (k := 5) rfl
          have d6 := HB0.out.cell (k := 6) rfl
          have d7 := HB0.out.cell (k := 7) rfl
          have d8 := HB0.out.cell (k := 8) rfl
          have g0 := HB0.out.free 0
          have g1 := HB0.out.free 1
          have g2 := HB0.out.free 2
          have g3 := HB0.out.free 3
          have g4 := HB0.out.free 4
          have g5 := HB0.out.free 5
          have g6 := HB0.out.free 6
          have g7 := HB0.out.free 7
          have g8 := HB0.out.free 8
          have hqn : q = none := by rw [← HQ.out]; rw [rstep_short (f := 5) (k := 2) (by decide) (by decide) _ _ (by rw [List.length_drop, nums_length]; omega)]; rfl
          have HQN := Lib.hid hqn
          clear hqn
          go_wp2
          refine bodyPost_ret (v := .tuple #[.agg (st0 0).cells.toArray, .int .i64 0, .bool false]) (by simp [results, Try.results20, go_sem, st0, St.cells, *]) rfl ?_
          exact EntryPost.miss HQN.out (((((((((HE.out.setCell (.inr (by simp)) _).setCell (.inr (by simp)) _).setCell (.inr (by simp)) _).setCell (.inr (by simp)) _).setCell (.inr (by simp)) _).setCell (.inr (by simp)) _).setCell (.inr (by simp)) _).setCell (.inr (by simp)) _).setCell (.inr (by simp)) _) rfl
      · rw [hcc] at hixF
        have hixF2 : ∀ W, (Instr.index 9 (.string F) (.int .i64 (j : Int))).run Try.prog W = .ok (.int .u8 109) W := hixF
        have HQ2 := HQ.out
        rw [hcc] at HQ2
        have HQ := Lib.hid HQ2
        clear hixF HQ2 hcc
        by_cases hs : i' + 0 < b.size
        · have hixb := index_run b i' (by omega)
          have hxl := byte_lt b i' (by omega)
          have hq2 := HQ.out
          rw [nums_drop b i' (by omega), rstep_one (f := 7) (by decide) (by decide)] at hq2
          generalize (b[i']'(by omega)).toNat = x at *
          have HQ3 := Lib.hid hq2
          clear hq2
          have hu := HB1.out.cell (k := 7) rfl
          have fu := HB1.out.free 7
          go_wp2
          go_roundw
          case rel => exact ⟨j + 1, i' + 1, s.put 7 x, by go_num, by go_num, by omega, by omega, by omega, HQ3.out, HB0.out.far (p := ⟨w.heap.size + 1, 7, none⟩) (by simp) _, HB1.out.set 7 _, HE.out.setCell (.inr (by simp)) _⟩
          case measure => simp [intOf]; omega
        · have d0 := HB0.out.cell (k := 0) rfl
          have d1 := HB0.out.cell (k := 1) rfl
          have d2 := HB0.out.cell (k := 2) rfl
          have d3 := HB0.out.cell (k := 3) rfl
          have d4 := HB0.out.cell (k := 4) rfl
          have d5 := HB0.out.cell (k := 5) rfl
          have d6 := HB0.out.cell (k := 6) rfl
          have d7 := HB0.out.cell (k := 7) rfl
          have d8 := HB0.out.cell (k := 8) rfl
          have g0 := HB0.out.free 0
          have g1 := HB0.out.free 1
          have g2 := HB0.out.free 2
          have g3 := HB0.out.free 3
          have g4 := HB0.out.free 4
          have g5 := HB0.out.free 5
          have g6 := HB0.out.free 6
          have g7 := HB0.out.free 7
          have g8 := HB0.out.free 8
          have hqn : q = none := by rw [← HQ.out]; rw [rstep_short (f := 7) (k := 1) (by decide) (by decide) _ _ (by rw [List.length_drop, nums_length]; omega)]; rfl
          have HQN := Lib.hid hqn
          clear hqn
          go_wp2
          refine bodyPost_ret (v := .tuple #[.agg (st0 0).cells.toArray, .int .i64 0, .bool false]) (by simp [results, Try.results20, go_sem, st0, St.cells, *]) rfl ?_
          exact EntryPost.miss HQN.out (((((((((HE.out.setCell (.inr (by simp)) _).setCell (.inr (by simp)) _).setCell (.inr (by simp)) _).setCell (.inr (by simp)) _).setCell (.inr (by simp)) _).setCell (.inr (by simp)) _).setCell (.inr (by simp)) _).setCell (.inr (by simp)) _).setCell (.inr (by simp)) _) rfl
      · rw [hcc] at hixF
        have hixF2 : ∀ W, (Instr.index 9 (.string F) (.int .i64 (j : Int))).run Try.prog W = .ok (.int .u8 118) W := hixF
        have HQ2 := HQ.out
        rw [hcc] at HQ2
        have HQ := Lib.hid HQ2
        clear hixF HQ2 hcc
        by_cases hs : i' < b.size
        · have hixb := index_run b i' (by omega)
          have hxl := byte_lt b i' (by omega)
          have hq2 := HQ.out
          rw [nums_drop b i' (by omega)] at hq2
          generalize (b[i']'(by omega)).toNat = x at *
          have HQ := Lib.hid hq2
          clear hq2
          by_cases ht : i' + 1 + x ≤ b.size
          · have hq2 := HQ.out
            rw [rstep_text _ _ _ (by rw [List.length_drop, nums_length]; simp; omega), Int.toNat_natCast, nums_extract, List.drop_drop] at hq2
            have HQ3 := Lib.hid hq2
            clear hq2
            have hu := HB1.out.cell (k := 8) rfl
            have fu := HB1.out.free 8
            go_wp2
            go_roundw
            case rel => exact ⟨j + 1, i' + 1 + x, { s with v := b.extract (i' + 1) (i' + 1 + x) }, by go_num, by go_num, by omega, by omega, by omega, HQ3.out, HB0.out.far (p := ⟨w.heap.size + 1, 8, none⟩) (by simp) _, HB1.out.set 8 _, HE.out.setCell (.inr (by simp)) _⟩
            case measure => simp [intOf]; omega
          · have d0 := HB0.out.cell (k := 0) rfl
            have d1 := HB0.out.cell (k := 1) rfl
            have d2 := HB0.out.cell (k := 2) rfl
            have d3 := HB0.out.cell (k := 3) rfl
            have d4 := HB0.out.cell (k := 4) rfl
            have d5 := HB0.out.cell (k := 5) rfl
            have d6 := HB0.out.cell (k := 6) rfl
            have d7 := HB0.out.cell (k := 7) rfl
            have d8 := HB0.out.cell (k := 8) rfl
            have g0 := HB0.out.free 0
            have g1 := HB0.out.free 1
            have g2 := HB0.out.free 2
            have g3 := HB0.out.free 3
            have g4 := HB0.out.free 4
            have g5 := HB0.out.free 5
            have g6 := HB0.out.free 6
            have g7 := HB0.out.free 7
            have g8 := HB0.out.free 8
            have hqn : q = none := by rw [← HQ.out]; rw [rstep_text_short _ _ _ (by rw [List.length_drop, nums_length]; simp; omega)]; rfl
            have HQN := Lib.hid hqn
            clear hqn
            go_wp2
            refine bodyPost_ret (v := .tuple #[.agg (st0 0).cells.toArray, .int .i64 0, .bool false]) (by simp [results, Try.results20, go_sem, st0, St.cells, *]) rfl ?_
            exact EntryPost.miss HQN.out (((((((((HE.out.setCell (.inr (by simp)) _).setCell (.inr (by simp)) _).setCell (.inr (by simp)) _).setCell (.inr (by simp)) _).setCell (.inr (by simp)) _).setCell (.inr (by simp)) _).setCell (.inr (by simp)) _).setCell (.inr (by simp)) _).setCell (.inr (by simp)) _) rfl
        · have d0 := HB0.out.cell (k := 0) rfl
          have d1 := HB0.out.cell (k := 1) rfl
          have d2 := HB0.out.cell (k := 2) rfl
          have d3 := HB0.out.cell (k := 3) rfl
          have d4 := HB0.out.cell (k := 4) rfl
          have d5 := HB0.out.cell (k := 5) rfl
          have d6 := HB0.out.cell (k := 6) rfl
          have d7 := HB0.out.cell (k := 7) rfl
          have d8 := HB0.out.cell (k := 8) rfl
          have g0 := HB0.out.free 0
          have g1 := HB0.out.free 1
          have g2 := HB0.out.free 2
          have g3 := HB0.out.free 3
          have g4 := HB0.out.free 4
          have g5 := HB0.out.free 5
          have g6 := HB0.out.free 6
          have g7 := HB0.out.free 7
          have g8 := HB0.out.free 8
          have hqn : q = none := by rw [← HQ.out]; rw [nums_drop_nil b i' (by omega), rstep_text_nil]; rfl
          have HQN := Lib.hid hqn
          clear hqn
          go_wp2
          refine bodyPost_ret (v := .tuple #[.agg (st0 0).cells.toArray, .int .i64 0, .bool false]) (by simp [results, Try.results20, go_sem, st0, St.cells, *]) rfl ?_
          exact EntryPost.miss HQN.out (((((((((HE.out.setCell (.inr (by simp)) _).setCell (.inr (by simp)) _).setCell (.inr (by simp)) _).setCell (.inr (by simp)) _).setCell (.inr (by simp)) _).setCell (.inr (by simp)) _).setCell (.inr (by simp)) _).setCell (.inr (by simp)) _).setCell (.inr (by simp)) _) rfl
    · have e : j = F.size := by omega
      subst e
      have hq1 : rrun [] (s, (nums b).drop i') = q := by
        rw [List.drop_eq_nil_of_le (show F.data.toList.length ≤ F.size from Nat.le_of_eq Array.length_toList)] at hq
        exact hq
      have HQ := Lib.hid hq1
      clear hq hq1
      have d0 := HB0.out.cell (k := 0) rfl
      have d1 := HB0.out.cell (k := 1) rfl
      have d2 := HB0.out.cell (k := 2) rfl
      have d3 := HB0.out.cell (k := 3) rfl
      have d4 := HB0.out.cell (k := 4) rfl
      have d5 := HB0.out.cell (k := 5) rfl
      have d6 := HB0.out.cell (k := 6) rfl
      have d7 := HB0.out.cell (k := 7) rfl
      have d8 := HB0.out.cell (k := 8) rfl
      have g0 := HB0.out.free 0
      have g1 := HB0.out.free 1
      have g2 := HB0.out.free 2
      have g3 := HB0.out.free 3
      have g4 := HB0.out.free 4
      have g5 := HB0.out.free 5
      have g6 := HB0.out.free 6
      have g7 := HB0.out.free 7
      have g8 := HB0.out.free 8
      have x0 := HB1.out.cell (k := 0) rfl
      have x1 := HB1.out.cell (k := 1) rfl
      have x2 := HB1.out.cell (k := 2) rfl
      have x3 := HB1.out.cell (k := 3) rfl
      have x4 := HB1.out.cell (k := 4) rfl
      have x5 := HB1.out.cell (k := 5) rfl
      have x6 := HB1.out.cell (k := 6) rfl
      have x7 := HB1.out.cell (k := 7) rfl
      have x8 := HB1.out.cell (k := 8) rfl
      go_wp2
      refine bodyPost_ret (v := .tuple #[.agg #[.int .i64 s.k, .int .i64 s.n, .int .i64 s.t, .int .i64 s.p, .int .i64 s.s, .int .i64 s.o, .int .i64 s.c, .int .i64 s.m, .string s.v], .int .i64 i', .bool true]) (by simp [results, Try.results20, go_sem, *]) rfl ?_
      exact EntryPost.hit HQ.out hii hi' (((((((((HE.out.setCell (.inr (by simp)) _).setCell (.inr (by simp)) _).setCell (.inr (by simp)) _).setCell (.inr (by simp)) _).setCell (.inr (by simp)) _).setCell (.inr (by simp)) _).setCell (.inr (by simp)) _).setCell (.inr (by simp)) _).setCell (.inr (by simp)) _) rfl

end Go.Proofs.Ythedllndcibkcaa
