/- The document's bytes of a step, letter by letter. -/
import Derived.Test.YthedllndcibkcaaRBytes
namespace Go.Proofs.Ythedllndcibkcaa
open Go.RowKit
set_option linter.unusedVariables false
set_option linter.unusedSimpArgs false

theorem take_next {l : List UInt8} {j : Nat} {c : UInt8} (h : l[j]? = some c) : l.take (j + 1) = l.take j ++ [c] := by
  rw [List.take_add_one, h]; rfl
theorem putL_app : ∀ (l m : List UInt8) (x : St), putL (l ++ m) x = putL l x ++ putL m x
  | [], m, x => rfl
  | c :: l, m, x => by
    show putN c x (partV c x) ++ putL (l ++ m) x = (putN c x (partV c x) ++ putL l x) ++ putL m x
    rw [putL_app l m x, List.append_assoc]
theorem badL_app : ∀ (l m : List UInt8) (x : St), badL (l ++ m) x = (badL l x || badL m x)
  | [], m, x => rfl
  | c :: l, m, x => by
    show (badN c (partV c x) || badL (l ++ m) x) = ((badN c (partV c x) || badL l x) || badL m x)
    rw [badL_app l m x, Bool.or_assoc]
theorem badL_mem : ∀ (l : List UInt8) (x : St) (c : UInt8), c ∈ l → badN c (partV c x) = true → badL l x = true
  | d :: l, x, c, h, hb => by
    show (badN d (partV d x) || badL l x) = true
    rcases List.mem_cons.1 h with rfl | h
    · rw [hb]; rfl
    · rw [badL_mem l x c h hb, Bool.or_true]
theorem nums_app (a b : ByteArray) : nums (a ++ b) = nums a ++ nums b := by
  unfold nums
  have : (a ++ b).data = a.data ++ b.data := ByteArray.data_append
  rw [this, Array.toList_append, List.map_append]
theorem nums_one {n : Int} (h0 : 0 ≤ n) (h1 : n ≤ 255) : nums (strOfNums [n]) = [n] := by
  unfold nums
  rw [strOfNums_data]
  simp
  omega
theorem conv_one (W : World) (n : Int) (g : Nat) (hg : W.heap.size = g) : (convert 29 9 (.slice (some ⟨g, 0, none⟩) 1 1)).run Try.prog (W.alloc (.cells #[.int .u8 n] 5)) = .ok (.string (strOfNums [n])) (W.alloc (.cells #[.int .u8 n] 5)) := by
  subst hg
  exact run_convert_bytes_arg (P := Try.prog) _ 29 5 Try.underlying29 Try.underlying5 W.heap.size 0 1 1 [n] rfl (fun i hi => by
    obtain rfl : i = 0 := by omega
    simp) 9 Try.underlying9

theorem fill_k : ∀ (l : List UInt8) (x s : St), (∀ c ∈ l, c ∈ rletters) → (fill l x s).k = s.k
  | [], x, s, _ => rfl
  | c :: l, x, s, h => by
    show (fill l x (if c = 118 then { s with v := x.v } else s.put (toF c).1 (x.get (toF c).1))).k = _
    rw [fill_k l x _ (fun c' hc' => h c' (by simp [hc']))]
    by_cases hc : c = 118
    · rw [if_pos hc]
    · rw [if_neg hc]
      have hm := h c (by simp)
      simp only [rletters, List.mem_cons, List.not_mem_nil, or_false] at hm
      rcases hm with rfl | rfl | rfl | rfl | rfl | rfl | rfl | rfl | rfl | rfl <;> first | rfl | exact absurd rfl hc
set_option maxHeartbeats 1000000 in
theorem eql39 (a0 a1 a2 a3 a4 a5 a6 a7 b0 b1 b2 b3 b4 b5 b6 b7 : Int) (a8 b8 : ByteArray) (w : World) :
    (binOp .eql 39 (.agg #[.int .i64 a0, .int .i64 a1, .int .i64 a2, .int .i64 a3, .int .i64 a4, .int .i64 a5, .int .i64 a6, .int .i64 a7, .string a8]) (.agg #[.int .i64 b0, .int .i64 b1, .int .i64 b2, .int .i64 b3, .int .i64 b4, .int .i64 b5, .int .i64 b6, .int .i64 b7, .string b8])).run Try.prog w =
      .ok (.bool (stB ⟨a0, a1, a2, a3, a4, a5, a6, a7, a8⟩ ⟨b0, b1, b2, b3, b4, b5, b6, b7, b8⟩)) w := by
  have u3 := Try.underlying3
  have u9 := Try.underlying9
  have i3 := Try.isAgg3
  have z3 := Try.sizeOf3
  have i9 := Try.isAgg9
  have z9 := Try.sizeOf9
  have hS : Try.prog.underlying 39 = some (.struct (Try.prog.fieldsOf 39)) := by kernel_rfl
  have hp : Try.prog.stoodInHeld 39 = false := by kernel_rfl
  rw [run_eql_struct, show (10000 : Nat) = 9999 + 1 from rfl, run_equalIn_agg w 9999 39 _ _ hS hp]
  simp only [Program.fieldsOf, Try.underlying39]
  unfold stB
  go_simp
  by_cases h0 : a0 = b0
  · by_cases h1 : a1 = b1
    · by_cases h2 : a2 = b2
      · by_cases h3 : a3 = b3
        · by_cases h4 : a4 = b4
          · by_cases h5 : a5 = b5
            · by_cases h6 : a6 = b6
              · by_cases h7 : a7 = b7
                · by_cases h8 : a8.toList = b8.toList <;> simp [h0, h1, h2, h3, h4, h5, h6, h7, h8]
                · simp [h0, h1, h2, h3, h4, h5, h6, h7]
              · simp [h0, h1, h2, h3, h4, h5, h6]
            · simp [h0, h1, h2, h3, h4, h5]
          · simp [h0, h1, h2, h3, h4]
        · simp [h0, h1, h2, h3]
      · simp [h0, h1, h2]
    · simp [h0, h1]
  · simp [h0]

structure RB (w wr : World) (x : St) : Prop where
  b : Blk wr w.heap.size 39 x.cells
  ext : Ext [] w wr
theorem RB.go {w wr w' : World} {x : St} (h : RB w wr x) (e : Ext [] wr w') : RB w w' x := ⟨h.b.ext e (by simp), h.ext.trans e⟩

set_option maxHeartbeats 64000000 in
set_option maxRecDepth 100000 in
theorem rbytes_some (x : St) (hv : x.v.size ≤ 1000) (w : World) (hk : kindB x.k = true) : Calls Try.prog 22 #[.agg x.cells.toArray] w (RBPost x w) := by
  have hpart := fun (c : UInt8) (hc : c ∈ rletters) (W : World) => part_any x hv c hc W
  have hiff := pOk_iff x hk
  have hout := pOut_eq x
  have hrr := fun h => rrun_put (formL x.k) x (st0 x.k) [] (letters_ok x.k).1 h
  obtain ⟨k, n, t, p, s, o, c', m, v⟩ := x
  simp only at hv hk hiff hout hrr
  have hkr := (kindB_iff _).1 hk
  obtain ⟨hfl, hf5⟩ := letters_ok k
  obtain ⟨F, hF⟩ : ∃ F, formS k = F := ⟨_, rfl⟩
  have hFl : F.data.toList = formL k := by rw [← hF]; rfl
  have hFs : F.size ≤ 5 := by rw [← hFl] at hf5; exact hf5
  have hFe : F.toList.isEmpty = false := by rw [← hF]; exact form_some k hk
  rw [← hFl] at hfl hiff hout hrr
  have hw8 : IntKind.u8.wrap k = k := wrapu8 (by omega) (by omega)
  have hcv := conv_one
  have hz1 : ∀ n : Int, (strOfNums [n]).size = 1 := fun n => by rw [strOfNums_size]; rfl
  have HP := Lib.hid hpart
  have HI := Lib.hid hiff
  have HO := Lib.hid hout
  have HR := Lib.hid hrr
  have HF := Lib.hid hF
  have HFl := Lib.hid hfl
  have HK := Lib.hid hk
  simp only [St.cells] at *
  clear hpart hiff hout hrr hF hfl hFl hf5 hk
  go_enter Try.func22, Try.ntmps22
  go_wp2_with (go_at_call 19; refine (form_is k F HF.out _).mono ?_; rintro e w' ⟨rfl, rfl⟩)
  go_loopw [5, 6] (fun so kk wr => ∃ (j : Nat) (S : ByteArray), kk = .int .i64 j ∧ so = .string S ∧ j ≤ F.size ∧ S.size ≤ 1010 * j + 1 ∧ Hid (nums S = k :: putL (F.data.toList.take j) ⟨k, n, t, p, s, o, c', m, v⟩) ∧ Hid (badL (F.data.toList.take j) ⟨k, n, t, p, s, o, c', m, v⟩ = false) ∧ Hid (RB w wr ⟨k, n, t, p, s, o, c', m, v⟩)) (fun _ kk _ => F.size - (intOf kk).toNat)
  case atStart =>
    refine ⟨0, strOfNums [k], rfl, rfl, Nat.zero_le _, by rw [strOfNums_size]; simp, nums_one (by omega) (by omega), rfl, (Blk.new w 39 (St.mk k n t p s o c' m v).cells).alloc _, ((Ext.refl _ _).alloc _).alloc _⟩
  case round =>
    obtain ⟨j, S, rfl, rfl, hj, hS, HN, HBad, HB⟩ := hrel
    have l0 := HB.out.b.cell (k := 0) rfl
    have l8 := HB.out.b.cell (k := 8) rfl
    by_cases hlt : j < F.size
    · have hcl : F.data.toList[j]? = some F[j] := Go.Proofs.byte_at F j hlt
      have hmem : F[j] ∈ rletters := HFl.out _ (List.mem_of_getElem? hcl)
      have hin : F[j] ∈ F.data.toList := List.mem_of_getElem? hcl
      simp only [rletters, List.mem_cons, List.not_mem_nil, or_false] at hmem
      have hixF := index_run F j hlt
      have hj1 : (j : Int) < (F.size : Int) := by omega
      have hb0 := HB.out.go ((Ext.refl _ _).drew)
      clear HB
      have HB := Lib.hid hb0
      clear hb0
      rcases hmem with hcc | hcc | hcc | hcc | hcc | hcc | hcc | hcc | hcc | hcc
      · rw [hcc] at hixF hcl hin
        have hixF2 : ∀ W, (Instr.index 9 (.string F) (.int .i64 (j : Int))).run Try.prog W = .ok (.int .u8 110) W := hixF
        have HPC : Hid (∀ W, Calls Try.prog 24 #[.agg #[.int .i64 k, .int .i64 n, .int .i64 t, .int .i64 p, .int .i64 s, .int .i64 o, .int .i64 c', .int .i64 m, .string v], .int .u8 110] W fun e w' => e = .returned (.int .i64 n) ∧ Ext [] W w') := HP.out 110 (by decide)
        have hbn : Hid (badN 110 n = true → pOk ⟨k, n, t, p, s, o, c', m, v⟩ = false) := fun h => by
          have h1 : badL F.data.toList ⟨k, n, t, p, s, o, c', m, v⟩ = true := badL_mem _ _ 110 hin h
          rcases Bool.eq_false_or_eq_true (pOk ⟨k, n, t, p, s, o, c', m, v⟩) with h2 | h2
          · rw [(HI.out.1 h2).1] at h1; cases h1
          · exact h2
        have hgn : Hid (badN 110 n = false → ∀ T : ByteArray, nums T = putN 110 ⟨k, n, t, p, s, o, c', m, v⟩ n → nums (S ++ T) = k :: putL (F.data.toList.take (j + 1)) ⟨k, n, t, p, s, o, c', m, v⟩ ∧ badL (F.data.toList.take (j + 1)) ⟨k, n, t, p, s, o, c', m, v⟩ = false) := fun h T hT => by
          rw [take_next hcl, putL_app, badL_app, nums_app, HN.out, HBad.out, hT]
          exact ⟨by show (k :: putL _ _) ++ putN 110 _ n = k :: (putL _ _ ++ (putN 110 _ n ++ [])); rw [List.append_nil]; rfl, by show (false || (badN 110 n || false)) = false; rw [h]; rfl⟩
        clear hixF hcl hin hcc
        go_wp2
        go_region_held3 (fun w' => w'.cell? ⟨w.heap.size, 0, none⟩ = some (.int .i64 k) ∧ w'.cell? ⟨w.heap.size, 1, none⟩ = some (.int .i64 n) ∧ w'.cell? ⟨w.heap.size, 2, none⟩ = some (.int .i64 t) ∧ w'.cell? ⟨w.heap.size, 3, none⟩ = some (.int .i64 p) ∧ w'.cell? ⟨w.heap.size, 4, none⟩ = some (.int .i64 s) ∧ w'.cell? ⟨w.heap.size, 5, none⟩ = some (.int .i64 o) ∧ w'.cell? ⟨w.heap.size, 6, none⟩ = some (.int .i64 c') ∧ w'.cell? ⟨w.heap.size, 7, none⟩ = some (.int .i64 m) ∧ w'.cell? ⟨w.heap.size, 8, none⟩ = some (.string v))
          (first | exact ⟨HB.out.b.cell (k := 0) rfl, HB.out.b.cell (k := 1) rfl, HB.out.b.cell (k := 2) rfl, HB.out.b.cell (k := 3) rfl, HB.out.b.cell (k := 4) rfl, HB.out.b.cell (k := 5) rfl, HB.out.b.cell (k := 6) rfl, HB.out.b.cell (k := 7) rfl, HB.out.b.cell (k := 8) rfl⟩ | go_keep)
          (first | (go_at_call 24; refine (HPC.out _).mono ?_; rintro e w' ⟨rfl, hu⟩; replace HB := Lib.hid (HB.out.go hu); clear hu))
        all_goals
          clear l0 l8
          have l8 := HB.out.b.cell (k := 8) rfl
          have l9 : w'.cell? ⟨w.heap.size, 8, none⟩ = some (.string v) := l8
          have hne8 : w.heap.size ≠ w'.heap.size := by have := HB.out.b.lt; omega
          have hne9 : w.heap.size < w'.heap.size := by have := HB.out.b.lt; omega
          have l10 : (w'.alloc (.cells #[.int .u8 ((v.size : Int) % 256)] 5)).cell? ⟨w.heap.size, 8, none⟩ = some (.string v) := (HB.out.go ((Ext.refl [] _).alloc _)).b.cell (k := 8) rfl
          by_cases h0 : n < 0
          · have hbad := hbn.out (by simp [badN, two]; omega)
            have HBD := Lib.hid hbad
            clear hbad
            go_wp2
            go_ret2
            exact ⟨HB.out.ext, ⟨#[]⟩, by rw [HBD.out]; rfl, fun hh => by rw [HBD.out] at hh; cases hh⟩
          by_cases h1 : 65535 < n
          · have hbad := hbn.out (by simp [badN, two]; omega)
            have HBD := Lib.hid hbad
            clear hbad
            go_wp2
            go_ret2
            exact ⟨HB.out.ext, ⟨#[]⟩, by rw [HBD.out]; rfl, fun hh => by rw [HBD.out] at hh; cases hh⟩
          by_cases h2 : 255 < n
          · have hbad := hbn.out (by simp [badN, two]; omega)
            have HBD := Lib.hid hbad
            clear hbad
            go_wp2
            go_ret2
            exact ⟨HB.out.ext, ⟨#[]⟩, by rw [HBD.out]; rfl, fun hh => by rw [HBD.out] at hh; cases hh⟩
          have hg := hgn.out (by simp [badN, two]; omega) (strOfNums [n % 256]) (by rw [nums_one (by omega) (by omega)]; rfl)
          have HG := Lib.hid hg
          have hw0 : IntKind.u8.wrap (n % 256) = n % 256 := wrapu8 (by omega) (by omega)
          clear hg
          go_wp2
          go_roundw
          case rel => exact ⟨j + 1, _, by go_num, rfl, by omega, by first | (simp [strOfNums_size, ByteArray.size_append]; omega) | (simp [strOfNums_size]; omega), HG.out.1, HG.out.2, HB.out.go (by first | exact ((Ext.refl [] _).alloc _) | exact (((Ext.refl [] _).alloc _).alloc _))⟩
          case measure => simp [intOf]; omega
      · rw [hcc] at hixF hcl hin
        have hixF2 : ∀ W, (Instr.index 9 (.string F) (.int .i64 (j : Int))).run Try.prog W = .ok (.int .u8 116) W := hixF
        have HPC : Hid (∀ W, Calls Try.prog 24 #[.agg #[.int .i64 k, .int .i64 n, .int .i64 t, .int .i64 p, .int .i64 s, .int .i64 o, .int .i64 c', .int .i64 m, .string v], .int .u8 116] W fun e w' => e = .returned (.int .i64 t) ∧ Ext [] W w') := HP.out 116 (by decide)
        have hbn : Hid (badN 116 t = true → pOk ⟨k, n, t, p, s, o, c', m, v⟩ = false) := fun h => by
          have h1 : badL F.data.toList ⟨k, n, t, p, s, o, c', m, v⟩ = true := badL_mem _ _ 116 hin h
          rcases Bool.eq_false_or_eq_true (pOk ⟨k, n, t, p, s, o, c', m, v⟩) with h2 | h2
          · rw [(HI.out.1 h2).1] at h1; cases h1
          · exact h2
        have hgn : Hid (badN 116 t = false → ∀ T : ByteArray, nums T = putN 116 ⟨k, n, t, p, s, o, c', m, v⟩ t → nums (S ++ T) = k :: putL (F.data.toList.take (j + 1)) ⟨k, n, t, p, s, o, c', m, v⟩ ∧ badL (F.data.toList.take (j + 1)) ⟨k, n, t, p, s, o, c', m, v⟩ = false) := fun h T hT => by
          rw [take_next hcl, putL_app, badL_app, nums_app, HN.out, HBad.out, hT]
          exact ⟨by show (k :: putL _ _) ++ putN 116 _ t = k :: (putL _ _ ++ (putN 116 _ t ++ [])); rw [List.append_nil]; rfl, by show (false || (badN 116 t || false)) = false; rw [h]; rfl⟩
        clear hixF hcl hin hcc
        go_wp2
        go_region_held3 (fun w' => w'.cell? ⟨w.heap.size, 0, none⟩ = some (.int .i64 k) ∧ w'.cell? ⟨w.heap.size, 1, none⟩ = some (.int .i64 n) ∧ w'.cell? ⟨w.heap.size, 2, none⟩ = some (.int .i64 t) ∧ w'.cell? ⟨w.heap.size, 3, none⟩ = some (.int .i64 p) ∧ w'.cell? ⟨w.heap.size, 4, none⟩ = some (.int .i64 s) ∧ w'.cell? ⟨w.heap.size, 5, none⟩ = some (.int .i64 o) ∧ w'.cell? ⟨w.heap.size, 6, none⟩ = some (.int .i64 c') ∧ w'.cell? ⟨w.heap.size, 7, none⟩ = some (.int .i64 m) ∧ w'.cell? ⟨w.heap.size, 8, none⟩ = some (.string v))
          (first | exact ⟨HB.out.b.cell (k := 0) rfl, HB.out.b.cell (k := 1) rfl, HB.out.b.cell (k := 2) rfl, HB.out.b.cell (k := 3) rfl, HB.out.b.cell (k := 4) rfl, HB.out.b.cell (k := 5) rfl, HB.out.b.cell (k := 6) rfl, HB.out.b.cell (k := 7) rfl, HB.out.b.cell (k := 8) rfl⟩ | go_keep)
          (first | (go_at_call 24; refine (HPC.out _).mono ?_; rintro e w' ⟨rfl, hu⟩; replace HB := Lib.hid (HB.out.go hu); clear hu))
        all_goals
          clear l0 l8
          have l8 := HB.out.b.cell (k := 8) rfl
          have l9 : w'.cell? ⟨w.heap.size, 8, none⟩ = some (.string v) := l8
          have hne8 : w.heap.size ≠ w'.heap.size := by have := HB.out.b.lt; omega
          have hne9 : w.heap.size < w'.heap.size := by have := HB.out.b.lt; omega
          have l10 : (w'.alloc (.cells #[.int .u8 ((v.size : Int) % 256)] 5)).cell? ⟨w.heap.size, 8, none⟩ = some (.string v) := (HB.out.go ((Ext.refl [] _).alloc _)).b.cell (k := 8) rfl
          by_cases h0 : t < 0
          · have hbad := hbn.out (by simp [badN, two]; omega)
            have HBD := Lib.hid hbad
            clear hbad
            go_wp2
            go_ret2
            exact ⟨HB.out.ext, ⟨#[]⟩, by rw [HBD.out]; rfl, fun hh => by rw [HBD.out] at hh; cases hh⟩
          by_cases h1 : 65535 < t
          · have hbad := hbn.out (by simp [badN, two]; omega)
            have HBD := Lib.hid hbad
            clear hbad
            go_wp2
            go_ret2
            exact ⟨HB.out.ext, ⟨#[]⟩, by rw [HBD.out]; rfl, fun hh => by rw [HBD.out] at hh; cases hh⟩
          by_cases h2 : 255 < t
          · have hbad := hbn.out (by simp [badN, two]; omega)
            have HBD := Lib.hid hbad
            clear hbad
            go_wp2
            go_ret2
            exact ⟨HB.out.ext, ⟨#[]⟩, by rw [HBD.out]; rfl, fun hh => by rw [HBD.out] at hh; cases hh⟩
          have hg := hgn.out (by simp [badN, two]; omega) (strOfNums [t % 256]) (by rw [nums_one (by omega) (by omega)]; rfl)
          have HG := Lib.hid hg
          have hw0 : IntKind.u8.wrap (t % 256) = t % 256 := wrapu8 (by omega) (by omega)
          clear hg
          go_wp2
          go_roundw
          case rel => exact ⟨j + 1, _, by go_num, rfl, by omega, by first | (simp [strOfNums_size, ByteArray.size_append]; omega) | (simp [strOfNums_size]; omega), HG.out.1, HG.out.2, HB.out.go (by first | exact ((Ext.refl [] _).alloc _) | exact (((Ext.refl [] _).alloc _).alloc _))⟩
          case measure => simp [intOf]; omega
      · rw [hcc] at hixF hcl hin
        have hixF2 : ∀ W, (Instr.index 9 (.string F) (.int .i64 (j : Int))).run Try.prog W = .ok (.int .u8 112) W := hixF
        have HPC : Hid (∀ W, Calls Try.prog 24 #[.agg #[.int .i64 k, .int .i64 n, .int .i64 t, .int .i64 p, .int .i64 s, .int .i64 o, .int .i64 c', .int .i64 m, .string v], .int .u8 112] W fun e w' => e = .returned (.int .i64 p) ∧ Ext [] W w') := HP.out 112 (by decide)
        have hbn : Hid (badN 112 p = true → pOk ⟨k, n, t, p, s, o, c', m, v⟩ = false) := fun h => by
          have h1 : badL F.data.toList ⟨k, n, t, p, s, o, c', m, v⟩ = true := badL_mem _ _ 112 hin h
          rcases Bool.eq_false_or_eq_true (pOk ⟨k, n, t, p, s, o, c', m, v⟩) with h2 | h2
          · rw [(HI.out.1 h2).1] at h1; cases h1
          · exact h2
        have hgn : Hid (badN 112 p = false → ∀ T : ByteArray, nums T = putN 112 ⟨k, n, t, p, s, o, c', m, v⟩ p → nums (S ++ T) = k :: putL (F.data.toList.take (j + 1)) ⟨k, n, t, p, s, o, c', m, v⟩ ∧ badL (F.data.toList.take (j + 1)) ⟨k, n, t, p, s, o, c', m, v⟩ = false) := fun h T hT => by
          rw [take_next hcl, putL_app, badL_app, nums_app, HN.out, HBad.out, hT]
          exact ⟨by show (k :: putL _ _) ++ putN 112 _ p = k :: (putL _ _ ++ (putN 112 _ p ++ [])); rw [List.append_nil]; rfl, by show (false || (badN 112 p || false)) = false; rw [h]; rfl⟩
        clear hixF hcl hin hcc
        go_wp2
        go_region_held3 (fun w' => w'.cell? ⟨w.heap.size, 0, none⟩ = some (.int .i64 k) ∧ w'.cell? ⟨w.heap.size, 1, none⟩ = some (.int .i64 n) ∧ w'.cell? ⟨w.heap.size, 2, none⟩ = some (.int .i64 t) ∧ w'.cell? ⟨w.heap.size, 3, none⟩ = some (.int .i64 p) ∧ w'.cell? ⟨w.heap.size, 4, none⟩ = some (.int .i64 s) ∧ w'.cell? ⟨w.heap.size, 5, none⟩ = some (.int .i64 o) ∧ w'.cell? ⟨w.heap.size, 6, none⟩ = some (.int .i64 c') ∧ w'.cell? ⟨w.heap.size, 7, none⟩ = some (.int .i64 m) ∧ w'.cell? ⟨w.heap.size, 8, none⟩ = some (.string v))
          (first | exact ⟨HB.out.b.cell (k := 0) rfl, HB.out.b.cell (k := 1) rfl, HB.out.b.cell (k := 2) rfl, HB.out.b.cell (k := 3) rfl, HB.out.b.cell (k := 4) rfl, HB.out.b.cell (k := 5) rfl, HB.out.b.cell (k := 6) rfl, HB.out.b.cell (k := 7) rfl, HB.out.b.cell (k := 8) rfl⟩ | go_keep)
          (first | (go_at_call 24; refine (HPC.out _).mono ?_; rintro e w' ⟨rfl, hu⟩; replace HB := Lib.hid (HB.out.go hu); clear hu))
        all_goals
          clear l0 l8
          have l8 := HB.out.b.cell (k := 8) rfl
          have l9 : w'.cell? ⟨w.heap.size, 8, none⟩ = some (.string v) := l8
          have hne8 : w.heap.size ≠ w'.heap.size := by have := HB.out.b.lt; omega
          have hne9 : w.heap.size < w'.heap.size := by have := HB.out.b.lt; omega
          have l10 : (w'.alloc (.cells #[.int .u8 ((v.size : Int) % 256)] 5)).cell? ⟨w.heap.size, 8, none⟩ = some (.string v) := (HB.out.go ((Ext.refl [] _).alloc _)).b.cell (k := 8) rfl
          by_cases h0 : p < 0
          · have hbad := hbn.out (by simp [badN, two]; omega)
            have HBD := Lib.hid hbad
            clear hbad
            go_wp2
            go_ret2
            exact ⟨HB.out.ext, ⟨#[]⟩, by rw [HBD.out]; rfl, fun hh => by rw [HBD.out] at hh; cases hh⟩
          by_cases h1 : 65535 < p
          · have hbad := hbn.out (by simp [badN, two]; omega)
            have HBD := Lib.hid hbad
            clear hbad
            go_wp2
            go_ret2
            exact ⟨HB.out.ext, ⟨#[]⟩, by rw [HBD.out]; rfl, fun hh => by rw [HBD.out] at hh; cases hh⟩
          by_cases h2 : 255 < p
          · have hbad := hbn.out (by simp [badN, two]; omega)
            have HBD := Lib.hid hbad
            clear hbad
            go_wp2
            go_ret2
            exact ⟨HB.out.ext, ⟨#[]⟩, by rw [HBD.out]; rfl, fun hh => by rw [HBD.out] at hh; cases hh⟩
          have hg := hgn.out (by simp [badN, two]; omega) (strOfNums [p % 256]) (by rw [nums_one (by omega) (by omega)]; rfl)
          have HG := Lib.hid hg
          have hw0 : IntKind.u8.wrap (p % 256) = p % 256 := wrapu8 (by omega) (by omega)
          clear hg
          go_wp2
          go_roundw
          case rel => exact ⟨j + 1, _, by go_num, rfl, by omega, by first | (simp [strOfNums_size, ByteArray.size_append]; omega) | (simp [strOfNums_size]; omega), HG.out.1, HG.out.2, HB.out.go (by first | exact ((Ext.refl [] _).alloc _) | exact (((Ext.refl [] _).alloc _).alloc _))⟩
          case measure => simp [intOf]; omega
      · rw [hcc] at hixF hcl hin
        have hixF2 : ∀ W, (Instr.index 9 (.string F) (.int .i64 (j : Int))).run Try.prog W = .ok (.int .u8 115) W := hixF
        have HPC : Hid (∀ W, Calls Try.prog 24 #[.agg #[.int .i64 k, .int .i64 n, .int .i64 t, .int .i64 p, .int .i64 s, .int .i64 o, .int .i64 c', .int .i64 m, .string v], .int .u8 115] W fun e w' => e = .returned (.int .i64 s) ∧ Ext [] W w') := HP.out 115 (by decide)
        have hbn : Hid (badN 115 s = true → pOk ⟨k, n, t, p, s, o, c', m, v⟩ = false) := fun h => by
          have h1 : badL F.data.toList ⟨k, n, t, p, s, o, c', m, v⟩ = true := badL_mem _ _ 115 hin h
          rcases Bool.eq_false_or_eq_true (pOk ⟨k, n, t, p, s, o, c', m, v⟩) with h2 | h2
          · rw [(HI.out.1 h2).1] at h1; cases h1
          · exact h2
        have hgn : Hid (badN 115 s = false → ∀ T : ByteArray, nums T = putN 115 ⟨k, n, t, p, s, o, c', m, v⟩ s → nums (S ++ T) = k :: putL (F.data.toList.take (j + 1)) ⟨k, n, t, p, s, o, c', m, v⟩ ∧ badL (F.data.toList.take (j + 1)) ⟨k, n, t, p, s, o, c', m, v⟩ = false) := fun h T hT => by
          rw [take_next hcl, putL_app, badL_app, nums_app, HN.out, HBad.out, hT]
          exact ⟨by show (k :: putL _ _) ++ putN 115 _ s = k :: (putL _ _ ++ (putN 115 _ s ++ [])); rw [List.append_nil]; rfl, by show (false || (badN 115 s || false)) = false; rw [h]; rfl⟩
        clear hixF hcl hin hcc
        go_wp2
        go_region_held3 (fun w' => w'.cell? ⟨w.heap.size, 0, none⟩ = some (.int .i64 k) ∧ w'.cell? ⟨w.heap.size, 1, none⟩ = some (.int .i64 n) ∧ w'.cell? ⟨w.heap.size, 2, none⟩ = some (.int .i64 t) ∧ w'.cell? ⟨w.heap.size, 3, none⟩ = some (.int .i64 p) ∧ w'.cell? ⟨w.heap.size, 4, none⟩ = some (.int .i64 s) ∧ w'.cell? ⟨w.heap.size, 5, none⟩ = some (.int .i64 o) ∧ w'.cell? ⟨w.heap.size, 6, none⟩ = some (.int .i64 c') ∧ w'.cell? ⟨w.heap.size, 7, none⟩ = some (.int .i64 m) ∧ w'.cell? ⟨w.heap.size, 8, none⟩ = some (.string v))
          (first | exact ⟨HB.out.b.cell (k := 0) rfl, HB.out.b.cell (k := 1) rfl, HB.out.b.cell (k := 2) rfl, HB.out.b.cell (k := 3) rfl, HB.out.b.cell (k := 4) rfl, HB.out.b.cell (k := 5) rfl, HB.out.b.cell (k := 6) rfl, HB.out.b.cell (k := 7) rfl, HB.out.b.cell (k := 8) rfl⟩ | go_keep)
          (first | (go_at_call 24; refine (HPC.out _).mono ?_; rintro e w' ⟨rfl, hu⟩; replace HB := Lib.hid (HB.out.go hu); clear hu))
        all_goals
          clear l0 l8
          have l8 := HB.out.b.cell (k := 8) rfl
          have l9 : w'.cell? ⟨w.heap.size, 8, none⟩ = some (.string v) := l8
          have hne8 : w.heap.size ≠ w'.heap.size := by have := HB.out.b.lt; omega
          have hne9 : w.heap.size < w'.heap.size := by have := HB.out.b.lt; omega
          have l10 : (w'.alloc (.cells #[.int .u8 ((v.size : Int) % 256)] 5)).cell? ⟨w.heap.size, 8, none⟩ = some (.string v) := (HB.out.go ((Ext.refl [] _).alloc _)).b.cell (k := 8) rfl
          by_cases h0 : s < 0
          · have hbad := hbn.out (by simp [badN, two]; omega)
            have HBD := Lib.hid hbad
            clear hbad
            go_wp2
            go_ret2
            exact ⟨HB.out.ext, ⟨#[]⟩, by rw [HBD.out]; rfl, fun hh => by rw [HBD.out] at hh; cases hh⟩
          by_cases h1 : 65535 < s
          · have hbad := hbn.out (by simp [badN, two]; omega)
            have HBD := Lib.hid hbad
            clear hbad
            go_wp2
            go_ret2
            exact ⟨HB.out.ext, ⟨#[]⟩, by rw [HBD.out]; rfl, fun hh => by rw [HBD.out] at hh; cases hh⟩
          by_cases h2 : 255 < s
          · have hbad := hbn.out (by simp [badN, two]; omega)
            have HBD := Lib.hid hbad
            clear hbad
            go_wp2
            go_ret2
            exact ⟨HB.out.ext, ⟨#[]⟩, by rw [HBD.out]; rfl, fun hh => by rw [HBD.out] at hh; cases hh⟩
          have hg := hgn.out (by simp [badN, two]; omega) (strOfNums [s % 256]) (by rw [nums_one (by omega) (by omega)]; rfl)
          have HG := Lib.hid hg
          have hw0 : IntKind.u8.wrap (s % 256) = s % 256 := wrapu8 (by omega) (by omega)
          clear hg
          go_wp2
          go_roundw
          case rel => exact ⟨j + 1, _, by go_num, rfl, by omega, by first | (simp [strOfNums_size, ByteArray.size_append]; omega) | (simp [strOfNums_size]; omega), HG.out.1, HG.out.2, HB.out.go (by first | exact ((Ext.refl [] _).alloc _) | exact (((Ext.refl [] _).alloc _).alloc _))⟩
          case measure => simp [intOf]; omega
      · rw [hcc] at hixF hcl hin
        have hixF2 : ∀ W, (Instr.index 9 (.string F) (.int .i64 (j : Int))).run Try.prog W = .ok (.int .u8 99) W := hixF
        have HPC : Hid (∀ W, Calls Try.prog 24 #[.agg #[.int .i64 k, .int .i64 n, .int .i64 t, .int .i64 p, .int .i64 s, .int .i64 o, .int .i64 c', .int .i64 m, .string v], .int .u8 99] W fun e w' => e = .returned (.int .i64 c') ∧ Ext [] W w') := HP.out 99 (by decide)
        have hbn : Hid (badN 99 c' = true → pOk ⟨k, n, t, p, s, o, c', m, v⟩ = false) := fun h => by
          have h1 : badL F.data.toList ⟨k, n, t, p, s, o, c', m, v⟩ = true := badL_mem _ _ 99 hin h
          rcases Bool.eq_false_or_eq_true (pOk ⟨k, n, t, p, s, o, c', m, v⟩) with h2 | h2
          · rw [(HI.out.1 h2).1] at h1; cases h1
          · exact h2
        have hgn : Hid (badN 99 c' = false → ∀ T : ByteArray, nums T = putN 99 ⟨k, n, t, p, s, o, c', m, v⟩ c' → nums (S ++ T) = k :: putL (F.data.toList.take (j + 1)) ⟨k, n, t, p, s, o, c', m, v⟩ ∧ badL (F.data.toList.take (j + 1)) ⟨k, n, t, p, s, o, c', m, v⟩ = false) := fun h T hT => by
          rw [take_next hcl, putL_app, badL_app, nums_app, HN.out, HBad.out, hT]
          exact ⟨by show (k :: putL _ _) ++ putN 99 _ c' = k :: (putL _ _ ++ (putN 99 _ c' ++ [])); rw [List.append_nil]; rfl, by show (false || (badN 99 c' || false)) = false; rw [h]; rfl⟩
        clear hixF hcl hin hcc
        go_wp2
        go_region_held3 (fun w' => w'.cell? ⟨w.heap.size, 0, none⟩ = some (.int .i64 k) ∧ w'.cell? ⟨w.heap.size, 1, none⟩ = some (.int .i64 n) ∧ w'.cell? ⟨w.heap.size, 2, none⟩ = some (.int .i64 t) ∧ w'.cell? ⟨w.heap.size, 3, none⟩ = some (.int .i64 p) ∧ w'.cell? ⟨w.heap.size, 4, none⟩ = some (.int .i64 s) ∧ w'.cell? ⟨w.heap.size, 5, none⟩ = some (.int .i64 o) ∧ w'.cell? ⟨w.heap.size, 6, none⟩ = some (.int .i64 c') ∧ w'.cell? ⟨w.heap.size, 7, none⟩ = some (.int .i64 m) ∧ w'.cell? ⟨w.heap.size, 8, none⟩ = some (.string v))
          (first | exact ⟨HB.out.b.cell (k := 0) rfl, HB.out.b.cell (k := 1) rfl, HB.out.b.cell (k := 2) rfl, HB.out.b.cell (k := 3) rfl, HB.out.b.cell (k := 4) rfl, HB.out.b.cell (k := 5) rfl, HB.out.b.cell (k := 6) rfl, HB.out.b.cell (k := 7) rfl, HB.out.b.cell (k := 8) rfl⟩ | go_keep)
          (first | (go_at_call 24; refine (HPC.out _).mono ?_; rintro e w' ⟨rfl, hu⟩; replace HB := Lib.hid (HB.out.go hu); clear hu))
        all_goals
          clear l0 l8
          have l8 := HB.out.b.cell (k := 8) rfl
          have l9 : w'.cell? ⟨w.heap.size, 8, none⟩ = some (.string v) := l8
          have hne8 : w.heap.size ≠ w'.heap.size := by have := HB.out.b.lt; omega
          have hne9 : w.heap.size < w'.heap.size := by have := HB.out.b.lt; omega
          have l10 : (w'.alloc (.cells #[.int .u8 ((v.size : Int) % 256)] 5)).cell? ⟨w.heap.size, 8, none⟩ = some (.string v) := (HB.out.go ((Ext.refl [] _).alloc _)).b.cell (k := 8) rfl
          by_cases h0 : c' < 0
          · have hbad := hbn.out (by simp [badN, two]; omega)
            have HBD := Lib.hid hbad
            clear hbad
            go_wp2
            go_ret2
            exact ⟨HB.out.ext, ⟨#[]⟩, by rw [HBD.out]; rfl, fun hh => by rw [HBD.out] at hh; cases hh⟩
          by_cases h1 : 65535 < c'
          · have hbad := hbn.out (by simp [badN, two]; omega)
            have HBD := Lib.hid hbad
            clear hbad
            go_wp2
            go_ret2
            exact ⟨HB.out.ext, ⟨#[]⟩, by rw [HBD.out]; rfl, fun hh => by rw [HBD.out] at hh; cases hh⟩
          by_cases h2 : 255 < c'
          · have hbad := hbn.out (by simp [badN, two]; omega)
            have HBD := Lib.hid hbad
            clear hbad
            go_wp2
            go_ret2
            exact ⟨HB.out.ext, ⟨#[]⟩, by rw [HBD.out]; rfl, fun hh => by rw [HBD.out] at hh; cases hh⟩
          have hg := hgn.out (by simp [badN, two]; omega) (strOfNums [c' % 256]) (by rw [nums_one (by omega) (by omega)]; rfl)
          have HG := Lib.hid hg
          have hw0 : IntKind.u8.wrap (c' % 256) = c' % 256 := wrapu8 (by omega) (by omega)
          clear hg
          go_wp2
          go_roundw
          case rel => exact ⟨j + 1, _, by go_num, rfl, by omega, by first | (simp [strOfNums_size, ByteArray.size_append]; omega) | (simp [strOfNums_size]; omega), HG.out.1, HG.out.2, HB.out.go (by first | exact ((Ext.refl [] _).alloc _) | exact (((Ext.refl [] _).alloc _).alloc _))⟩
          case measure => simp [intOf]; omega
      · rw [hcc] at hixF hcl hin
        have hixF2 : ∀ W, (Instr.index 9 (.string F) (.int .i64 (j : Int))).run Try.prog W = .ok (.int .u8 67) W := hixF
        have HPC : Hid (∀ W, Calls Try.prog 24 #[.agg #[.int .i64 k, .int .i64 n, .int .i64 t, .int .i64 p, .int .i64 s, .int .i64 o, .int .i64 c', .int .i64 m, .string v], .int .u8 67] W fun e w' => e = .returned (.int .i64 c') ∧ Ext [] W w') := HP.out 67 (by decide)
        have hbn : Hid (badN 67 c' = true → pOk ⟨k, n, t, p, s, o, c', m, v⟩ = false) := fun h => by
          have h1 : badL F.data.toList ⟨k, n, t, p, s, o, c', m, v⟩ = true := badL_mem _ _ 67 hin h
          rcases Bool.eq_false_or_eq_true (pOk ⟨k, n, t, p, s, o, c', m, v⟩) with h2 | h2
          · rw [(HI.out.1 h2).1] at h1; cases h1
          · exact h2
        have hgn : Hid (badN 67 c' = false → ∀ T : ByteArray, nums T = putN 67 ⟨k, n, t, p, s, o, c', m, v⟩ c' → nums (S ++ T) = k :: putL (F.data.toList.take (j + 1)) ⟨k, n, t, p, s, o, c', m, v⟩ ∧ badL (F.data.toList.take (j + 1)) ⟨k, n, t, p, s, o, c', m, v⟩ = false) := fun h T hT => by
          rw [take_next hcl, putL_app, badL_app, nums_app, HN.out, HBad.out, hT]
          exact ⟨by show (k :: putL _ _) ++ putN 67 _ c' = k :: (putL _ _ ++ (putN 67 _ c' ++ [])); rw [List.append_nil]; rfl, by show (false || (badN 67 c' || false)) = false; rw [h]; rfl⟩
        clear hixF hcl hin hcc
        go_wp2
        go_region_held3 (fun w' => w'.cell? ⟨w.heap.size, 0, none⟩ = some (.int .i64 k) ∧ w'.cell? ⟨w.heap.size, 1, none⟩ = some (.int .i64 n) ∧ w'.cell? ⟨w.heap.size, 2, none⟩ = some (.int .i64 t) ∧ w'.cell? ⟨w.heap.size, 3, none⟩ = some (.int .i64 p) ∧ w'.cell? ⟨w.heap.size, 4, none⟩ = some (.int .i64 s) ∧ w'.cell? ⟨w.heap.size, 5, none⟩ = some (.int .i64 o) ∧ w'.cell? ⟨w.heap.size, 6, none⟩ = some (.int .i64 c') ∧ w'.cell? ⟨w.heap.size, 7, none⟩ = some (.int .i64 m) ∧ w'.cell? ⟨w.heap.size, 8, none⟩ = some (.string v))
          (first | exact ⟨HB.out.b.cell (k := 0) rfl, HB.out.b.cell (k := 1) rfl, HB.out.b.cell (k := 2) rfl, HB.out.b.cell (k := 3) rfl, HB.out.b.cell (k := 4) rfl, HB.out.b.cell (k := 5) rfl, HB.out.b.cell (k := 6) rfl, HB.out.b.cell (k := 7) rfl, HB.out.b.cell (k := 8) rfl⟩ | go_keep)
          (first | (go_at_call 24; refine (HPC.out _).mono ?_; rintro e w' ⟨rfl, hu⟩; replace HB := Lib.hid (HB.out.go hu); clear hu))
        all_goals
          clear l0 l8
          have l8 := HB.out.b.cell (k := 8) rfl
          have l9 : w'.cell? ⟨w.heap.size, 8, none⟩ = some (.string v) := l8
          have hne8 : w.heap.size ≠ w'.heap.size := by have := HB.out.b.lt; omega
          have hne9 : w.heap.size < w'.heap.size := by have := HB.out.b.lt; omega
          have l10 : (w'.alloc (.cells #[.int .u8 ((v.size : Int) % 256)] 5)).cell? ⟨w.heap.size, 8, none⟩ = some (.string v) := (HB.out.go ((Ext.refl [] _).alloc _)).b.cell (k := 8) rfl
          by_cases h0 : c' < 0
          · have hbad := hbn.out (by simp [badN, two]; omega)
            have HBD := Lib.hid hbad
            clear hbad
            go_wp2
            go_ret2
            exact ⟨HB.out.ext, ⟨#[]⟩, by rw [HBD.out]; rfl, fun hh => by rw [HBD.out] at hh; cases hh⟩
          by_cases h1 : 65535 < c'
          · have hbad := hbn.out (by simp [badN, two]; omega)
            have HBD := Lib.hid hbad
            clear hbad
            go_wp2
            go_ret2
            exact ⟨HB.out.ext, ⟨#[]⟩, by rw [HBD.out]; rfl, fun hh => by rw [HBD.out] at hh; cases hh⟩
          have hg := hgn.out (by simp [badN, two]; omega) (strOfNums [c' / 256] ++ strOfNums [c' % 256]) (by rw [nums_app, nums_one (by omega) (by omega), nums_one (by omega) (by omega)]; rfl)
          have HG := Lib.hid hg
          have hw0 : IntKind.u8.wrap (c' % 256) = c' % 256 := wrapu8 (by omega) (by omega)
          have hw1 : IntKind.u8.wrap (c' / 256) = c' / 256 := wrapu8 (by omega) (by omega)
          clear hg
          go_wp2
          go_roundw
          case rel => exact ⟨j + 1, _, by go_num, rfl, by omega, by first | (simp [strOfNums_size, ByteArray.size_append]; omega) | (simp [strOfNums_size]; omega), by unfold Hid; rw [← HG.out.1, ← ByteArray.append_assoc], HG.out.2, HB.out.go (by first | exact ((Ext.refl [] _).alloc _) | exact (((Ext.refl [] _).alloc _).alloc _))⟩
          case measure => simp [intOf]; omega
      · rw [hcc] at hixF hcl hin
        have hixF2 : ∀ W, (Instr.index 9 (.string F) (.int .i64 (j : Int))).run Try.prog W = .ok (.int .u8 111) W := hixF
        have HPC : Hid (∀ W, Calls Try.prog 24 #[.agg #[.int .i64 k, .int .i64 n, .int .i64 t, .int .i64 p, .int .i64 s, .int .i64 o, .int .i64 c', .int .i64 m, .string v], .int .u8 111] W fun e w' => e = .returned (.int .i64 o) ∧ Ext [] W w') := HP.out 111 (by decide)
        have hbn : Hid (badN 111 o = true → pOk ⟨k, n, t, p, s, o, c', m, v⟩ = false) := fun h => by
          have h1 : badL F.data.toList ⟨k, n, t, p, s, o, c', m, v⟩ = true := badL_mem _ _ 111 hin h
          rcases Bool.eq_false_or_eq_true (pOk ⟨k, n, t, p, s, o, c', m, v⟩) with h2 | h2
          · rw [(HI.out.1 h2).1] at h1; cases h1
          · exact h2
        have hgn : Hid (badN 111 o = false → ∀ T : ByteArray, nums T = putN 111 ⟨k, n, t, p, s, o, c', m, v⟩ o → nums (S ++ T) = k :: putL (F.data.toList.take (j + 1)) ⟨k, n, t, p, s, o, c', m, v⟩ ∧ badL (F.data.toList.take (j + 1)) ⟨k, n, t, p, s, o, c', m, v⟩ = false) := fun h T hT => by
          rw [take_next hcl, putL_app, badL_app, nums_app, HN.out, HBad.out, hT]
          exact ⟨by show (k :: putL _ _) ++ putN 111 _ o = k :: (putL _ _ ++ (putN 111 _ o ++ [])); rw [List.append_nil]; rfl, by show (false || (badN 111 o || false)) = false; rw [h]; rfl⟩
        clear hixF hcl hin hcc
        go_wp2
        go_region_held3 (fun w' => w'.cell? ⟨w.heap.size, 0, none⟩ = some (.int .i64 k) ∧ w'.cell? ⟨w.heap.size, 1, none⟩ = some (.int .i64 n) ∧ w'.cell? ⟨w.heap.size, 2, none⟩ = some (.int .i64 t) ∧ w'.cell? ⟨w.heap.size, 3, none⟩ = some (.int .i64 p) ∧ w'.cell? ⟨w.heap.size, 4, none⟩ = some (.int .i64 s) ∧ w'.cell? ⟨w.heap.size, 5, none⟩ = some (.int .i64 o) ∧ w'.cell? ⟨w.heap.size, 6, none⟩ = some (.int .i64 c') ∧ w'.cell? ⟨w.heap.size, 7, none⟩ = some (.int .i64 m) ∧ w'.cell? ⟨w.heap.size, 8, none⟩ = some (.string v))
          (first | exact ⟨HB.out.b.cell (k := 0) rfl, HB.out.b.cell (k := 1) rfl, HB.out.b.cell (k := 2) rfl, HB.out.b.cell (k := 3) rfl, HB.out.b.cell (k := 4) rfl, HB.out.b.cell (k := 5) rfl, HB.out.b.cell (k := 6) rfl, HB.out.b.cell (k := 7) rfl, HB.out.b.cell (k := 8) rfl⟩ | go_keep)
          (first | (go_at_call 24; refine (HPC.out _).mono ?_; rintro e w' ⟨rfl, hu⟩; replace HB := Lib.hid (HB.out.go hu); clear hu))
        all_goals
          clear l0 l8
          have l8 := HB.out.b.cell (k := 8) rfl
          have l9 : w'.cell? ⟨w.heap.size, 8, none⟩ = some (.string v) := l8
          have hne8 : w.heap.size ≠ w'.heap.size := by have := HB.out.b.lt; omega
          have hne9 : w.heap.size < w'.heap.size := by have := HB.out.b.lt; omega
          have l10 : (w'.alloc (.cells #[.int .u8 ((v.size : Int) % 256)] 5)).cell? ⟨w.heap.size, 8, none⟩ = some (.string v) := (HB.out.go ((Ext.refl [] _).alloc _)).b.cell (k := 8) rfl
          by_cases h0 : o < 0
          · have hbad := hbn.out (by simp [badN, two]; omega)
            have HBD := Lib.hid hbad
            clear hbad
            go_wp2
            go_ret2
            exact ⟨HB.out.ext, ⟨#[]⟩, by rw [HBD.out]; rfl, fun hh => by rw [HBD.out] at hh; cases hh⟩
          by_cases h1 : 65535 < o
          · have hbad := hbn.out (by simp [badN, two]; omega)
            have HBD := Lib.hid hbad
            clear hbad
            go_wp2
            go_ret2
            exact ⟨HB.out.ext, ⟨#[]⟩, by rw [HBD.out]; rfl, fun hh => by rw [HBD.out] at hh; cases hh⟩
          by_cases h2 : 255 < o
          · have hbad := hbn.out (by simp [badN, two]; omega)
            have HBD := Lib.hid hbad
            clear hbad
            go_wp2
            go_ret2
            exact ⟨HB.out.ext, ⟨#[]⟩, by rw [HBD.out]; rfl, fun hh => by rw [HBD.out] at hh; cases hh⟩
          have hg := hgn.out (by simp [badN, two]; omega) (strOfNums [o % 256]) (by rw [nums_one (by omega) (by omega)]; rfl)
          have HG := Lib.hid hg
          have hw0 : IntKind.u8.wrap (o % 256) = o % 256 := wrapu8 (by omega) (by omega)
          clear hg
          go_wp2
          go_roundw
          case rel => exact ⟨j + 1, _, by go_num, rfl, by omega, by first | (simp [strOfNums_size, ByteArray.size_append]; omega) | (simp [strOfNums_size]; omega), HG.out.1, HG.out.2, HB.out.go (by first | exact ((Ext.refl [] _).alloc _) | exact (((Ext.refl [] _).alloc _).alloc _))⟩
          case measure => simp [intOf]; omega
      · rw [hcc] at hixF hcl hin
        have hixF2 : ∀ W, (Instr.index 9 (.string F) (.int .i64 (j : Int))).run Try.prog W = .ok (.int .u8 79) W := hixF
        have HPC : Hid (∀ W, Calls Try.prog 24 #[.agg #[.int .i64 k, .int .i64 n, .int .i64 t, .int .i64 p, .int .i64 s, .int .i64 o, .int .i64 c', .int .i64 m, .string v], .int .u8 79] W fun e w' => e = .returned (.int .i64 o) ∧ Ext [] W w') := HP.out 79 (by decide)
        have hbn : Hid (badN 79 o = true → pOk ⟨k, n, t, p, s, o, c', m, v⟩ = false) := fun h => by
          have h1 : badL F.data.toList ⟨k, n, t, p, s, o, c', m, v⟩ = true := badL_mem _ _ 79 hin h
          rcases Bool.eq_false_or_eq_true (pOk ⟨k, n, t, p, s, o, c', m, v⟩) with h2 | h2
          · rw [(HI.out.1 h2).1] at h1; cases h1
          · exact h2
        have hgn : Hid (badN 79 o = false → ∀ T : ByteArray, nums T = putN 79 ⟨k, n, t, p, s, o, c', m, v⟩ o → nums (S ++ T) = k :: putL (F.data.toList.take (j + 1)) ⟨k, n, t, p, s, o, c', m, v⟩ ∧ badL (F.data.toList.take (j + 1)) ⟨k, n, t, p, s, o, c', m, v⟩ = false) := fun h T hT => by
          rw [take_next hcl, putL_app, badL_app, nums_app, HN.out, HBad.out, hT]
          exact ⟨by show (k :: putL _ _) ++ putN 79 _ o = k :: (putL _ _ ++ (putN 79 _ o ++ [])); rw [List.append_nil]; rfl, by show (false || (badN 79 o || false)) = false; rw [h]; rfl⟩
        clear hixF hcl hin hcc
        go_wp2
        go_region_held3 (fun w' => w'.cell? ⟨w.heap.size, 0, none⟩ = some (.int .i64 k) ∧ w'.cell? ⟨w.heap.size, 1, none⟩ = some (.int .i64 n) ∧ w'.cell? ⟨w.heap.size, 2, none⟩ = some (.int .i64 t) ∧ w'.cell? ⟨w.heap.size, 3, none⟩ = some (.int .i64 p) ∧ w'.cell? ⟨w.heap.size, 4, none⟩ = some (.int .i64 s) ∧ w'.cell? ⟨w.heap.size, 5, none⟩ = some (.int .i64 o) ∧ w'.cell? ⟨w.heap.size, 6, none⟩ = some (.int .i64 c') ∧ w'.cell? ⟨w.heap.size, 7, none⟩ = some (.int .i64 m) ∧ w'.cell? ⟨w.heap.size, 8, none⟩ = some (.string v))
          (first | exact ⟨HB.out.b.cell (k := 0) rfl, HB.out.b.cell (k := 1) rfl, HB.out.b.cell (k := 2) rfl, HB.out.b.cell (k := 3) rfl, HB.out.b.cell (k := 4) rfl, HB.out.b.cell (k := 5) rfl, HB.out.b.cell (k := 6) rfl, HB.out.b.cell (k := 7) rfl, HB.out.b.cell (k := 8) rfl⟩ | go_keep)
          (first | (go_at_call 24; refine (HPC.out _).mono ?_; rintro e w' ⟨rfl, hu⟩; replace HB := Lib.hid (HB.out.go hu); clear hu))
        all_goals
          clear l0 l8
          have l8 := HB.out.b.cell (k := 8) rfl
          have l9 : w'.cell? ⟨w.heap.size, 8, none⟩ = some (.string v) := l8
          have hne8 : w.heap.size ≠ w'.heap.size := by have := HB.out.b.lt; omega
          have hne9 : w.heap.size < w'.heap.size := by have := HB.out.b.lt; omega
          have l10 : (w'.alloc (.cells #[.int .u8 ((v.size : Int) % 256)] 5)).cell? ⟨w.heap.size, 8, none⟩ = some (.string v) := (HB.out.go ((Ext.refl [] _).alloc _)).b.cell (k := 8) rfl
          by_cases h0 : o < 0
          · have hbad := hbn.out (by simp [badN, two]; omega)
            have HBD := Lib.hid hbad
            clear hbad
            go_wp2
            go_ret2
            exact ⟨HB.out.ext, ⟨#[]⟩, by rw [HBD.out]; rfl, fun hh => by rw [HBD.out] at hh; cases hh⟩
          by_cases h1 : 65535 < o
          · have hbad := hbn.out (by simp [badN, two]; omega)
            have HBD := Lib.hid hbad
            clear hbad
            go_wp2
            go_ret2
            exact ⟨HB.out.ext, ⟨#[]⟩, by rw [HBD.out]; rfl, fun hh => by rw [HBD.out] at hh; cases hh⟩
          have hg := hgn.out (by simp [badN, two]; omega) (strOfNums [o / 256] ++ strOfNums [o % 256]) (by rw [nums_app, nums_one (by omega) (by omega), nums_one (by omega) (by omega)]; rfl)
          have HG := Lib.hid hg
          have hw0 : IntKind.u8.wrap (o % 256) = o % 256 := wrapu8 (by omega) (by omega)
          have hw1 : IntKind.u8.wrap (o / 256) = o / 256 := wrapu8 (by omega) (by omega)
          clear hg
          go_wp2
          go_roundw
          case rel => exact ⟨j + 1, _, by go_num, rfl, by omega, by first | (simp [strOfNums_size, ByteArray.size_append]; omega) | (simp [strOfNums_size]; omega), by unfold Hid; rw [← HG.out.1, ← ByteArray.append_assoc], HG.out.2, HB.out.go (by first | exact ((Ext.refl [] _).alloc _) | exact (((Ext.refl [] _).alloc _).alloc _))⟩
          case measure => simp [intOf]; omega
      · rw [hcc] at hixF hcl hin
        have hixF2 : ∀ W, (Instr.index 9 (.string F) (.int .i64 (j : Int))).run Try.prog W = .ok (.int .u8 109) W := hixF
        have HPC : Hid (∀ W, Calls Try.prog 24 #[.agg #[.int .i64 k, .int .i64 n, .int .i64 t, .int .i64 p, .int .i64 s, .int .i64 o, .int .i64 c', .int .i64 m, .string v], .int .u8 109] W fun e w' => e = .returned (.int .i64 m) ∧ Ext [] W w') := HP.out 109 (by decide)
        have hbn : Hid (badN 109 m = true → pOk ⟨k, n, t, p, s, o, c', m, v⟩ = false) := fun h => by
          have h1 : badL F.data.toList ⟨k, n, t, p, s, o, c', m, v⟩ = true := badL_mem _ _ 109 hin h
          rcases Bool.eq_false_or_eq_true (pOk ⟨k, n, t, p, s, o, c', m, v⟩) with h2 | h2
          · rw [(HI.out.1 h2).1] at h1; cases h1
          · exact h2
        have hgn : Hid (badN 109 m = false → ∀ T : ByteArray, nums T = putN 109 ⟨k, n, t, p, s, o, c', m, v⟩ m → nums (S ++ T) = k :: putL (F.data.toList.take (j + 1)) ⟨k, n, t, p, s, o, c', m, v⟩ ∧ badL (F.data.toList.take (j + 1)) ⟨k, n, t, p, s, o, c', m, v⟩ = false) := fun h T hT => by
          rw [take_next hcl, putL_app, badL_app, nums_app, HN.out, HBad.out, hT]
          exact ⟨by show (k :: putL _ _) ++ putN 109 _ m = k :: (putL _ _ ++ (putN 109 _ m ++ [])); rw [List.append_nil]; rfl, by show (false || (badN 109 m || false)) = false; rw [h]; rfl⟩
        clear hixF hcl hin hcc
        go_wp2
        go_region_held3 (fun w' => w'.cell? ⟨w.heap.size, 0, none⟩ = some (.int .i64 k) ∧ w'.cell? ⟨w.heap.size, 1, none⟩ = some (.int .i64 n) ∧ w'.cell? ⟨w.heap.size, 2, none⟩ = some (.int .i64 t) ∧ w'.cell? ⟨w.heap.size, 3, none⟩ = some (.int .i64 p) ∧ w'.cell? ⟨w.heap.size, 4, none⟩ = some (.int .i64 s) ∧ w'.cell? ⟨w.heap.size, 5, none⟩ = some (.int .i64 o) ∧ w'.cell? ⟨w.heap.size, 6, none⟩ = some (.int .i64 c') ∧ w'.cell? ⟨w.heap.size, 7, none⟩ = some (.int .i64 m) ∧ w'.cell? ⟨w.heap.size, 8, none⟩ = some (.string v))
          (first | exact ⟨HB.out.b.cell (k := 0) rfl, HB.out.b.cell (k := 1) rfl, HB.out.b.cell (k := 2) rfl, HB.out.b.cell (k := 3) rfl, HB.out.b.cell (k := 4) rfl, HB.out.b.cell (k := 5) rfl, HB.out.b.cell (k := 6) rfl, HB.out.b.cell (k := 7) rfl, HB.out.b.cell (k := 8) rfl⟩ | go_keep)
          (first | (go_at_call 24; refine (HPC.out _).mono ?_; rintro e w' ⟨rfl, hu⟩; replace HB := Lib.hid (HB.out.go hu); clear hu))
        all_goals
          clear l0 l8
          have l8 := HB.out.b.cell (k := 8) rfl
          have l9 : w'.cell? ⟨w.heap.size, 8, none⟩ = some (.string v) := l8
          have hne8 : w.heap.size ≠ w'.heap.size := by have := HB.out.b.lt; omega
          have hne9 : w.heap.size < w'.heap.size := by have := HB.out.b.lt; omega
          have l10 : (w'.alloc (.cells #[.int .u8 ((v.size : Int) % 256)] 5)).cell? ⟨w.heap.size, 8, none⟩ = some (.string v) := (HB.out.go ((Ext.refl [] _).alloc _)).b.cell (k := 8) rfl
          by_cases h0 : m < 0
          · have hbad := hbn.out (by simp [badN, two]; omega)
            have HBD := Lib.hid hbad
            clear hbad
            go_wp2
            go_ret2
            exact ⟨HB.out.ext, ⟨#[]⟩, by rw [HBD.out]; rfl, fun hh => by rw [HBD.out] at hh; cases hh⟩
          by_cases h1 : 65535 < m
          · have hbad := hbn.out (by simp [badN, two]; omega)
            have HBD := Lib.hid hbad
            clear hbad
            go_wp2
            go_ret2
            exact ⟨HB.out.ext, ⟨#[]⟩, by rw [HBD.out]; rfl, fun hh => by rw [HBD.out] at hh; cases hh⟩
          by_cases h2 : 255 < m
          · have hbad := hbn.out (by simp [badN, two]; omega)
            have HBD := Lib.hid hbad
            clear hbad
            go_wp2
            go_ret2
            exact ⟨HB.out.ext, ⟨#[]⟩, by rw [HBD.out]; rfl, fun hh => by rw [HBD.out] at hh; cases hh⟩
          have hg := hgn.out (by simp [badN, two]; omega) (strOfNums [m % 256]) (by rw [nums_one (by omega) (by omega)]; rfl)
          have HG := Lib.hid hg
          have hw0 : IntKind.u8.wrap (m % 256) = m % 256 := wrapu8 (by omega) (by omega)
          clear hg
          go_wp2
          go_roundw
          case rel => exact ⟨j + 1, _, by go_num, rfl, by omega, by first | (simp [strOfNums_size, ByteArray.size_append]; omega) | (simp [strOfNums_size]; omega), HG.out.1, HG.out.2, HB.out.go (by first | exact ((Ext.refl [] _).alloc _) | exact (((Ext.refl [] _).alloc _).alloc _))⟩
          case measure => simp [intOf]; omega
      · rw [hcc] at hixF hcl hin
        have hixF2 : ∀ W, (Instr.index 9 (.string F) (.int .i64 (j : Int))).run Try.prog W = .ok (.int .u8 118) W := hixF
        have HPC : Hid (∀ W, Calls Try.prog 24 #[.agg #[.int .i64 k, .int .i64 n, .int .i64 t, .int .i64 p, .int .i64 s, .int .i64 o, .int .i64 c', .int .i64 m, .string v], .int .u8 118] W fun e w' => e = .returned (.int .i64 (v.size : Int)) ∧ Ext [] W w') := HP.out 118 (by decide)
        have hbn : Hid (badN 118 (v.size : Int) = true → pOk ⟨k, n, t, p, s, o, c', m, v⟩ = false) := fun h => by
          have h1 : badL F.data.toList ⟨k, n, t, p, s, o, c', m, v⟩ = true := badL_mem _ _ 118 hin h
          rcases Bool.eq_false_or_eq_true (pOk ⟨k, n, t, p, s, o, c', m, v⟩) with h2 | h2
          · rw [(HI.out.1 h2).1] at h1; cases h1
          · exact h2
        have hgn : Hid (badN 118 (v.size : Int) = false → ∀ T : ByteArray, nums T = putN 118 ⟨k, n, t, p, s, o, c', m, v⟩ (v.size : Int) → nums (S ++ T) = k :: putL (F.data.toList.take (j + 1)) ⟨k, n, t, p, s, o, c', m, v⟩ ∧ badL (F.data.toList.take (j + 1)) ⟨k, n, t, p, s, o, c', m, v⟩ = false) := fun h T hT => by
          rw [take_next hcl, putL_app, badL_app, nums_app, HN.out, HBad.out, hT]
          exact ⟨by show (k :: putL _ _) ++ putN 118 _ (v.size : Int) = k :: (putL _ _ ++ (putN 118 _ (v.size : Int) ++ [])); rw [List.append_nil]; rfl, by show (false || (badN 118 (v.size : Int) || false)) = false; rw [h]; rfl⟩
        clear hixF hcl hin hcc
        go_wp2
        go_region_held3 (fun w' => w'.cell? ⟨w.heap.size, 0, none⟩ = some (.int .i64 k) ∧ w'.cell? ⟨w.heap.size, 1, none⟩ = some (.int .i64 n) ∧ w'.cell? ⟨w.heap.size, 2, none⟩ = some (.int .i64 t) ∧ w'.cell? ⟨w.heap.size, 3, none⟩ = some (.int .i64 p) ∧ w'.cell? ⟨w.heap.size, 4, none⟩ = some (.int .i64 s) ∧ w'.cell? ⟨w.heap.size, 5, none⟩ = some (.int .i64 o) ∧ w'.cell? ⟨w.heap.size, 6, none⟩ = some (.int .i64 c') ∧ w'.cell? ⟨w.heap.size, 7, none⟩ = some (.int .i64 m) ∧ w'.cell? ⟨w.heap.size, 8, none⟩ = some (.string v))
          (first | exact ⟨HB.out.b.cell (k := 0) rfl, HB.out.b.cell (k := 1) rfl, HB.out.b.cell (k := 2) rfl, HB.out.b.cell (k := 3) rfl, HB.out.b.cell (k := 4) rfl, HB.out.b.cell (k := 5) rfl, HB.out.b.cell (k := 6) rfl, HB.out.b.cell (k := 7) rfl, HB.out.b.cell (k := 8) rfl⟩ | go_keep)
          (first | (go_at_call 24; refine (HPC.out _).mono ?_; rintro e w' ⟨rfl, hu⟩; replace HB := Lib.hid (HB.out.go hu); clear hu))
        all_goals
          clear l0 l8
          have l8 := HB.out.b.cell (k := 8) rfl
          have l9 : w'.cell? ⟨w.heap.size, 8, none⟩ = some (.string v) := l8
          have hne8 : w.heap.size ≠ w'.heap.size := by have := HB.out.b.lt; omega
          have hne9 : w.heap.size < w'.heap.size := by have := HB.out.b.lt; omega
          have l10 : (w'.alloc (.cells #[.int .u8 ((v.size : Int) % 256)] 5)).cell? ⟨w.heap.size, 8, none⟩ = some (.string v) := (HB.out.go ((Ext.refl [] _).alloc _)).b.cell (k := 8) rfl
          by_cases h2 : (v.size : Int) ≤ 255
          · have hg := hgn.out (by simp [badN, two]; omega) (strOfNums [(v.size : Int) % 256] ++ v) (by rw [nums_app, nums_one (by omega) (by omega)]; rfl)
            have HG := Lib.hid hg
            have hw0 : IntKind.u8.wrap ((v.size : Int) % 256) = (v.size : Int) % 256 := wrapu8 (by omega) (by omega)
            have hwm : (v.size : Int) % 256 = (v.size : Int) := by omega
            have HWM := Lib.hid hwm
            clear hg hwm
            go_wp2
            go_roundw
            case rel => exact ⟨j + 1, _, by go_num, rfl, by omega, by first | (simp [strOfNums_size, ByteArray.size_append]; omega) | (simp [strOfNums_size]; omega), by unfold Hid; rw [← HG.out.1, ← ByteArray.append_assoc], HG.out.2, HB.out.go (by first | exact ((Ext.refl [] _).alloc _) | exact (((Ext.refl [] _).alloc _).alloc _))⟩
            case measure => simp [intOf]; omega
          · have hbad := hbn.out (by simp [badN, two]; omega)
            have HBD := Lib.hid hbad
            clear hbad
            go_wp2
            go_ret2
            exact ⟨HB.out.ext, ⟨#[]⟩, by rw [HBD.out]; rfl, fun hh => by rw [HBD.out] at hh; cases hh⟩
    · have e : j = F.size := by omega
      subst e
      have htk : F.data.toList.take F.size = F.data.toList := List.take_of_length_le (show F.data.toList.length ≤ F.size from Nat.le_of_eq Array.length_toList)
      have hn := HN.out
      have hbd := HBad.out
      rw [htk] at hn hbd
      have hr2 := HR.out hbd
      rw [List.append_nil] at hr2
      have hS0 : 0 < S.size := by rw [← nums_length, hn]; simp
      have hS1 : ((S[0]'hS0).toNat : Int) = k := by
        have h1 := nums_at S 0 hS0
        rw [hn] at h1
        simpa using h1.symm
      have hfk : (fill F.data.toList ⟨k, n, t, p, s, o, c', m, v⟩ (st0 k)).k = k := fill_k _ _ _ HFl.out
      have hpo : pOk ⟨k, n, t, p, s, o, c', m, v⟩ = stB (fill F.data.toList ⟨k, n, t, p, s, o, c', m, v⟩ (st0 k)) ⟨k, n, t, p, s, o, c', m, v⟩ := by
        rw [Bool.eq_iff_iff, HI.out, stB_iff]
        exact ⟨fun h => h.2, fun h => ⟨hbd, h⟩⟩
      have hnn : pOk ⟨k, n, t, p, s, o, c', m, v⟩ = true → nums S = pOut ⟨k, n, t, p, s, o, c', m, v⟩ := fun h => by rw [hn, HO.out h]
      have hent := rentry_any wr S (by omega) 0 hS0 k hS1
      have hd1 : (nums S).drop (0 + 1) = putL F.data.toList ⟨k, n, t, p, s, o, c', m, v⟩ := by rw [hn]; rfl
      have hFl : F.data.toList = formL k := by rw [← HF.out]; rfl
      rw [hd1, ← hFl, hr2] at hent
      generalize fill F.data.toList ⟨k, n, t, p, s, o, c', m, v⟩ (st0 k) = y at *
      obtain ⟨yk, yn, yt, yp, ys, yo, yc, ym, yv⟩ := y
      obtain rfl : yk = k := hfk
      have HPO := Lib.hid hpo
      have HNN := Lib.hid hnn
      have HE := Lib.hid hent
      clear htk hn hbd hr2 hS0 hS1 hpo hnn hent hd1 hFl
      go_wp2_with (go_at_call 20; fail)
      refine HE.out.mono ?_
      rintro e w1 ⟨e1, i2, hi2, hi2b, _, he⟩
      have he' : e = .returned (.tuple #[.agg #[.int .i64 yk, .int .i64 yn, .int .i64 yt, .int .i64 yp, .int .i64 ys, .int .i64 yo, .int .i64 yc, .int .i64 ym, .string yv], .int .i64 i2, .bool true]) := he
      subst he'
      have HB1 := Lib.hid ((HB.out.go e1).go ((Ext.refl [] w1).alloc (.cells #[.int .i64 yk, .int .i64 yn, .int .i64 yt, .int .i64 yp, .int .i64 ys, .int .i64 yo, .int .i64 yc, .int .i64 ym, .string yv] 39)))
      clear he e1 l0 l8
      have q0 := HB1.out.b.cell (k := 0) rfl
      have q1 := HB1.out.b.cell (k := 1) rfl
      have q2 := HB1.out.b.cell (k := 2) rfl
      have q3 := HB1.out.b.cell (k := 3) rfl
      have q4 := HB1.out.b.cell (k := 4) rfl
      have q5 := HB1.out.b.cell (k := 5) rfl
      have q6 := HB1.out.b.cell (k := 6) rfl
      have q7 := HB1.out.b.cell (k := 7) rfl
      have q8 := HB1.out.b.cell (k := 8) rfl
      have hgd := guard39
      have heq := eql39 yk yn yt yp ys yo yc ym yk n t p s o c' m yv v
      generalize hsb : stB ⟨yk, yn, yt, yp, ys, yo, yc, ym, yv⟩ ⟨yk, n, t, p, s, o, c', m, v⟩ = sb at heq
      have HSB := Lib.hid hsb
      clear hsb
      go_wp2
      go_quiet (fail)
      go_wp2
      go_ret2
      exact ⟨HB1.out.ext.drewN _, S, by rw [HPO.out, HSB.out]; rfl, HNN.out⟩

end Go.Proofs.Ythedllndcibkcaa
