/- The document's Encode. -/
import Derived.Test.YthedllndcibkcaaEncode
namespace Go.Proofs.Ythedllndcibkcaa
open Go.RowKit
set_option linter.unusedVariables false
set_option linter.unusedSimpArgs false

theorem encF_cons' (x : St) (l : List St) (out : List Int) : encF (x :: l) out = if pOk x = true ∧ out.length + (pOut x).length ≤ 4096 then encF l (out ++ pOut x) else none := rfl
def REncPost (q : Option (List Int)) (w : World) (e : Ending) (w' : World) : Prop :=
  Ext [] w w' ∧ match q with
  | none => e = .returned (.tuple #[.string ⟨#[]⟩, .int .i64 1])
  | some out => ∃ S : ByteArray, e = .returned (.tuple #[.string S, .int .i64 0]) ∧ nums S = out
theorem REncPost.miss {q : Option (List Int)} {w w' : World} {e : Ending} (hq : q = none) (h : Ext [] w w') (he : e = .returned (.tuple #[.string ⟨#[]⟩, .int .i64 1])) : REncPost q w e w' := by
  subst hq; exact ⟨h, he⟩
theorem REncPost.hit {q : Option (List Int)} {w w' : World} {e : Ending} {out : List Int} {S : ByteArray} (hq : q = some out) (h : Ext [] w w') (he : e = .returned (.tuple #[.string S, .int .i64 0])) (ho : nums S = out) : REncPost q w e w' := by
  subst hq; exact ⟨h, S, he, ho⟩
theorem rbytes_any (x : St) (hv : x.v.size ≤ 1000) (w : World) : Calls Try.prog 22 #[.agg x.cells.toArray] w (RBPost x w) := by
  rcases Bool.eq_false_or_eq_true (kindB x.k) with h | h
  · exact rbytes_some x hv w h
  · exact rbytes_none x w h
theorem nums_strOf {l : List Int} (h : ∀ x ∈ l, 0 ≤ x ∧ x < 256) : nums (strOfNums l) = l := by
  unfold nums
  rw [strOfNums_data, List.map_map]
  conv => rhs; rw [← List.map_id l]
  apply List.map_congr_left
  intro x hx
  have := h x hx
  simp; omega
theorem conv_five (W : World) (a b c d e : Int) (g : Nat) (hg : W.heap.size = g) : (convert 29 9 (.slice (some ⟨g, 0, none⟩) 5 5)).run Try.prog (W.alloc (.cells #[.int .u8 a, .int .u8 b, .int .u8 c, .int .u8 d, .int .u8 e] 5)) = .ok (.string (strOfNums [a, b, c, d, e])) (W.alloc (.cells #[.int .u8 a, .int .u8 b, .int .u8 c, .int .u8 d, .int .u8 e] 5)) := by
  subst hg
  exact run_convert_bytes_arg (P := Try.prog) _ 29 5 Try.underlying29 Try.underlying5 W.heap.size 0 5 5 [a, b, c, d, e] rfl (fun i hi => by
    match i, hi with
    | 0, _ => simp
    | 1, _ => simp
    | 2, _ => simp
    | 3, _ => simp
    | 4, _ => simp) 9 Try.underlying9

set_option maxHeartbeats 8000000 in
theorem renc_bad (s : Su) (hd : -9223372036854775808 ≤ s.d ∧ s.d ≤ 9223372036854775807) (l : List St) (v : Value) (w : World) (h : ¬ s.ok) : Calls Try.prog 12 #[.agg s.cells.toArray, v] w (REncPost (encA s l) w) := by
  have hq : encA s l = none := by unfold encA; rw [if_neg h]
  generalize encA s l = q at *
  have HQ := Lib.hid hq
  unfold Su.ok at h
  obtain ⟨a, b, c, d, f, g⟩ := s
  simp only at h hd
  simp only [Su.cells]
  clear hq
  cases f
  all_goals
    by_cases h1 : a < 1
    · clear h
      go_enter Try.func12, Try.ntmps12
      go_wp2
      go_ret2
      exact REncPost.miss HQ.out ((Ext.refl _ _).alloc _) rfl
    by_cases h2 : 8 < a
    · clear h
      go_enter Try.func12, Try.ntmps12
      go_wp2
      go_ret2
      exact REncPost.miss HQ.out ((Ext.refl _ _).alloc _) rfl
    by_cases h3 : b < 1
    · clear h
      go_enter Try.func12, Try.ntmps12
      go_wp2
      go_ret2
      exact REncPost.miss HQ.out ((Ext.refl _ _).alloc _) rfl
    by_cases h4 : 32 < b
    · clear h
      go_enter Try.func12, Try.ntmps12
      go_wp2
      go_ret2
      exact REncPost.miss HQ.out ((Ext.refl _ _).alloc _) rfl
    by_cases h5 : c < 1
    · clear h
      go_enter Try.func12, Try.ntmps12
      go_wp2
      go_ret2
      exact REncPost.miss HQ.out ((Ext.refl _ _).alloc _) rfl
    by_cases h6 : 16 < c
    · clear h
      go_enter Try.func12, Try.ntmps12
      go_wp2
      go_ret2
      exact REncPost.miss HQ.out ((Ext.refl _ _).alloc _) rfl
    by_cases h7 : g = 0
    · subst h7
      by_cases h8 : d < 256
      · clear h
        go_enter Try.func12, Try.ntmps12
        go_wp2
        go_ret2
        exact REncPost.miss HQ.out ((Ext.refl _ _).alloc _) rfl
      by_cases h9 : 65281 < d
      · clear h
        go_enter Try.func12, Try.ntmps12
        go_wp2
        go_ret2
        exact REncPost.miss HQ.out ((Ext.refl _ _).alloc _) rfl
      · have h10 : (d - 256) % 255 ≠ 0 := by omega
        have h11 : ((d - 256) % 255 == 0) = false := by simpa using h10
        have h12 : ((d - 256) % 255 != 0) = true := by simpa using h10
        clear h h10
        go_enter Try.func12, Try.ntmps12
        go_wp2
        go_ret2
        exact REncPost.miss HQ.out ((Ext.refl _ _).alloc _) rfl
    · have h8 : (g == 0) = false := by simpa using h7
      have h9 : (g != 0) = true := by simpa using h7
      clear h h7
      go_enter Try.func12, Try.ntmps12
      go_wp2
      go_ret2
      exact REncPost.miss HQ.out ((Ext.refl _ _).alloc _) rfl

set_option maxRecDepth 100000 in
set_option maxHeartbeats 8000000 in
theorem renc_nil (s : Su) (cap : Nat) (A : Option Addr) (w : World) (h : s.ok) : Calls Try.prog 12 #[.agg s.cells.toArray, .slice A 0 cap] w (REncPost (encA s []) w) := by
  have hq : encA s [] = some (trim s.head) := by unfold encA; rw [if_pos h, if_pos rfl]; rfl
  generalize encA s [] = q at *
  have HQ := Lib.hid hq
  have hhr := Su.head_range s h
  have hh5 : s.head.length = 5 := rfl
  have hst := nums_strOf hhr
  obtain ⟨hv, hhv⟩ : ∃ hv, s.head = hv := ⟨_, rfl⟩
  unfold Su.ok at h
  obtain ⟨a, b, c, d, f, g⟩ := s
  simp only at h
  simp only [Su.cells]
  obtain ⟨h1, h2, h3, h4, h5, h6, h7⟩ := h
  subst h4
  clear hq
  have w1 : IntKind.u8.wrap (a - 1) = a - 1 := wrapu8 (by omega) (by omega)
  have w2 : IntKind.u8.wrap (b - 1) = b - 1 := wrapu8 (by omega) (by omega)
  have w3 : IntKind.u8.wrap (c - 1) = c - 1 := wrapu8 (by omega) (by omega)
  have w4 : IntKind.u8.wrap ((d - 256) / 255) = (d - 256) / 255 := wrapu8 (by omega) (by omega)
  have h8 : ((d - 256) % 255 == 0) = true := by simpa using h7
  have h9 : ((d - 256) % 255 != 0) = false := by simpa using h7
  have hcv := conv_five
  rw [hhv] at HQ hhr hh5 hst
  have HHR := Lib.hid hhr
  have HHV := Lib.hid hhv
  have HH5 := Lib.hid hh5
  have HST := Lib.hid hst
  clear h7 hhr hhv hh5 hst
  cases f
  · have HE0 := Lib.hid (((Ext.refl [] w).alloc (.cells #[.int .i64 a, .int .i64 b, .int .i64 c, .int .i64 d, .bool false, .int .u64 0] 30)).alloc (.cells #[.int .u8 (a - 1), .int .u8 (b - 1), .int .u8 (c - 1), .int .u8 0, .int .u8 ((d - 256) / 255)] 5))
    have hS : nums (strOfNums [a - 1, b - 1, c - 1, 0, (d - 256) / 255]) = hv := by
      have h := HST.out
      rw [← HHV.out] at h ⊢
      exact h
    have HS := Lib.hid hS
    clear hS
    go_enter Try.func12, Try.ntmps12
    go_wp2
    generalize strOfNums [a - 1, b - 1, c - 1, 0, (d - 256) / 255] = S at *
    have hS5 : S.size = 5 := by rw [← nums_length, HS.out, HH5.out]
    have HS5 := Lib.hid hS5
    have hS6 : S.size ≤ 5 := by omega
    clear hS5
    go_loop [7] (fun v => ∃ T : ByteArray, T.size ≤ 5 ∧ v = .string T ∧ Hid (nums T = hv.take T.size) ∧ Hid (trim hv = trim (nums T))) (fun v => match v with | .string T => T.size | _ => 0)
    case atStart => exact ⟨S, hS6, rfl, by unfold Hid; rw [HS5.out, HS.out, List.take_of_length_le (by rw [HH5.out]; exact Nat.le_refl _)], by unfold Hid; rw [HS.out]⟩
    case round =>
      obtain ⟨T, hT, rfl, htk, htr⟩ := hrel
      by_cases h0 : T.size = 0
      · have ht : trim hv = [] := by
          rw [htr.out, show nums T = [] from List.eq_nil_of_length_eq_zero (by rw [nums_length]; exact h0)]; rfl
        have HT := Lib.hid ht
        have hTn : nums T = [] := List.eq_nil_of_length_eq_zero (by rw [nums_length]; exact h0)
        have HTN := Lib.hid hTn
        clear ht hTn
        have h0' : T.size ≤ 0 := by omega
        clear h0
        go_wp2
        go_loop [7, 107] (fun v i => v = .string T ∧ i = .int .i64 0) (fun _ _ => 0)
        case atStart => exact ⟨rfl, rfl⟩
        case round =>
          obtain ⟨rfl, rfl⟩ := hrel
          go_wp2
          go_ret2
          exact REncPost.hit (out := []) (by rw [HQ.out, HT.out]) HE0.out rfl HTN.out
      · obtain ⟨k, hk⟩ : ∃ k, T.size = k + 1 := ⟨T.size - 1, by omega⟩
        have hkl : k < T.size := by omega
        have hx := nums_at T k hkl
        have hix0 := index_run T k hkl
        have hix : ∀ W, (Instr.index 9 (.string T) (.int .i64 ((T.size : Int) - 1))).run Try.prog W = .ok (.int .u8 ((T[k]'hkl).toNat : Int)) W := fun W => by
          have e : ((T.size : Int) - 1) = (k : Int) := by omega
          rw [e]; exact hix0 W
        have hxl := byte_lt T k hkl
        generalize (T[k]'hkl).toNat = x at *
        have hxv : hv[k]? = some (x : Int) := by
          rw [htk.out, List.getElem?_take_of_lt hkl] at hx; exact hx
        have HXV := Lib.hid hxv
        have HK := Lib.hid hk
        have hnT : nums T = hv.take (k + 1) := by rw [htk.out, hk]
        have HNT := Lib.hid hnT
        clear hx hix0 hxv hnT hk h0
        have hp : 0 < T.size := by omega
        by_cases hx0 : x = 0
        · subst hx0
          have hnx : nums (T.extract 0 (T.size - 1)) = hv.take k := by
            rw [nums_extract0, HNT.out, HK.out, List.take_take, Nat.min_eq_left (by omega)]; rfl
          have hsx : (T.extract 0 (T.size - 1)).size = T.size - 1 := by
            rw [← nums_length, hnx, List.length_take, HH5.out, HK.out]; have := HK.out; omega
          have HNX := Lib.hid hnx
          have HSX := Lib.hid hsx
          clear hnx hsx
          go_wp2
          go_round
          case rel => exact ⟨T.extract 0 (T.size - 1), by rw [HSX.out]; omega, rfl, by unfold Hid; rw [HNX.out, HSX.out, HK.out]; (try rfl), by unfold Hid; rw [HNX.out, htr.out, HNT.out, trim_zero (by rw [HH5.out]; have := HK.out; omega) HXV.out]⟩
          case measure => simp only; rw [HSX.out]; omega
        · have hx1 : ((x : Int) == 0) = false := beq_eq_false_iff_ne.2 (by omega)
          have hst := trim_stop (l := hv) (k := k) (by rw [HH5.out]; have := HK.out; omega) (x : Int) HXV.out (by omega)
          have hst2 : trim hv = hv.take (k + 1) := by rw [htr.out, HNT.out]; exact hst
          have HSTP := Lib.hid hst2
          clear hst hst2 hx0
          go_wp2
          go_loop [7, 107] (fun v i => v = .string T ∧ i = .int .i64 0) (fun _ _ => 0)
          case atStart => exact ⟨rfl, rfl⟩
          case round =>
            obtain ⟨rfl, rfl⟩ := hrel
            go_wp2
            go_ret2
            exact REncPost.hit (out := hv.take (k + 1)) (by rw [HQ.out, HSTP.out]) HE0.out rfl HNT.out

  · have HE0 := Lib.hid (((Ext.refl [] w).alloc (.cells #[.int .i64 a, .int .i64 b, .int .i64 c, .int .i64 d, .bool true, .int .u64 0] 30)).alloc (.cells #[.int .u8 (a - 1), .int .u8 (b - 1), .int .u8 (c - 1), .int .u8 1, .int .u8 ((d - 256) / 255)] 5))
    have hS : nums (strOfNums [a - 1, b - 1, c - 1, 1, (d - 256) / 255]) = hv := by
      have h := HST.out
      rw [← HHV.out] at h ⊢
      exact h
    have HS := Lib.hid hS
    clear hS
    go_enter Try.func12, Try.ntmps12
    go_wp2
    generalize strOfNums [a - 1, b - 1, c - 1, 1, (d - 256) / 255] = S at *
    have hS5 : S.size = 5 := by rw [← nums_length, HS.out, HH5.out]
    have HS5 := Lib.hid hS5
    have hS6 : S.size ≤ 5 := by omega
    clear hS5
    go_loop [7] (fun v => ∃ T : ByteArray, T.size ≤ 5 ∧ v = .string T ∧ Hid (nums T = hv.take T.size) ∧ Hid (trim hv = trim (nums T))) (fun v => match v with | .string T => T.size | _ => 0)
    case atStart => exact ⟨S, hS6, rfl, by unfold Hid; rw [HS5.out, HS.out, List.take_of_length_le (by rw [HH5.out]; exact Nat.le_refl _)], by unfold Hid; rw [HS.out]⟩
    case round =>
      obtain ⟨T, hT, rfl, htk, htr⟩ := hrel
      by_cases h0 : T.size = 0
      · have ht : trim hv = [] := by
          rw [htr.out, show nums T = [] from List.eq_nil_of_length_eq_zero (by rw [nums_length]; exact h0)]; rfl
        have HT := Lib.hid ht
        have hTn : nums T = [] := List.eq_nil_of_length_eq_zero (by rw [nums_length]; exact h0)
        have HTN := Lib.hid hTn
        clear ht hTn
        have h0' : T.size ≤ 0 := by omega
        clear h0
        go_wp2
        go_loop [7, 107] (fun v i => v = .string T ∧ i = .int .i64 0) (fun _ _ => 0)
        case atStart => exact ⟨rfl, rfl⟩
        case round =>
          obtain ⟨rfl, rfl⟩ := hrel
          go_wp2
          go_ret2
          exact REncPost.hit (out := []) (by rw [HQ.out, HT.out]) HE0.out rfl HTN.out
      · obtain ⟨k, hk⟩ : ∃ k, T.size = k + 1 := ⟨T.size - 1, by omega⟩
        have hkl : k < T.size := by omega
        have hx := nums_at T k hkl
        have hix0 := index_run T k hkl
        have hix : ∀ W, (Instr.index 9 (.string T) (.int .i64 ((T.size : Int) - 1))).run Try.prog W = .ok (.int .u8 ((T[k]'hkl).toNat : Int)) W := fun W => by
          have e : ((T.size : Int) - 1) = (k : Int) := by omega
          rw [e]; exact hix0 W
        have hxl := byte_lt T k hkl
        generalize (T[k]'hkl).toNat = x at *
        have hxv : hv[k]? = some (x : Int) := by
          rw [htk.out, List.getElem?_take_of_lt hkl] at hx; exact hx
        have HXV := Lib.hid hxv
        have HK := Lib.hid hk
        have hnT : nums T = hv.take (k + 1) := by rw [htk.out, hk]
        have HNT := Lib.hid hnT
        clear hx hix0 hxv hnT hk h0
        have hp : 0 < T.size := by omega
        by_cases hx0 : x = 0
        · subst hx0
          have hnx : nums (T.extract 0 (T.size - 1)) = hv.take k := by
            rw [nums_extract0, HNT.out, HK.out, List.take_take, Nat.min_eq_left (by omega)]; rfl
          have hsx : (T.extract 0 (T.size - 1)).size = T.size - 1 := by
            rw [← nums_length, hnx, List.length_take, HH5.out, HK.out]; have := HK.out; omega
          have HNX := Lib.hid hnx
          have HSX := Lib.hid hsx
          clear hnx hsx
          go_wp2
          go_round
          case rel => exact ⟨T.extract 0 (T.size - 1), by rw [HSX.out]; omega, rfl, by unfold Hid; rw [HNX.out, HSX.out, HK.out]; (try rfl), by unfold Hid; rw [HNX.out, htr.out, HNT.out, trim_zero (by rw [HH5.out]; have := HK.out; omega) HXV.out]⟩
          case measure => simp only; rw [HSX.out]; omega
        · have hx1 : ((x : Int) == 0) = false := beq_eq_false_iff_ne.2 (by omega)
          have hst := trim_stop (l := hv) (k := k) (by rw [HH5.out]; have := HK.out; omega) (x : Int) HXV.out (by omega)
          have hst2 : trim hv = hv.take (k + 1) := by rw [htr.out, HNT.out]; exact hst
          have HSTP := Lib.hid hst2
          clear hst hst2 hx0
          go_wp2
          go_loop [7, 107] (fun v i => v = .string T ∧ i = .int .i64 0) (fun _ _ => 0)
          case atStart => exact ⟨rfl, rfl⟩
          case round =>
            obtain ⟨rfl, rfl⟩ := hrel
            go_wp2
            go_ret2
            exact REncPost.hit (out := hv.take (k + 1)) (by rw [HQ.out, HSTP.out]) HE0.out rfl HNT.out

set_option maxRecDepth 100000 in
set_option maxHeartbeats 8000000 in
theorem renc_cons (s : Su) (cap bb base : Nat) (l : List St) (w : World) (h : s.ok) (how : w.ownsRow base 39 9 (.slice (some ⟨bb, 0, none⟩) l.length cap) l.length (encs St.cells l)) (hll : l.length ≤ 3000) (hsh : ∀ x ∈ l, x.v.size ≤ 1000) (hne : 0 < l.length) : Calls Try.prog 12 #[.agg s.cells.toArray, .slice (some ⟨bb, 0, none⟩) l.length cap] w (REncPost (encA s l) w) := by
  have hq : encA s l = encF l s.head := by unfold encA; rw [if_pos h, if_neg (by rintro rfl; simp at hne)]
  generalize encA s l = q at *
  have HQ := Lib.hid hq
  have hhr := Su.head_range s h
  have hh5 : s.head.length = 5 := rfl
  have hst := nums_strOf hhr
  obtain ⟨hv, hhv⟩ : ∃ hv, s.head = hv := ⟨_, rfl⟩
  unfold Su.ok at h
  obtain ⟨a, b, c, d, f, g⟩ := s
  simp only at h
  simp only [Su.cells]
  obtain ⟨h1, h2, h3, h4, h5, h6, h7⟩ := h
  subst h4
  clear hq
  have w1 : IntKind.u8.wrap (a - 1) = a - 1 := wrapu8 (by omega) (by omega)
  have w2 : IntKind.u8.wrap (b - 1) = b - 1 := wrapu8 (by omega) (by omega)
  have w3 : IntKind.u8.wrap (c - 1) = c - 1 := wrapu8 (by omega) (by omega)
  have w4 : IntKind.u8.wrap ((d - 256) / 255) = (d - 256) / 255 := wrapu8 (by omega) (by omega)
  have h8 : ((d - 256) % 255 == 0) = true := by simpa using h7
  have h9 : ((d - 256) % 255 != 0) = false := by simpa using h7
  have hcv := conv_five
  rw [hhv] at HQ hhr hh5 hst
  have HHR := Lib.hid hhr
  have HHV := Lib.hid hhv
  have HH5 := Lib.hid hh5
  have HST := Lib.hid hst
  have HOW := Lib.hid how
  have HSH := Lib.hid hsh
  have hne0 : ((l.length : Int) == 0) = false := beq_eq_false_iff_ne.2 (by omega)
  clear how hsh
  clear h7 hhr hhv hh5 hst
  cases f
  · have HE0 := Lib.hid (((Ext.refl [] w).alloc (.cells #[.int .i64 a, .int .i64 b, .int .i64 c, .int .i64 d, .bool false, .int .u64 0] 30)).alloc (.cells #[.int .u8 (a - 1), .int .u8 (b - 1), .int .u8 (c - 1), .int .u8 0, .int .u8 ((d - 256) / 255)] 5))
    have hS : nums (strOfNums [a - 1, b - 1, c - 1, 0, (d - 256) / 255]) = hv := by
      have h := HST.out
      rw [← HHV.out] at h ⊢
      exact h
    have HS := Lib.hid hS
    clear hS
    go_enter Try.func12, Try.ntmps12
    go_wp2
    generalize strOfNums [a - 1, b - 1, c - 1, 0, (d - 256) / 255] = S at *
    have hS5 : S.size = 5 := by rw [← nums_length, HS.out, HH5.out]
    have HS5 := Lib.hid hS5
    have hS6 : S.size ≤ 5 := by omega
    clear hS5
    go_loop [7] (fun v => v = .string S) (fun _ => 0)
    case atStart => rfl
    case round =>
      subst hrel
      go_wp2
      go_loopw [7, 107] (fun v i wr => ∃ (j : Nat) (T : ByteArray), i = .int .i64 j ∧ v = .string T ∧ j ≤ l.length ∧ T.size ≤ 4096 ∧ Hid (encF l hv = encF (l.drop j) (nums T)) ∧ Hid (Ext [] w wr)) (fun _ i _ => l.length - (intOf i).toNat)
      case atStart => exact ⟨0, S, rfl, rfl, Nat.zero_le _, by omega, by unfold Hid; rw [HS.out]; rfl, HE0.out⟩
      case round =>
        obtain ⟨j, T, rfl, rfl, hj, hol, henc, hext⟩ := hrel
        by_cases hlt : j < l.length
        · obtain ⟨x, hx⟩ : ∃ x, l[j]? = some x := ⟨l[j], by simp [hlt]⟩
          have hxs := HSH.out x (List.mem_of_getElem? hx)
          have hdr : l.drop j = x :: l.drop (j + 1) := by
            rw [List.drop_eq_getElem_cons hlt]
            rw [List.getElem?_eq_getElem hlt] at hx
            injection hx with hx
            rw [hx]
          have ho := own_ext HOW.out hext.out (by simp)
          have hce : ∀ (i : Nat) (v : Value), i < 9 → x.cells[i]? = some v → wr.cell? ⟨bb, j * 9 + i, none⟩ = some v := fun i v hi hv => own_cell ho (by rw [encs_get (f := St.cells) St.cells_length hx hi]; exact hv)
          have hen := henc.out
          rw [hdr] at hen
          have HEN := Lib.hid hen
          obtain ⟨xk, xn, xt, xp, xs, xo, xc, xm, xv⟩ := x
          have a0 := hce 0 _ (by omega) rfl
          have a1 := hce 1 _ (by omega) rfl
          have a2 := hce 2 _ (by omega) rfl
          have a3 := hce 3 _ (by omega) rfl
          have a4 := hce 4 _ (by omega) rfl
          have a5 := hce 5 _ (by omega) rfl
          have a6 := hce 6 _ (by omega) rfl
          have a7 := hce 7 _ (by omega) rfl
          have a8 := hce 8 _ (by omega) rfl
          simp only [Nat.add_zero] at a0
          have hbw := fun W => rbytes_any (St.mk xk xn xt xp xs xo xc xm xv) hxs W
          have HBW := Lib.hid hbw
          have hpl2 : (pOut (St.mk xk xn xt xp xs xo xc xm xv)).length ≤ 1010 := Nat.le_trans (pOut_len _) (Nat.add_le_add_left hxs 10)
          have HPL := Lib.hid hpl2
          clear hx hdr hce hen hbw ho hpl2
          go_wp2_with (go_at_call 22; fail)
          refine (HBW.out _).mono ?_
          rintro e w1 ⟨e1, U, rfl, hp⟩
          have HE1 := Lib.hid (hext.out.trans e1)
          obtain ⟨po, hpo⟩ : ∃ po, pOk (St.mk xk xn xt xp xs xo xc xm xv) = po := ⟨_, rfl⟩
          rw [hpo] at hp ⊢
          have HPO := Lib.hid hpo
          clear hpo e1
          cases po with
          | false =>
            clear hp
            go_wp2
            go_ret2
            exact REncPost.miss (by rw [HQ.out, HEN.out, encF_cons', if_neg (by rw [HPO.out]; simp)]) HE1.out rfl
          | true =>
            have hU := hp rfl
            have HU := Lib.hid hU
            have hUs : U.size ≤ 1010 := by rw [← nums_length, hU]; exact HPL.out
            clear hp hU
            by_cases hbig : T.size + U.size ≤ 4096
            · go_wp2
              go_roundw
              case rel => exact ⟨j + 1, T ++ U, by go_num, rfl, by omega, by rw [ByteArray.size_append]; exact hbig, by unfold Hid; rw [HEN.out, encF_cons', if_pos ⟨HPO.out, by rw [nums_length, ← HU.out, nums_length]; exact hbig⟩, nums_app, HU.out], HE1.out⟩
              case measure => simp [intOf]; omega
            · have hb' : (4096 : Int) < (T.size : Int) + (U.size : Int) := by omega
              go_wp2
              go_ret2
              exact REncPost.miss (by rw [HQ.out, HEN.out, encF_cons', if_neg (by rw [nums_length, ← HU.out, nums_length]; omega)]) HE1.out rfl
        · have e : l.length = j := by omega
          go_wp2
          go_ret2
          exact REncPost.hit (by rw [HQ.out, henc.out, List.drop_of_length_le (by omega)]; rfl) hext.out rfl rfl

  · have HE0 := Lib.hid (((Ext.refl [] w).alloc (.cells #[.int .i64 a, .int .i64 b, .int .i64 c, .int .i64 d, .bool true, .int .u64 0] 30)).alloc (.cells #[.int .u8 (a - 1), .int .u8 (b - 1), .int .u8 (c - 1), .int .u8 1, .int .u8 ((d - 256) / 255)] 5))
    have hS : nums (strOfNums [a - 1, b - 1, c - 1, 1, (d - 256) / 255]) = hv := by
      have h := HST.out
      rw [← HHV.out] at h ⊢
      exact h
    have HS := Lib.hid hS
    clear hS
    go_enter Try.func12, Try.ntmps12
    go_wp2
    generalize strOfNums [a - 1, b - 1, c - 1, 1, (d - 256) / 255] = S at *
    have hS5 : S.size = 5 := by rw [← nums_length, HS.out, HH5.out]
    have HS5 := Lib.hid hS5
    have hS6 : S.size ≤ 5 := by omega
    clear hS5
    go_loop [7] (fun v => v = .string S) (fun _ => 0)
    case atStart => rfl
    case round =>
      subst hrel
      go_wp2
      go_loopw [7, 107] (fun v i wr => ∃ (j : Nat) (T : ByteArray), i = .int .i64 j ∧ v = .string T ∧ j ≤ l.length ∧ T.size ≤ 4096 ∧ Hid (encF l hv = encF (l.drop j) (nums T)) ∧ Hid (Ext [] w wr)) (fun _ i _ => l.length - (intOf i).toNat)
      case atStart => exact ⟨0, S, rfl, rfl, Nat.zero_le _, by omega, by unfold Hid; rw [HS.out]; rfl, HE0.out⟩
      case round =>
        obtain ⟨j, T, rfl, rfl, hj, hol, henc, hext⟩ := hrel
        by_cases hlt : j < l.length
        · obtain ⟨x, hx⟩ : ∃ x, l[j]? = some x := ⟨l[j], by simp [hlt]⟩
          have hxs := HSH.out x (List.mem_of_getElem? hx)
          have hdr : l.drop j = x :: l.drop (j + 1) := by
            rw [List.drop_eq_getElem_cons hlt]
            rw [List.getElem?_eq_getElem hlt] at hx
            injection hx with hx
            rw [hx]
          have ho := own_ext HOW.out hext.out (by simp)
          have hce : ∀ (i : Nat) (v : Value), i < 9 → x.cells[i]? = some v → wr.cell? ⟨bb, j * 9 + i, none⟩ = some v := fun i v hi hv => own_cell ho (by rw [encs_get (f := St.cells) St.cells_length hx hi]; exact hv)
          have hen := henc.out
          rw [hdr] at hen
          have HEN := Lib.hid hen
          obtain ⟨xk, xn, xt, xp, xs, xo, xc, xm, xv⟩ := x
          have a0 := hce 0 _ (by omega) rfl
          have a1 := hce 1 _ (by omega) rfl
          have a2 := hce 2 _ (by omega) rfl
          have a3 := hce 3 _ (by omega) rfl
          have a4 := hce 4 _ (by omega) rfl
          have a5 := hce 5 _ (by omega) rfl
          have a6 := hce 6 _ (by omega) rfl
          have a7 := hce 7 _ (by omega) rfl
          have a8 := hce 8 _ (by omega) rfl
          simp only [Nat.add_zero] at a0
          have hbw := fun W => rbytes_any (St.mk xk xn xt xp xs xo xc xm xv) hxs W
          have HBW := Lib.hid hbw
          have hpl2 : (pOut (St.mk xk xn xt xp xs xo xc xm xv)).length ≤ 1010 := Nat.le_trans (pOut_len _) (Nat.add_le_add_left hxs 10)
          have HPL := Lib.hid hpl2
          clear hx hdr hce hen hbw ho hpl2
          go_wp2_with (go_at_call 22; fail)
          refine (HBW.out _).mono ?_
          rintro e w1 ⟨e1, U, rfl, hp⟩
          have HE1 := Lib.hid (hext.out.trans e1)
          obtain ⟨po, hpo⟩ : ∃ po, pOk (St.mk xk xn xt xp xs xo xc xm xv) = po := ⟨_, rfl⟩
          rw [hpo] at hp ⊢
          have HPO := Lib.hid hpo
          clear hpo e1
          cases po with
          | false =>
            clear hp
            go_wp2
            go_ret2
            exact REncPost.miss (by rw [HQ.out, HEN.out, encF_cons', if_neg (by rw [HPO.out]; simp)]) HE1.out rfl
          | true =>
            have hU := hp rfl
            have HU := Lib.hid hU
            have hUs : U.size ≤ 1010 := by rw [← nums_length, hU]; exact HPL.out
            clear hp hU
            by_cases hbig : T.size + U.size ≤ 4096
            · go_wp2
              go_roundw
              case rel => exact ⟨j + 1, T ++ U, by go_num, rfl, by omega, by rw [ByteArray.size_append]; exact hbig, by unfold Hid; rw [HEN.out, encF_cons', if_pos ⟨HPO.out, by rw [nums_length, ← HU.out, nums_length]; exact hbig⟩, nums_app, HU.out], HE1.out⟩
              case measure => simp [intOf]; omega
            · have hb' : (4096 : Int) < (T.size : Int) + (U.size : Int) := by omega
              go_wp2
              go_ret2
              exact REncPost.miss (by rw [HQ.out, HEN.out, encF_cons', if_neg (by rw [nums_length, ← HU.out, nums_length]; omega)]) HE1.out rfl
        · have e : l.length = j := by omega
          go_wp2
          go_ret2
          exact REncPost.hit (by rw [HQ.out, henc.out, List.drop_of_length_le (by omega)]; rfl) hext.out rfl rfl

theorem rencode_any (s : Su) (hd : -9223372036854775808 ≤ s.d ∧ s.d ≤ 9223372036854775807) (A : Option Addr) (cap base : Nat) (l : List St) (w : World) (how : w.ownsRow base 39 9 (.slice A l.length cap) l.length (encs St.cells l)) (hll : l.length ≤ 3000) (hsh : ∀ x ∈ l, x.v.size ≤ 1000) : Calls Try.prog 12 #[.agg s.cells.toArray, .slice A l.length cap] w (REncPost (encA s l) w) := by
  by_cases hok : s.ok
  · by_cases hl : 0 < l.length
    · obtain ⟨g, rfl, _, _⟩ := own_some how hl
      exact renc_cons s cap g base l w hok how hll hsh hl
    · have h0 : l = [] := List.eq_nil_of_length_eq_zero (by omega)
      subst h0
      exact renc_nil s cap A w hok
  · exact renc_bad s hd l _ w hok

end Go.Proofs.Ythedllndcibkcaa
