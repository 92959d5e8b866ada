/- Encode: the bytes of a setup and steps. -/
import Derived.Test.YthedllndcibkcaaEncBad
namespace Go.Proofs.Ythedllndcibkcaa
open Go.RowKit
set_option linter.unusedVariables false
set_option linter.unusedSimpArgs false

theorem runB_len : ∀ (l : List (Nat × Nat)) (s : St × List Int × Bool), (runB l s).2.1.length ≤ s.2.1.length + 2 * l.length
  | [], s => by simp [runB]
  | q :: l, s => by
    have h := runB_len l (s.1.put q.1 0, s.2.1 ++ encB q.2 (s.1.get q.1), s.2.2 && inr q.2 (s.1.get q.1))
    have he := encB_le q.2 (s.1.get q.1)
    simp only [List.length_append] at h
    show (runB l (s.1.put q.1 0, s.2.1 ++ encB q.2 (s.1.get q.1), s.2.2 && inr q.2 (s.1.get q.1))).2.1.length ≤ _
    simp only [List.length_cons]; omega
theorem fields_len (k : Int) : (fieldsOf k).length ≤ 4 := by unfold fieldsOf; split <;> simp
theorem pOut_len (x : St) : (pOut x).length ≤ 10 + x.v.size := by
  have h := runB_len (fieldsOf x.k) (x, [IntKind.u8.wrap x.k], true)
  have h2 := fields_len x.k
  simp only [List.length_cons, List.length_nil] at h
  unfold pOut pq
  split
  · rw [List.length_append, List.length_append, nums_length]; simp; omega
  · omega
theorem encF_cons (x : St) (l : List St) (out : List Int) : encF (x :: l) out = if pOk x = true ∧ out.length + (pOut x).length ≤ 4096 then encF l (out ++ pOut x) else none := rfl
theorem own_pre {w : World} {base g t n c : Nat} {C L : List Value} (h : Blk w g t C) (hb : base ≤ g) (hn : n ≤ c) (hl : C.length = c) (hL : L = C.take n) (hc : c ≤ 100 := by omega) : w.ownsRow base t 1 (.slice (some ⟨g, 0, none⟩) n c) n L :=
  ⟨by rw [hL, List.length_take]; omega, .inr ⟨g, c, C.toArray, rfl, hb, h, hn, by unfold maxLen; omega, by simp [hl], by rw [Nat.mul_one, hL]⟩⟩
theorem pbytes_any (x : St) (hv : x.v.size ≤ 1000) (w : World) : Calls Try.prog 21 #[.agg x.cells.toArray] w (PBPost x w) := by
  rcases Bool.eq_false_or_eq_true (kindB x.k) with h | h
  · by_cases h3 : x.k = 3
    · exact pbytes_text x w h h3 hv
    · exact pbytes_else x w h h3 hv
  · exact pbytes_none x w h

set_option maxRecDepth 100000 in
set_option maxHeartbeats 8000000 in
theorem enc_nil (s : Su) (cap : Nat) (A : Option Addr) (w : World) (h : s.ok) : Calls Try.prog 11 #[.agg s.cells.toArray, .slice A 0 cap] w (EncPost (encA s []) w) := by
  have hq : encA s [] = some (trim s.head) := by unfold encA; rw [if_pos h, if_pos rfl]; rfl
  generalize encA s [] = q at *
  have HQ := Lib.hid hq
  have hhr := Su.head_range s h
  have hh5 : s.head.length = 5 := rfl
  obtain ⟨hv, hhv⟩ : ∃ hv, s.head = hv := ⟨_, rfl⟩
  unfold Su.ok at h
  obtain ⟨a, b, c, d, f, g⟩ := s
  simp only at h
  simp only [Su.cells]
  obtain ⟨h1, h2, h3, h4, h5, h6, h7⟩ := h
  subst h4
  clear hq
  have w1 : IntKind.u8.wrap (a - 1) = a - 1 := wrapu8 (by omega) (by omega)
  have w2 : IntKind.u8.wrap (b - 1) = b - 1 := wrapu8 (by omega) (by omega)
  have w3 : IntKind.u8.wrap (c - 1) = c - 1 := wrapu8 (by omega) (by omega)
  have w4 : IntKind.u8.wrap ((d - 256) / 255) = (d - 256) / 255 := wrapu8 (by omega) (by omega)
  have h8 : ((d - 256) % 255 == 0) = true := by simpa using h7
  have h9 : ((d - 256) % 255 != 0) = false := by simpa using h7
  rw [hhv] at HQ hhr hh5
  have HHR := Lib.hid hhr
  have HHV := Lib.hid hhv
  have HH5 := Lib.hid hh5
  clear h7 hhr hhv hh5
  cases f
  · have HE0 := Lib.hid (((Ext.refl [] w).alloc (.cells #[.int .i64 a, .int .i64 b, .int .i64 c, .int .i64 d, .bool false, .int .u64 0] 25)).alloc (.cells #[.int .u8 (a - 1), .int .u8 (b - 1), .int .u8 (c - 1), .int .u8 0, .int .u8 ((d - 256) / 255)] 5))
    have hb0 : Blk ((w.alloc (.cells #[.int .i64 a, .int .i64 b, .int .i64 c, .int .i64 d, .bool false, .int .u64 0] 25)).alloc (.cells #[.int .u8 (a - 1), .int .u8 (b - 1), .int .u8 (c - 1), .int .u8 0, .int .u8 ((d - 256) / 255)] 5)) (w.heap.size + 1) 5 (hv.map (.int .u8)) := by
      have := Blk.new (w.alloc (.cells #[.int .i64 a, .int .i64 b, .int .i64 c, .int .i64 d, .bool false, .int .u64 0] 25)) 5 ((Su.head ⟨a, b, c, d, false, 0⟩).map (.int .u8))
      rw [World.size_alloc, HHV.out] at this
      have e2 : (Su.head ⟨a, b, c, d, false, 0⟩).map (Value.int .u8) = [.int .u8 (a - 1), .int .u8 (b - 1), .int .u8 (c - 1), .int .u8 0, .int .u8 ((d - 256) / 255)] := rfl
      rw [← HHV.out] at this ⊢
      rw [e2] at this ⊢
      exact this
    have HB0 := Lib.hid hb0
    clear hb0
    go_enter Try.func11, Try.ntmps11
    go_wp2
    generalize (w.alloc (.cells #[.int .i64 a, .int .i64 b, .int .i64 c, .int .i64 d, .bool false, .int .u64 0] 25)).alloc (.cells #[.int .u8 (a - 1), .int .u8 (b - 1), .int .u8 (c - 1), .int .u8 0, .int .u8 ((d - 256) / 255)] 5) = W at *
    go_loop [8] (fun v => ∃ k : Nat, k ≤ 5 ∧ v = .slice (some ⟨w.heap.size + 1, 0, none⟩) k 5 ∧ Hid (trim hv = trim (hv.take k))) (fun v => match v with | .slice _ n _ => n | _ => 0)
    case atStart => exact ⟨5, Nat.le_refl _, rfl, by unfold Hid; rw [List.take_of_length_le (by rw [HH5.out]; exact Nat.le_refl _)]⟩
    case round =>
      obtain ⟨k, hk, rfl, htr⟩ := hrel
      cases k with
      | zero =>
        have ht : trim hv = [] := by have := htr.out; rw [List.take_zero] at this; exact this
        have HT := Lib.hid ht
        clear ht
        go_wp2
        go_loop [8, 104] (fun v i => v = .slice (some ⟨w.heap.size + 1, 0, none⟩) 0 5 ∧ i = .int .i64 0) (fun _ _ => 0)
        case atStart => exact ⟨rfl, rfl⟩
        case round =>
          obtain ⟨rfl, rfl⟩ := hrel
          go_wp2
          go_ret2
          exact EncPost.hit (out := []) (by rw [HQ.out, HT.out]) HE0.out rfl (own_pre HB0.out (by omega) (Nat.zero_le _) (by rw [List.length_map, HH5.out]) rfl)
      | succ k =>
        obtain ⟨x, hx⟩ : ∃ x, hv[k]? = some x := ⟨hv[k]'(by rw [HH5.out]; omega), by rw [List.getElem?_eq_getElem]⟩
        have cx := HB0.out.cell (k := k) (v := .int .u8 x) (by rw [List.getElem?_map, hx]; rfl)
        have HX := Lib.hid hx
        clear hx
        by_cases hx0 : x = 0
        · subst hx0
          go_wp2
          go_round
          case rel => exact ⟨k, by omega, rfl, by have h := htr.out; rw [trim_zero (by rw [HH5.out]; omega) HX.out] at h; exact h⟩
          case measure => simp
        · have hx1 : (x == 0) = false := by simpa using hx0
          have hst := trim_stop (l := hv) (k := k) (by rw [HH5.out]; omega) x HX.out hx0
          have HST := Lib.hid (htr.out.trans hst)
          clear hst hx0
          go_wp2
          go_loop [8, 104] (fun v i => v = .slice (some ⟨w.heap.size + 1, 0, none⟩) (k + 1) 5 ∧ i = .int .i64 0) (fun _ _ => 0)
          case atStart => exact ⟨rfl, rfl⟩
          case round =>
            obtain ⟨rfl, rfl⟩ := hrel
            go_wp2
            have hl : (hv.take (k + 1)).length = k + 1 := by rw [List.length_take, HH5.out]; omega
            go_ret2
            refine EncPost.hit (out := hv.take (k + 1)) (g := w.heap.size + 1) (c := 5) (by rw [HQ.out, HST.out]) HE0.out (by rw [hl]; rfl) ?_
            rw [hl]
            exact own_pre HB0.out (by omega) (by omega) (by rw [List.length_map, HH5.out]) (by rw [List.map_take])

  · have HE0 := Lib.hid (((Ext.refl [] w).alloc (.cells #[.int .i64 a, .int .i64 b, .int .i64 c, .int .i64 d, .bool true, .int .u64 0] 25)).alloc (.cells #[.int .u8 (a - 1), .int .u8 (b - 1), .int .u8 (c - 1), .int .u8 1, .int .u8 ((d - 256) / 255)] 5))
    have hb0 : Blk ((w.alloc (.cells #[.int .i64 a, .int .i64 b, .int .i64 c, .int .i64 d, .bool true, .int .u64 0] 25)).alloc (.cells #[.int .u8 (a - 1), .int .u8 (b - 1), .int .u8 (c - 1), .int .u8 1, .int .u8 ((d - 256) / 255)] 5)) (w.heap.size + 1) 5 (hv.map (.int .u8)) := by
      have := Blk.new (w.alloc (.cells #[.int .i64 a, .int .i64 b, .int .i64 c, .int .i64 d, .bool true, .int .u64 0] 25)) 5 ((Su.head ⟨a, b, c, d, true, 0⟩).map (.int .u8))
      rw [World.size_alloc, HHV.out] at this
      have e2 : (Su.head ⟨a, b, c, d, true, 0⟩).map (Value.int .u8) = [.int .u8 (a - 1), .int .u8 (b - 1), .int .u8 (c - 1), .int .u8 1, .int .u8 ((d - 256) / 255)] := rfl
      rw [← HHV.out] at this ⊢
      rw [e2] at this ⊢
      exact this
    have HB0 := Lib.hid hb0
    clear hb0
    go_enter Try.func11, Try.ntmps11
    go_wp2
    generalize (w.alloc (.cells #[.int .i64 a, .int .i64 b, .int .i64 c, .int .i64 d, .bool true, .int .u64 0] 25)).alloc (.cells #[.int .u8 (a - 1), .int .u8 (b - 1), .int .u8 (c - 1), .int .u8 1, .int .u8 ((d - 256) / 255)] 5) = W at *
    go_loop [8] (fun v => ∃ k : Nat, k ≤ 5 ∧ v = .slice (some ⟨w.heap.size + 1, 0, none⟩) k 5 ∧ Hid (trim hv = trim (hv.take k))) (fun v => match v with | .slice _ n _ => n | _ => 0)
    case atStart => exact ⟨5, Nat.le_refl _, rfl, by unfold Hid; rw [List.take_of_length_le (by rw [HH5.out]; exact Nat.le_refl _)]⟩
    case round =>
      obtain ⟨k, hk, rfl, htr⟩ := hrel
      cases k with
      | zero =>
        have ht : trim hv = [] := by have := htr.out; rw [List.take_zero] at this; exact this
        have HT := Lib.hid ht
        clear ht
        go_wp2
        go_loop [8, 104] (fun v i => v = .slice (some ⟨w.heap.size + 1, 0, none⟩) 0 5 ∧ i = .int .i64 0) (fun _ _ => 0)
        case atStart => exact ⟨rfl, rfl⟩
        case round =>
          obtain ⟨rfl, rfl⟩ := hrel
          go_wp2
          go_ret2
          exact EncPost.hit (out := []) (by rw [HQ.out, HT.out]) HE0.out rfl (own_pre HB0.out (by omega) (Nat.zero_le _) (by rw [List.length_map, HH5.out]) rfl)
      | succ k =>
        obtain ⟨x, hx⟩ : ∃ x, hv[k]? = some x := ⟨hv[k]'(by rw [HH5.out]; omega), by rw [List.getElem?_eq_getElem]⟩
        have cx := HB0.out.cell (k := k) (v := .int .u8 x) (by rw [List.getElem?_map, hx]; rfl)
        have HX := Lib.hid hx
        clear hx
        by_cases hx0 : x = 0
        · subst hx0
          go_wp2
          go_round
          case rel => exact ⟨k, by omega, rfl, by have h := htr.out; rw [trim_zero (by rw [HH5.out]; omega) HX.out] at h; exact h⟩
          case measure => simp
        · have hx1 : (x == 0) = false := by simpa using hx0
          have hst := trim_stop (l := hv) (k := k) (by rw [HH5.out]; omega) x HX.out hx0
          have HST := Lib.hid (htr.out.trans hst)
          clear hst hx0
          go_wp2
          go_loop [8, 104] (fun v i => v = .slice (some ⟨w.heap.size + 1, 0, none⟩) (k + 1) 5 ∧ i = .int .i64 0) (fun _ _ => 0)
          case atStart => exact ⟨rfl, rfl⟩
          case round =>
            obtain ⟨rfl, rfl⟩ := hrel
            go_wp2
            have hl : (hv.take (k + 1)).length = k + 1 := by rw [List.length_take, HH5.out]; omega
            go_ret2
            refine EncPost.hit (out := hv.take (k + 1)) (g := w.heap.size + 1) (c := 5) (by rw [HQ.out, HST.out]) HE0.out (by rw [hl]; rfl) ?_
            rw [hl]
            exact own_pre HB0.out (by omega) (by omega) (by rw [List.length_map, HH5.out]) (by rw [List.map_take])

set_option maxRecDepth 100000 in
set_option maxHeartbeats 8000000 in
theorem enc_cons (s : Su) (cap bb off : Nat) (l : List St) (w : World) (h : s.ok) (hbb : bb < w.heap.size) (hce : ∀ (j : Nat) (x : St), l[j]? = some x → ∀ (i : Nat) (v : Value), x.cells[i]? = some v → w.cell? ⟨bb, off + j * 9 + i, none⟩ = some v) (hll : l.length ≤ 3000) (hsh : ∀ x ∈ l, x.v.size ≤ 1000) (hne : 0 < l.length) : Calls Try.prog 11 #[.agg s.cells.toArray, .slice (some ⟨bb, off, none⟩) l.length cap] w (EncPost (encA s l) w) := by
  have hq : encA s l = encF l s.head := by unfold encA; rw [if_pos h, if_neg (by rintro rfl; simp at hne)]
  generalize encA s l = q at *
  have HQ := Lib.hid hq
  have hhr := Su.head_range s h
  have hh5 : s.head.length = 5 := rfl
  obtain ⟨hv, hhv⟩ : ∃ hv, s.head = hv := ⟨_, rfl⟩
  unfold Su.ok at h
  obtain ⟨a, b, c, d, f, g⟩ := s
  simp only at h
  simp only [Su.cells]
  obtain ⟨h1, h2, h3, h4, h5, h6, h7⟩ := h
  subst h4
  clear hq
  have w1 : IntKind.u8.wrap (a - 1) = a - 1 := wrapu8 (by omega) (by omega)
  have w2 : IntKind.u8.wrap (b - 1) = b - 1 := wrapu8 (by omega) (by omega)
  have w3 : IntKind.u8.wrap (c - 1) = c - 1 := wrapu8 (by omega) (by omega)
  have w4 : IntKind.u8.wrap ((d - 256) / 255) = (d - 256) / 255 := wrapu8 (by omega) (by omega)
  have h8 : ((d - 256) % 255 == 0) = true := by simpa using h7
  have h9 : ((d - 256) % 255 != 0) = false := by simpa using h7
  rw [hhv] at HQ hhr hh5
  have HHR := Lib.hid hhr
  have HHV := Lib.hid hhv
  have HH5 := Lib.hid hh5
  have HCE := Lib.hid hce
  have HSH := Lib.hid hsh
  obtain ⟨i0, hi, hz0, hz1, hz2⟩ := info_parts info5
  have hne0 : ((l.length : Int) == 0) = false := beq_eq_false_iff_ne.2 (by omega)
  clear hce hsh
  clear h7 hhr hhv hh5
  cases f
  · have HE0 := Lib.hid (((Ext.refl [] w).alloc (.cells #[.int .i64 a, .int .i64 b, .int .i64 c, .int .i64 d, .bool false, .int .u64 0] 25)).alloc (.cells #[.int .u8 (a - 1), .int .u8 (b - 1), .int .u8 (c - 1), .int .u8 0, .int .u8 ((d - 256) / 255)] 5))
    have hb0 : Blk ((w.alloc (.cells #[.int .i64 a, .int .i64 b, .int .i64 c, .int .i64 d, .bool false, .int .u64 0] 25)).alloc (.cells #[.int .u8 (a - 1), .int .u8 (b - 1), .int .u8 (c - 1), .int .u8 0, .int .u8 ((d - 256) / 255)] 5)) (w.heap.size + 1) 5 (hv.map (.int .u8)) := by
      have := Blk.new (w.alloc (.cells #[.int .i64 a, .int .i64 b, .int .i64 c, .int .i64 d, .bool false, .int .u64 0] 25)) 5 ((Su.head ⟨a, b, c, d, false, 0⟩).map (.int .u8))
      rw [World.size_alloc, HHV.out] at this
      have e2 : (Su.head ⟨a, b, c, d, false, 0⟩).map (Value.int .u8) = [.int .u8 (a - 1), .int .u8 (b - 1), .int .u8 (c - 1), .int .u8 0, .int .u8 ((d - 256) / 255)] := rfl
      rw [← HHV.out] at this ⊢
      rw [e2] at this ⊢
      exact this
    have HB0 := Lib.hid hb0
    clear hb0
    go_enter Try.func11, Try.ntmps11
    go_wp2
    generalize (w.alloc (.cells #[.int .i64 a, .int .i64 b, .int .i64 c, .int .i64 d, .bool false, .int .u64 0] 25)).alloc (.cells #[.int .u8 (a - 1), .int .u8 (b - 1), .int .u8 (c - 1), .int .u8 0, .int .u8 ((d - 256) / 255)] 5) = W at *
    go_loop [8] (fun v => v = .slice (some ⟨w.heap.size + 1, 0, none⟩) 5 5) (fun _ => 0)
    case atStart => rfl
    case round =>
      subst hrel
      go_wp2
      go_loopw [8, 104] (fun v i wr => ∃ (j : Nat) (out : List Int) (A : Option Addr) (c : Nat), i = .int .i64 j ∧ v = .slice A out.length c ∧ j ≤ l.length ∧ out.length ≤ 4096 ∧ 5 ≤ out.length ∧ Hid (encF l hv = encF (l.drop j) out) ∧ Hid (wr.ownsRow w.heap.size 5 1 (.slice A out.length c) out.length (out.map (.int .u8))) ∧ Hid (Ext [] w wr)) (fun _ i _ => l.length - (intOf i).toNat)
      case atStart =>
        refine ⟨0, hv, some ⟨w.heap.size + 1, 0, none⟩, 5, rfl, by rw [HH5.out], Nat.zero_le _, by rw [HH5.out]; omega, by rw [HH5.out]; exact Nat.le_refl _, rfl, ?_, HE0.out⟩
        rw [HH5.out]
        exact own_pre HB0.out (by omega) (Nat.le_refl _) (by rw [List.length_map, HH5.out]) (by rw [List.take_of_length_le (by rw [List.length_map, HH5.out]; exact Nat.le_refl _)])
      case round =>
        obtain ⟨j, out, A, c1, rfl, rfl, hj, hol, hol5, henc, hown, hext⟩ := hrel
        by_cases hlt : j < l.length
        · obtain ⟨x, hx⟩ : ∃ x, l[j]? = some x := ⟨l[j], by simp [hlt]⟩
          have hxs := HSH.out x (List.mem_of_getElem? hx)
          have hdr : l.drop j = x :: l.drop (j + 1) := by
            rw [List.drop_eq_getElem_cons hlt]
            rw [List.getElem?_eq_getElem hlt] at hx
            injection hx with hx
            rw [hx]
          have hce : ∀ (i : Nat) (v : Value), x.cells[i]? = some v → wr.cell? ⟨bb, off + j * 9 + i, none⟩ = some v := fun i v hv => (hext.out.cell (p := ⟨bb, off + j * 9 + i, none⟩) hbb (by simp)).trans (HCE.out j x hx i v hv)
          have hen := henc.out
          rw [hdr] at hen
          have HEN := Lib.hid hen
          obtain ⟨xk, xn, xt, xp, xs, xo, xc, xm, xv⟩ := x
          have a0 := hce 0 _ rfl
          have a1 := hce 1 _ rfl
          have a2 := hce 2 _ rfl
          have a3 := hce 3 _ rfl
          have a4 := hce 4 _ rfl
          have a5 := hce 5 _ rfl
          have a6 := hce 6 _ rfl
          have a7 := hce 7 _ rfl
          have a8 := hce 8 _ rfl
          simp only [Nat.add_zero] at a0
          have hbw := fun W => pbytes_any (St.mk xk xn xt xp xs xo xc xm xv) hxs W
          have HBW := Lib.hid hbw
          have hbb1 : bb < wr.heap.size := by have := hext.out.size; omega
          clear hx hdr hce hen hbw
          go_wp2_with (go_at_call 21; fail)
          refine (HBW.out _).mono ?_
          rintro e w1 ⟨A2, n2, c2, rfl, e1, hp⟩
          have HE1 := Lib.hid ((hext.out.alloc (.cells #[.int .i64 xk, .int .i64 xn, .int .i64 xt, .int .i64 xp, .int .i64 xs, .int .i64 xo, .int .i64 xc, .int .i64 xm, .string xv] 38)).trans e1)
          have HO1 := Lib.hid (own_ext hown.out (((Ext.refl [] wr).alloc (.cells #[.int .i64 xk, .int .i64 xn, .int .i64 xt, .int .i64 xp, .int .i64 xs, .int .i64 xo, .int .i64 xc, .int .i64 xm, .string xv] 38)).trans e1) (by simp))
          obtain ⟨po, hpo⟩ : ∃ po, pOk (St.mk xk xn xt xp xs xo xc xm xv) = po := ⟨_, rfl⟩
          rw [hpo] at hp ⊢
          have HPO := Lib.hid hpo
          have hws := HE1.out.size
          clear hpo e1
          cases po with
          | false =>
            clear hp
            go_wp2
            go_ret2
            exact EncPost.miss (by rw [HQ.out, HEN.out]; rw [encF_cons, if_neg (by rw [HPO.out]; simp)]) HE1.out rfl
          | true =>
            obtain ⟨hn, hown2⟩ := hp rfl
            have HO2 := Lib.hid hown2
            clear hp hown2
            have hpl := pOut_len (St.mk xk xn xt xp xs xo xc xm xv)
            have hpl2 : (pOut (St.mk xk xn xt xp xs xo xc xm xv)).length ≤ 1010 := Nat.le_trans hpl (Nat.add_le_add_left hxs 10)
            clear hpl
            obtain ⟨P, hP⟩ : ∃ P, pOut (St.mk xk xn xt xp xs xo xc xm xv) = P := ⟨_, rfl⟩
            rw [hP] at hn HO2 hpl2
            have HP := Lib.hid hP
            clear hP
            subst hn
            by_cases hbig : out.length + P.length ≤ 4096
            · go_wp2_with (at_builtin; refine wpList_append_own2 _ rfl (.tmp 123) (.tmp 124) 29 rfl w.heap.size _ 5 i0 (.int .u8 0) 1 1 Try.underlying29 hi hz0 hz1 hz2 rfl (by decide) _ _ _ _ _ _ rfl HO1.out rfl HO2.out ?c1 ?c3 ?c4 ?c5 ?kk)
              case c1 => intro u hu; obtain ⟨y, _, rfl⟩ := List.mem_map.1 hu; rfl
              case c3 => unfold maxLen; omega
              case c4 => omega
              case c5 => omega
              case kk =>
                intro v' w3 hown3 hgrow
                obtain ⟨A3, c3, rfl⟩ := own_val hown3
                have hle : (out ++ P).length = out.length + P.length := List.length_append
                have HLE := Lib.hid hle
                have HO3 := Lib.hid hown3
                have HE3 := Lib.hid (HE1.out.grown hgrow (fun k hk hlt => by have := HO1.out.lt k hk; omega))
                clear hown3 hgrow hle
                go_wp2
                go_roundw
                case rel => exact ⟨j + 1, out ++ P, A3, c3, by go_num, by rw [HLE.out], by omega, by rw [HLE.out]; exact hbig, by rw [HLE.out]; omega, by unfold Hid; rw [HEN.out, encF_cons, if_pos ⟨HPO.out, by rw [HP.out]; exact hbig⟩, HP.out], by rw [HLE.out, List.map_append]; exact HO3.out, HE3.out⟩
                case measure => simp [intOf]; omega
            · have hb' : (4096 : Int) < (out.length : Int) + (P.length : Int) := by omega
              go_wp2
              go_ret2
              exact EncPost.miss (by rw [HQ.out, HEN.out]; rw [encF_cons, if_neg (by rw [HP.out]; omega)]) HE1.out rfl
        · have e : l.length = j := by omega
          obtain ⟨g0, rfl, _, _⟩ := own_some hown.out (by omega)
          go_wp2
          go_ret2
          exact EncPost.hit (by rw [HQ.out, henc.out, List.drop_of_length_le (by omega)]; rfl) hext.out rfl hown.out

  · have HE0 := Lib.hid (((Ext.refl [] w).alloc (.cells #[.int .i64 a, .int .i64 b, .int .i64 c, .int .i64 d, .bool true, .int .u64 0] 25)).alloc (.cells #[.int .u8 (a - 1), .int .u8 (b - 1), .int .u8 (c - 1), .int .u8 1, .int .u8 ((d - 256) / 255)] 5))
    have hb0 : Blk ((w.alloc (.cells #[.int .i64 a, .int .i64 b, .int .i64 c, .int .i64 d, .bool true, .int .u64 0] 25)).alloc (.cells #[.int .u8 (a - 1), .int .u8 (b - 1), .int .u8 (c - 1), .int .u8 1, .int .u8 ((d - 256) / 255)] 5)) (w.heap.size + 1) 5 (hv.map (.int .u8)) := by
      have := Blk.new (w.alloc (.cells #[.int .i64 a, .int .i64 b, .int .i64 c, .int .i64 d, .bool true, .int .u64 0] 25)) 5 ((Su.head ⟨a, b, c, d, true, 0⟩).map (.int .u8))
      rw [World.size_alloc, HHV.out] at this
      have e2 : (Su.head ⟨a, b, c, d, true, 0⟩).map (Value.int .u8) = [.int .u8 (a - 1), .int .u8 (b - 1), .int .u8 (c - 1), .int .u8 1, .int .u8 ((d - 256) / 255)] := rfl
      rw [← HHV.out] at this ⊢
      rw [e2] at this ⊢
      exact this
    have HB0 := Lib.hid hb0
    clear hb0
    go_enter Try.func11, Try.ntmps11
    go_wp2
    generalize (w.alloc (.cells #[.int .i64 a, .int .i64 b, .int .i64 c, .int .i64 d, .bool true, .int .u64 0] 25)).alloc (.cells #[.int .u8 (a - 1), .int .u8 (b - 1), .int .u8 (c - 1), .int .u8 1, .int .u8 ((d - 256) / 255)] 5) = W at *
    go_loop [8] (fun v => v = .slice (some ⟨w.heap.size + 1, 0, none⟩) 5 5) (fun _ => 0)
    case atStart => rfl
    case round =>
      subst hrel
      go_wp2
      go_loopw [8, 104] (fun v i wr => ∃ (j : Nat) (out : List Int) (A : Option Addr) (c : Nat), i = .int .i64 j ∧ v = .slice A out.length c ∧ j ≤ l.length ∧ out.length ≤ 4096 ∧ 5 ≤ out.length ∧ Hid (encF l hv = encF (l.drop j) out) ∧ Hid (wr.ownsRow w.heap.size 5 1 (.slice A out.length c) out.length (out.map (.int .u8))) ∧ Hid (Ext [] w wr)) (fun _ i _ => l.length - (intOf i).toNat)
      case atStart =>
        refine ⟨0, hv, some ⟨w.heap.size + 1, 0, none⟩, 5, rfl, by rw [HH5.out], Nat.zero_le _, by rw [HH5.out]; omega, by rw [HH5.out]; exact Nat.le_refl _, rfl, ?_, HE0.out⟩
        rw [HH5.out]
        exact own_pre HB0.out (by omega) (Nat.le_refl _) (by rw [List.length_map, HH5.out]) (by rw [List.take_of_length_le (by rw [List.length_map, HH5.out]; exact Nat.le_refl _)])
      case round =>
        obtain ⟨j, out, A, c1, rfl, rfl, hj, hol, hol5, henc, hown, hext⟩ := hrel
        by_cases hlt : j < l.length
        · obtain ⟨x, hx⟩ : ∃ x, l[j]? = some x := ⟨l[j], by simp [hlt]⟩
          have hxs := HSH.out x (List.mem_of_getElem? hx)
          have hdr : l.drop j = x :: l.drop (j + 1) := by
            rw [List.drop_eq_getElem_cons hlt]
            rw [List.getElem?_eq_getElem hlt] at hx
            injection hx with hx
            rw [hx]
          have hce : ∀ (i : Nat) (v : Value), x.cells[i]? = some v → wr.cell? ⟨bb, off + j * 9 + i, none⟩ = some v := fun i v hv => (hext.out.cell (p := ⟨bb, off + j * 9 + i, none⟩) hbb (by simp)).trans (HCE.out j x hx i v hv)
          have hen := henc.out
          rw [hdr] at hen
          have HEN := Lib.hid hen
          obtain ⟨xk, xn, xt, xp, xs, xo, xc, xm, xv⟩ := x
          have a0 := hce 0 _ rfl
          have a1 := hce 1 _ rfl
          have a2 := hce 2 _ rfl
          have a3 := hce 3 _ rfl
          have a4 := hce 4 _ rfl
          have a5 := hce 5 _ rfl
          have a6 := hce 6 _ rfl
          have a7 := hce 7 _ rfl
          have a8 := hce 8 _ rfl
          simp only [Nat.add_zero] at a0
          have hbw := fun W => pbytes_any (St.mk xk xn xt xp xs xo xc xm xv) hxs W
          have HBW := Lib.hid hbw
          have hbb1 : bb < wr.heap.size := by have := hext.out.size; omega
          clear hx hdr hce hen hbw
          go_wp2_with (go_at_call 21; fail)
          refine (HBW.out _).mono ?_
          rintro e w1 ⟨A2, n2, c2, rfl, e1, hp⟩
          have HE1 := Lib.hid ((hext.out.alloc (.cells #[.int .i64 xk, .int .i64 xn, .int .i64 xt, .int .i64 xp, .int .i64 xs, .int .i64 xo, .int .i64 xc, .int .i64 xm, .string xv] 38)).trans e1)
          have HO1 := Lib.hid (own_ext hown.out (((Ext.refl [] wr).alloc (.cells #[.int .i64 xk, .int .i64 xn, .int .i64 xt, .int .i64 xp, .int .i64 xs, .int .i64 xo, .int .i64 xc, .int .i64 xm, .string xv] 38)).trans e1) (by simp))
          obtain ⟨po, hpo⟩ : ∃ po, pOk (St.mk xk xn xt xp xs xo xc xm xv) = po := ⟨_, rfl⟩
          rw [hpo] at hp ⊢
          have HPO := Lib.hid hpo
          have hws := HE1.out.size
          clear hpo e1
          cases po with
          | false =>
            clear hp
            go_wp2
            go_ret2
            exact EncPost.miss (by rw [HQ.out, HEN.out]; rw [encF_cons, if_neg (by rw [HPO.out]; simp)]) HE1.out rfl
          | true =>
            obtain ⟨hn, hown2⟩ := hp rfl
            have HO2 := Lib.hid hown2
            clear hp hown2
            have hpl := pOut_len (St.mk xk xn xt xp xs xo xc xm xv)
            have hpl2 : (pOut (St.mk xk xn xt xp xs xo xc xm xv)).length ≤ 1010 := Nat.le_trans hpl (Nat.add_le_add_left hxs 10)
            clear hpl
            obtain ⟨P, hP⟩ : ∃ P, pOut (St.mk xk xn xt xp xs xo xc xm xv) = P := ⟨_, rfl⟩
            rw [hP] at hn HO2 hpl2
            have HP := Lib.hid hP
            clear hP
            subst hn
            by_cases hbig : out.length + P.length ≤ 4096
            · go_wp2_with (at_builtin; refine wpList_append_own2 _ rfl (.tmp 123) (.tmp 124) 29 rfl w.heap.size _ 5 i0 (.int .u8 0) 1 1 Try.underlying29 hi hz0 hz1 hz2 rfl (by decide) _ _ _ _ _ _ rfl HO1.out rfl HO2.out ?c1 ?c3 ?c4 ?c5 ?kk)
              case c1 => intro u hu; obtain ⟨y, _, rfl⟩ := List.mem_map.1 hu; rfl
              case c3 => unfold maxLen; omega
              case c4 => omega
              case c5 => omega
              case kk =>
                intro v' w3 hown3 hgrow
                obtain ⟨A3, c3, rfl⟩ := own_val hown3
                have hle : (out ++ P).length = out.length + P.length := List.length_append
                have HLE := Lib.hid hle
                have HO3 := Lib.hid hown3
                have HE3 := Lib.hid (HE1.out.grown hgrow (fun k hk hlt => by have := HO1.out.lt k hk; omega))
                clear hown3 hgrow hle
                go_wp2
                go_roundw
                case rel => exact ⟨j + 1, out ++ P, A3, c3, by go_num, by rw [HLE.out], by omega, by rw [HLE.out]; exact hbig, by rw [HLE.out]; omega, by unfold Hid; rw [HEN.out, encF_cons, if_pos ⟨HPO.out, by rw [HP.out]; exact hbig⟩, HP.out], by rw [HLE.out, List.map_append]; exact HO3.out, HE3.out⟩
                case measure => simp [intOf]; omega
            · have hb' : (4096 : Int) < (out.length : Int) + (P.length : Int) := by omega
              go_wp2
              go_ret2
              exact EncPost.miss (by rw [HQ.out, HEN.out]; rw [encF_cons, if_neg (by rw [HP.out]; omega)]) HE1.out rfl
        · have e : l.length = j := by omega
          obtain ⟨g0, rfl, _, _⟩ := own_some hown.out (by omega)
          go_wp2
          go_ret2
          exact EncPost.hit (by rw [HQ.out, henc.out, List.drop_of_length_le (by omega)]; rfl) hext.out rfl hown.out

theorem encode_any (s : Su) (hd : -9223372036854775808 ≤ s.d ∧ s.d ≤ 9223372036854775807) (A : Option Addr) (cap : Nat) (l : List St) (w : World) (h : StAt w A l) : Calls Try.prog 11 #[.agg s.cells.toArray, .slice A l.length cap] w (EncPost (encA s l) w) := by
  by_cases hok : s.ok
  · rcases h.at_ with h1 | ⟨b, off, rfl, h2, h3⟩
    · subst h1; exact enc_nil s cap A w hok
    · cases hl : l with
      | nil => exact enc_nil s cap _ w hok
      | cons x t =>
        rw [← hl]
        exact enc_cons s cap b off l w hok h2 h3 h.few h.short (by rw [hl]; simp)
  · exact enc_bad s hd l _ w hok

end Go.Proofs.Ythedllndcibkcaa
