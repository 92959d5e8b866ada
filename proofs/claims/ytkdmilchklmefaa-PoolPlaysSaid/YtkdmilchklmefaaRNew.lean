/- The reference's New. -/
import Derived.Test.YtkdmilchklmefaaRModel
namespace Go.Proofs.Ytkdmilchklmefaa
open Go.RowKit
set_option linter.unusedVariables false
set_option linter.unusedSimpArgs false

theorem Try.info76 : (Try.prog.info? 76).map (fun i => (i.zero, i.size, i.bytes)) = some (some (.agg #[.int .i64 0, .string ByteArray.empty, .bool false, .int .i64 0, .bool false, .int .u64 0]), 6, 56) := by kernel_rfl

/-- So far: the pool's block, and so many empty frames. -/
structure RN (w : World) (b : Nat) (wr : World) (A : Option Addr) (c j : Nat) : Prop where
  hd : Blk wr b 74 [.slice A j c, .int .i64 0]
  own : wr.ownsRow (b + 1) 76 6 (.slice A j c) j (encs encR (List.replicate j szero))
  ext : Ext [] w wr
  new : w.heap.size ≤ b
theorem RN.done {w wr : World} {b c j : Nat} {A : Option Addr} (h : RN w b wr A c j) (h0 : 1 ≤ j) (h1 : j ≤ 16) : ∃ g cap tl, RPool wr b g cap tl (List.replicate j szero) 0 ∧ Ext [] w wr ∧ w.heap.size ≤ g := by
  obtain ⟨hl, hn | ⟨g, cap, cur, hv, hb, hg, _, _, hsz, htake⟩⟩ := h.own
  · omega
  · injection hv with hv hv2 hv3
    subst hv hv3
    refine ⟨g, c, cur.toList.drop (j * 6), ⟨?_, ?_, by simp; omega, by simp; omega, ?_⟩, h.ext, by have := h.new; omega⟩
    · have := h.hd; simpa using this
    · unfold Blk
      rw [hg, ← htake, List.take_append_drop]
    · intro f hf
      have := List.eq_of_mem_replicate hf
      subst this
      exact ⟨(fun h => nomatch h), Int.le_refl _⟩
theorem RN.next {w wr w2 : World} {b c c' j g : Nat} {A : Option Addr} (h : RN w b wr A c j) (hgrow : (wr.alloc (.cells #[.int .i64 (-1), .string ByteArray.empty, .bool false, .int .i64 0, .bool false, .int .u64 0] 76)).grownBy w2 (Value.ownBlock (.slice A j c)))
    (hown : w2.ownsRow (b + 1) 76 6 (.slice (some ⟨g, 0, none⟩) (j + 1) c') (j + 1) (encs encR (List.replicate j szero) ++ [.int .i64 (-1), .string ByteArray.empty, .bool false, .int .i64 0, .bool false, .int .u64 0])) :
    RN w b (w2.setCell ⟨b, 0, none⟩ (.slice (some ⟨g, 0, none⟩) (j + 1) c')) (some ⟨g, 0, none⟩) c' (j + 1) := by
  have hb : Blk w2 b 74 [.slice A j c, .int .i64 0] := (h.hd.alloc _).grown hgrow (fun e => by have := h.own.lt b e; omega)
  refine ⟨?_, ?_, ?_, h.new⟩
  · have := hb.set 0 (.slice (some ⟨g, 0, none⟩) (j + 1) c'); simpa using this
  · have e : encs encR (List.replicate (j + 1) szero) = encs encR (List.replicate j szero) ++ [.int .i64 (-1), .string ByteArray.empty, .bool false, .int .i64 0, .bool false, .int .u64 0] := by
      rw [List.replicate_succ', encs_snoc]; rfl
    rw [e]
    exact own_ext (S := [b]) hown ((Ext.refl _ _).setCell (.inl (by simp)) _) (by simp)
  · have h2 := (h.ext.alloc (.cells #[.int .i64 (-1), .string ByteArray.empty, .bool false, .int .i64 0, .bool false, .int .u64 0] 76)).grown hgrow (fun k hk hlt => by have := h.own.lt k hk; have := h.new; omega)
    exact h2.setCell (.inr h.new) _

set_option maxHeartbeats 4000000 in
theorem rnew_much (frames : Int) (h1 : 16 < frames) (n : Nat) (hn : (n : Int) = 16) (h0 : 1 ≤ n) (h16 : n ≤ 16) (w : World) :
    Calls Try.prog 23 #[.int .i64 frames] w fun e w' => e = .returned (.pointer (some ⟨w.heap.size, 0, none⟩)) ∧ ∃ g cap tl, RPool w' w.heap.size g cap tl (List.replicate n szero) 0 ∧ Ext [] w w' ∧ w.heap.size ≤ g := by
  obtain ⟨i0, hi, hz0, hz1, hz2⟩ := info_parts Try.info76
  have hst : RN w w.heap.size (w.alloc (.cells #[.slice none 0 0, .int .i64 0] 74)) none 0 0 := ⟨Blk.new w 74 [.slice none 0 0, .int .i64 0], World.ownsRow_nil _ _ _ _, (Ext.refl _ _).alloc _, Nat.le_refl _⟩
  generalize hbe : w.heap.size = b at *
  have HB := Lib.hid hst
  have HBE := Lib.hid hbe
  go_enter Try.func23, Try.ntmps23
  go_wp2
  clear hst hbe
  go_loopw [4] (fun i wr => ∃ j : Nat, j ≤ n ∧ i = .int .i64 j ∧ ∃ A c, RN w b wr A c j) (fun i _ => n - (intOf i).toNat)
  case atStart => exact ⟨0, Nat.zero_le _, rfl, none, 0, HB.out⟩
  case round =>
    clear HB
    obtain ⟨j, hj, rfl, A, c, hN⟩ := hrel
    by_cases hlt : j < n
    · have c0 := hN.hd.cell (k := 0) rfl
      have fb := hN.hd.free 0
      have hlt' : (j : Int) < 16 := by omega
      have hsz : b + 1 ≤ wr.heap.size := hN.hd.lt
      have HN := Lib.hid hN
      clear hN
      go_wp2_with (at_builtin; refine wpList_append_lies _ rfl (.tmp 18) (.tmp 20) 72 rfl (b + 1) 76 i0 (.agg #[.int .i64 0, .string ByteArray.empty, .bool false, .int .i64 0, .bool false, .int .u64 0]) 6 56 Try.underlying72 hi hz0 hz1 hz2 rfl (by decide) _ _ _ rfl (own_ext HN.out.own ((Ext.refl [] _).alloc _) (by simp)) _ 1 1 [.int .i64 (-1), .string ByteArray.empty, .bool false, .int .i64 0, .bool false, .int .u64 0] rfl rfl ?c1 ?c2 (by omega) ?c3 ?c4 ?c5 _ rfl ?kk)
      case c1 =>
        intro i u hu
        match i, hu with
        | 0, hu => simp at hu; subst hu; simp [Addr.add]
        | 1, hu => simp at hu; subst hu; simp [Addr.add]; rfl
        | 2, hu => simp at hu; subst hu; simp [Addr.add]
        | 3, hu => simp at hu; subst hu; simp [Addr.add]
        | 4, hu => simp at hu; subst hu; simp [Addr.add]
        | 5, hu => simp at hu; subst hu; simp [Addr.add]
      case c2 => intro u hu; simp at hu; rcases hu with rfl | rfl | rfl | rfl | rfl | rfl <;> rfl
      case c3 => unfold maxLen; omega
      case c4 => omega
      case c5 => simp; omega
      case kk =>
        intro gg cap w2 hown hgrow hat hgl
        have hN2 := HN.out.next hgrow hown
        have fb2 : w2.frozen? ⟨b, 0, none⟩ = false := ((HN.out.hd.alloc _).grown hgrow (fun e => by have := HN.out.own.lt b e; omega)).free 0
        have cb2 := ((HN.out.hd.alloc _).grown hgrow (fun e => by have := HN.out.own.lt b e; omega)).cell (k := 0) rfl
        have HN2 := Lib.hid hN2
        clear hown hgrow hat hN2 c0 fb HN
        go_wp2
        go_roundw
        case rel => exact ⟨j + 1, by omega, by go_num, _, _, HN2.out⟩
        case measure => simp [intOf]; omega
    · have e : j = n := by omega
      subst e
      have hlt' : ¬ (j : Int) < 16 := by omega
      have HD := Lib.hid (hN.done h0 h16)
      clear hN
      go_wp2
      go_ret
      obtain ⟨g, cap, tl, h1, h2, h3⟩ := HD.out
      have hb := HBE.out
      exact ⟨rfl, g, ⟨cap, tl, h1⟩, h2, by omega⟩

set_option maxHeartbeats 4000000 in
theorem rnew_mid (frames : Int) (h1 : ¬ 16 < frames) (h2 : 1 < frames) (n : Nat) (hn : (n : Int) = frames) (h0 : 1 ≤ n) (h16 : n ≤ 16) (w : World) :
    Calls Try.prog 23 #[.int .i64 frames] w fun e w' => e = .returned (.pointer (some ⟨w.heap.size, 0, none⟩)) ∧ ∃ g cap tl, RPool w' w.heap.size g cap tl (List.replicate n szero) 0 ∧ Ext [] w w' ∧ w.heap.size ≤ g := by
  obtain ⟨i0, hi, hz0, hz1, hz2⟩ := info_parts Try.info76
  have hst : RN w w.heap.size (w.alloc (.cells #[.slice none 0 0, .int .i64 0] 74)) none 0 0 := ⟨Blk.new w 74 [.slice none 0 0, .int .i64 0], World.ownsRow_nil _ _ _ _, (Ext.refl _ _).alloc _, Nat.le_refl _⟩
  generalize hbe : w.heap.size = b at *
  have HB := Lib.hid hst
  have HBE := Lib.hid hbe
  go_enter Try.func23, Try.ntmps23
  go_wp2
  clear hst hbe
  go_loopw [4] (fun i wr => ∃ j : Nat, j ≤ n ∧ i = .int .i64 j ∧ ∃ A c, RN w b wr A c j) (fun i _ => n - (intOf i).toNat)
  case atStart => exact ⟨0, Nat.zero_le _, rfl, none, 0, HB.out⟩
  case round =>
    clear HB
    obtain ⟨j, hj, rfl, A, c, hN⟩ := hrel
    by_cases hlt : j < n
    · have c0 := hN.hd.cell (k := 0) rfl
      have fb := hN.hd.free 0
      have hlt' : (j : Int) < frames := by omega
      have hsz : b + 1 ≤ wr.heap.size := hN.hd.lt
      have HN := Lib.hid hN
      clear hN
      go_wp2_with (at_builtin; refine wpList_append_lies _ rfl (.tmp 18) (.tmp 20) 72 rfl (b + 1) 76 i0 (.agg #[.int .i64 0, .string ByteArray.empty, .bool false, .int .i64 0, .bool false, .int .u64 0]) 6 56 Try.underlying72 hi hz0 hz1 hz2 rfl (by decide) _ _ _ rfl (own_ext HN.out.own ((Ext.refl [] _).alloc _) (by simp)) _ 1 1 [.int .i64 (-1), .string ByteArray.empty, .bool false, .int .i64 0, .bool false, .int .u64 0] rfl rfl ?c1 ?c2 (by omega) ?c3 ?c4 ?c5 _ rfl ?kk)
      case c1 =>
        intro i u hu
        match i, hu with
        | 0, hu => simp at hu; subst hu; simp [Addr.add]
        | 1, hu => simp at hu; subst hu; simp [Addr.add]; rfl
        | 2, hu => simp at hu; subst hu; simp [Addr.add]
        | 3, hu => simp at hu; subst hu; simp [Addr.add]
        | 4, hu => simp at hu; subst hu; simp [Addr.add]
        | 5, hu => simp at hu; subst hu; simp [Addr.add]
      case c2 => intro u hu; simp at hu; rcases hu with rfl | rfl | rfl | rfl | rfl | rfl <;> rfl
      case c3 => unfold maxLen; omega
      case c4 => omega
      case c5 => simp; omega
      case kk =>
        intro gg cap w2 hown hgrow hat hgl
        have hN2 := HN.out.next hgrow hown
        have fb2 : w2.frozen? ⟨b, 0, none⟩ = false := ((HN.out.hd.alloc _).grown hgrow (fun e => by have := HN.out.own.lt b e; omega)).free 0
        have cb2 := ((HN.out.hd.alloc _).grown hgrow (fun e => by have := HN.out.own.lt b e; omega)).cell (k := 0) rfl
        have HN2 := Lib.hid hN2
        clear hown hgrow hat hN2 c0 fb HN
        go_wp2
        go_roundw
        case rel => exact ⟨j + 1, by omega, by go_num, _, _, HN2.out⟩
        case measure => simp [intOf]; omega
    · have e : j = n := by omega
      subst e
      have hlt' : ¬ (j : Int) < frames := by omega
      have HD := Lib.hid (hN.done h0 h16)
      clear hN
      go_wp2
      go_ret
      obtain ⟨g, cap, tl, h1, h2, h3⟩ := HD.out
      have hb := HBE.out
      exact ⟨rfl, g, ⟨cap, tl, h1⟩, h2, by omega⟩

set_option maxHeartbeats 4000000 in
theorem rnew_low (frames : Int) (h1 : ¬ 16 < frames) (h2 : ¬ 1 < frames) (n : Nat) (hn : (n : Int) = 1) (h0 : 1 ≤ n) (h16 : n ≤ 16) (w : World) :
    Calls Try.prog 23 #[.int .i64 frames] w fun e w' => e = .returned (.pointer (some ⟨w.heap.size, 0, none⟩)) ∧ ∃ g cap tl, RPool w' w.heap.size g cap tl (List.replicate n szero) 0 ∧ Ext [] w w' ∧ w.heap.size ≤ g := by
  obtain ⟨i0, hi, hz0, hz1, hz2⟩ := info_parts Try.info76
  have hst : RN w w.heap.size (w.alloc (.cells #[.slice none 0 0, .int .i64 0] 74)) none 0 0 := ⟨Blk.new w 74 [.slice none 0 0, .int .i64 0], World.ownsRow_nil _ _ _ _, (Ext.refl _ _).alloc _, Nat.le_refl _⟩
  generalize hbe : w.heap.size = b at *
  have HB := Lib.hid hst
  have HBE := Lib.hid hbe
  go_enter Try.func23, Try.ntmps23
  go_wp2
  clear hst hbe
  go_loopw [4] (fun i wr => ∃ j : Nat, j ≤ n ∧ i = .int .i64 j ∧ ∃ A c, RN w b wr A c j) (fun i _ => n - (intOf i).toNat)
  case atStart => exact ⟨0, Nat.zero_le _, rfl, none, 0, HB.out⟩
  case round =>
    clear HB
    obtain ⟨j, hj, rfl, A, c, hN⟩ := hrel
    by_cases hlt : j < n
    · have c0 := hN.hd.cell (k := 0) rfl
      have fb := hN.hd.free 0
      have hlt' : (j : Int) < 1 := by omega
      have hsz : b + 1 ≤ wr.heap.size := hN.hd.lt
      have HN := Lib.hid hN
      clear hN
      go_wp2_with (at_builtin; refine wpList_append_lies _ rfl (.tmp 18) (.tmp 20) 72 rfl (b + 1) 76 i0 (.agg #[.int .i64 0, .string ByteArray.empty, .bool false, .int .i64 0, .bool false, .int .u64 0]) 6 56 Try.underlying72 hi hz0 hz1 hz2 rfl (by decide) _ _ _ rfl (own_ext HN.out.own ((Ext.refl [] _).alloc _) (by simp)) _ 1 1 [.int .i64 (-1), .string ByteArray.empty, .bool false, .int .i64 0, .bool false, .int .u64 0] rfl rfl ?c1 ?c2 (by omega) ?c3 ?c4 ?c5 _ rfl ?kk)
      case c1 =>
        intro i u hu
        match i, hu with
        | 0, hu => simp at hu; subst hu; simp [Addr.add]
        | 1, hu => simp at hu; subst hu; simp [Addr.add]; rfl
        | 2, hu => simp at hu; subst hu; simp [Addr.add]
        | 3, hu => simp at hu; subst hu; simp [Addr.add]
        | 4, hu => simp at hu; subst hu; simp [Addr.add]
        | 5, hu => simp at hu; subst hu; simp [Addr.add]
      case c2 => intro u hu; simp at hu; rcases hu with rfl | rfl | rfl | rfl | rfl | rfl <;> rfl
      case c3 => unfold maxLen; omega
      case c4 => omega
      case c5 => simp; omega
      case kk =>
        intro gg cap w2 hown hgrow hat hgl
        have hN2 := HN.out.next hgrow hown
        have fb2 : w2.frozen? ⟨b, 0, none⟩ = false := ((HN.out.hd.alloc _).grown hgrow (fun e => by have := HN.out.own.lt b e; omega)).free 0
        have cb2 := ((HN.out.hd.alloc _).grown hgrow (fun e => by have := HN.out.own.lt b e; omega)).cell (k := 0) rfl
        have HN2 := Lib.hid hN2
        clear hown hgrow hat hN2 c0 fb HN
        go_wp2
        go_roundw
        case rel => exact ⟨j + 1, by omega, by go_num, _, _, HN2.out⟩
        case measure => simp [intOf]; omega
    · have e : j = n := by omega
      subst e
      have hlt' : ¬ (j : Int) < 1 := by omega
      have HD := Lib.hid (hN.done h0 h16)
      clear hN
      go_wp2
      go_ret
      obtain ⟨g, cap, tl, h1, h2, h3⟩ := HD.out
      have hb := HBE.out
      exact ⟨rfl, g, ⟨cap, tl, h1⟩, h2, by omega⟩

theorem rnew_any (frames : Int) (w : World) :
    Calls Try.prog 23 #[.int .i64 frames] w fun e w' => e = .returned (.pointer (some ⟨w.heap.size, 0, none⟩)) ∧ ∃ g cap tl, RPool w' w.heap.size g cap tl (List.replicate (many frames).toNat szero) 0 ∧ Ext [] w w' ∧ w.heap.size ≤ g := by
  by_cases h1 : 16 < frames
  · have hm : many frames = 16 := by unfold many; omega
    exact rnew_much frames h1 _ (by rw [hm]; rfl) (by rw [hm]; decide) (by rw [hm]; decide) w
  · by_cases h2 : 1 < frames
    · have hm : many frames = frames := by unfold many; omega
      exact rnew_mid frames h1 h2 _ (by rw [hm]; omega) (by rw [hm]; omega) (by rw [hm]; omega) w
    · have hm : many frames = 1 := by unfold many; omega
      exact rnew_low frames h1 h2 _ (by rw [hm]; rfl) (by rw [hm]; decide) (by rw [hm]; decide) w

end Go.Proofs.Ytkdmilchklmefaa
