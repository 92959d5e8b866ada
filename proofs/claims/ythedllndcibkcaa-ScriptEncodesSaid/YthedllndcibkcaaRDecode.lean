/- The document's Decode. -/
import Derived.Test.YthedllndcibkcaaREntry
import Derived.Test.YthedllndcibkcaaDecode
namespace Go.Proofs.Ythedllndcibkcaa
open Go.RowKit
set_option linter.unusedVariables false
set_option linter.unusedSimpArgs false

theorem info39 : (Try.prog.info? 39).map (fun i => (i.zero, i.size, i.bytes)) = some (some (.agg #[.int .i64 0, .int .i64 0, .int .i64 0, .int .i64 0, .int .i64 0, .int .i64 0, .int .i64 0, .int .i64 0, .string ByteArray.empty]), 9, 80) := by kernel_rfl

structure RLp (w wr : World) (S : List Value) (v : Value) (out : List St) : Prop where
  own : wr.ownsRow (w.heap.size + 2) 39 9 v out.length (encs St.cells out)
  hS : Blk wr (w.heap.size + 1) 30 S
  hz : Blk wr w.heap.size 30 zeroS
  ext : Ext [] w wr
  size : w.heap.size + 2 ≤ wr.heap.size
theorem RLp.go {w wr w3 : World} {S : List Value} {v : Value} {out : List St} (h : RLp w wr S v out) (e : Ext [] wr w3) : RLp w w3 S v out :=
  ⟨own_ext h.own e (by simp), h.hS.ext e (by simp), h.hz.ext e (by simp), h.ext.trans e, by have := e.size; have := h.size; omega⟩
theorem RLp.app {w wr w5 : World} {S : List Value} {v : Value} {out : List St} (h : RLp w wr S v out) (C : Array Value) {gg cap : Nat} {x : St} (hown : w5.ownsRow (w.heap.size + 2) 39 9 (.slice (some ⟨gg, 0, none⟩) (out.length + 1) cap) (out.length + 1) (encs St.cells out ++ x.cells)) (hg : (wr.alloc (.cells C 39)).grownBy w5 v.ownBlock) :
    RLp w w5 S (.slice (some ⟨gg, 0, none⟩) (out.length + 1) cap) (out ++ [x]) := by
  have hs := h.size
  have e : Ext v.ownBlock.toList wr w5 := ((Ext.refl _ wr).alloc _).grown hg (fun k hk _ => by simp [hk])
  have hb : ∀ k ∈ v.ownBlock.toList, w.heap.size + 2 ≤ k := fun k hk => by
    have := h.own.lt k (by simpa using hk)
    exact this.1
  have far : ∀ g, g < w.heap.size + 2 → g ∉ v.ownBlock.toList := fun g h1 hg => by have := hb g hg; omega
  exact ⟨by rw [encs_snoc]; simpa using hown, h.hS.ext e (far _ (by omega)), h.hz.ext e (far _ (by omega)), h.ext.new e (fun k hk => by right; have := hb k hk; omega), by have := e.size; omega⟩

def RDecPost (w : World) (T : List Int) (e : Ending) (w' : World) : Prop :=
  ∃ A c, e = .returned (.tuple #[.agg (setupV T).toArray, .slice A (dec (T.drop 5)).length c]) ∧ w'.ownsRow w.heap.size 39 9 (.slice A (dec (T.drop 5)).length c) (dec (T.drop 5)).length (encs St.cells (dec (T.drop 5))) ∧ Ext [] w w'
theorem rdec_post {w w5 w' : World} {T : List Int} {S : List Value} {out : List St} {A : Option Addr} {c : Nat} (h1 : setupV T = S) (hd : dec (T.drop 5) = out) (ho : w5.ownsRow (w.heap.size + 1) 39 9 (.slice A out.length c) out.length (encs St.cells out)) (he : Ext [w.heap.size] w5 w') (hx : Ext [] w w') :
    RDecPost w T (.returned (.tuple #[.agg S.toArray, .slice A out.length c])) w' := by
  subst hd h1
  exact ⟨A, c, rfl, own_more (own_ext ho he (by intro k hk; simp at hk; omega)) (by omega), hx⟩

theorem form_some (k : Int) (h : kindB k = true) : (formS k).toList.isEmpty = false := by
  have hk := (kindB_iff k).1 h
  have hk2 : k = 1 ∨ k = 2 ∨ k = 3 ∨ k = 4 ∨ k = 5 ∨ k = 6 ∨ k = 7 ∨ k = 8 ∨ k = 9 ∨ k = 10 ∨ k = 11 ∨ k = 12 ∨ k = 13 ∨ k = 14 ∨ k = 15 ∨ k = 16 ∨ k = 17 ∨ k = 18 ∨ k = 19 := by omega
  have e : (formS k).toList = formL k := ByteArray.toList_mk _
  rw [e]
  rcases hk2 with rfl | rfl | rfl | rfl | rfl | rfl | rfl | rfl | rfl | rfl | rfl | rfl | rfl | rfl | rfl | rfl | rfl | rfl | rfl <;> rfl
theorem entry_over (w : World) (b : ByteArray) (hl : b.size ≤ 1000000) (i : Nat) (hi : i < b.size) (k : Int) (hk : (b[i].toNat : Int) = k) (hkb : kindB k = true) (ho : (entryS k ((nums b).drop (i + 1))).2.2 = true) :
    Calls Try.prog 20 #[.string b, .int .i64 i] w fun e w' => e = .returned (.tuple #[.agg (st0 0).cells.toArray, .int .i64 0, .bool false]) ∧ Ext [] w w' := by
  have hkr := (kindB_iff k).1 hkb
  refine (rentry_any w b hl i hi k hk).mono fun e w' h => ?_
  rw [entry_rrun k hkr.1 hkr.2 _ (fun x hx => nums_range b x (List.mem_of_mem_drop hx)), ho] at h
  exact ⟨h.2, h.1⟩
theorem entry_done (w : World) (b : ByteArray) (hl : b.size ≤ 1000000) (i : Nat) (hi : i < b.size) (k : Int) (hk : (b[i].toNat : Int) = k) (hkb : kindB k = true) (s : St) (r : List Int) (ho : entryS k ((nums b).drop (i + 1)) = (s, r, false)) :
    Calls Try.prog 20 #[.string b, .int .i64 i] w fun e w' => ∃ i2 : Nat, e = .returned (.tuple #[.agg s.cells.toArray, .int .i64 i2, .bool true]) ∧ i < i2 ∧ i2 ≤ b.size ∧ r = (nums b).drop i2 ∧ Ext [] w w' := by
  have hkr := (kindB_iff k).1 hkb
  refine (rentry_any w b hl i hi k hk).mono fun e w' h => ?_
  rw [entry_rrun k hkr.1 hkr.2 _ (fun x hx => nums_range b x (List.mem_of_mem_drop hx)), ho] at h
  obtain ⟨h1, i2, h2, h3, h4, h5⟩ := h
  exact ⟨i2, h5, h2, h3, h4, h1⟩

set_option maxHeartbeats 40000000 in
set_option maxRecDepth 100000 in
theorem rdecode_any (w : World) (b : ByteArray) (hl : b.size ≤ 1000000) : Calls Try.prog 7 #[.string b] w (RDecPost w ((nums b).take 4096)) := by
  by_cases hsz : 4096 < b.size
  · have hT : nums (b.extract 0 4096) = (nums b).take 4096 := nums_extract0 b 4096
    have hl' : (b.extract 0 4096).size ≤ 4096 := by rw [← nums_length, hT, List.length_take]; omega
    rw [← hT]
    clear hT
    go_enter Try.func7, Try.ntmps7
    go_wp2_with (go_at_call 18; fail)
    generalize b.extract 0 4096 = b' at *
    have hlb : b'.size ≤ 1000000 := by omega
    have HR := Lib.hid (nums_range b')
    have r0 := getD_range HR.out 0
    have r1 := getD_range HR.out 1
    have r2 := getD_range HR.out 2
    have r3 := getD_range HR.out 3
    have r4 := getD_range HR.out 4
    obtain ⟨S, hS⟩ : ∃ S, setupV (nums b') = S := ⟨_, rfl⟩
    have HSV := Lib.hid hS
    unfold setupV at hS
    have A0 := at_any b' hlb 0
    have A1 := at_any b' hlb 1
    have A2 := at_any b' hlb 2
    have A3 := at_any b' hlb 3
    have A4 := at_any b' hlb 4
    generalize (nums b').getD 0 0 = h0 at *
    generalize (nums b').getD 1 0 = h1 at *
    generalize (nums b').getD 2 0 = h2 at *
    generalize (nums b').getD 3 0 = h3 at *
    generalize (nums b').getD 4 0 = h4 at *
    have B0 := Lib.hid A0
    have B1 := Lib.hid A1
    have B2 := Lib.hid A2
    have B3 := Lib.hid A3
    have B4 := Lib.hid A4
    have HSW := Lib.hid hS
    clear A0 A1 A2 A3 A4 hS
    refine (B0.out _).mono ?_
    rintro e w' ⟨rfl, rfl⟩
    go_wp2_with (go_at_call 18; fail)
    refine (B1.out _).mono ?_
    rintro e w' ⟨rfl, rfl⟩
    go_wp2_with (go_at_call 18; fail)
    refine (B2.out _).mono ?_
    rintro e w' ⟨rfl, rfl⟩
    go_wp2_with (go_at_call 18; fail)
    refine (B3.out _).mono ?_
    rintro e w' ⟨rfl, rfl⟩
    go_wp2_with (go_at_call 18; fail)
    refine (B4.out _).mono ?_
    rintro e w' ⟨rfl, rfl⟩
    obtain ⟨i0, hi, hz0, hz1, hz2⟩ := info_parts info39
    go_wp2
    go_loopw [5, 6] (fun v i wr => ∃ (i' : Nat) (out : List St) (A : Option Addr) (c : Nat), i = .int .i64 i' ∧ v = .slice A out.length c ∧ i' ≤ b'.size + 5 ∧ Hid (dec ((nums b').drop 5) = out ++ dec ((nums b').drop i')) ∧ Hid (RLp w wr [.int .i64 (1 + h0 % 8), .int .i64 (1 + h1 % 32), .int .i64 (1 + h2 % 16), .int .i64 (256 + 255 * h4), .bool (h3 % 2 == 1), .int .u64 0] v out)) (fun _ i _ => b'.size - (intOf i).toNat)
    case atStart =>
      refine ⟨5, [], none, 0, rfl, rfl, by omega, rfl, World.ownsRow_nil _ _ _ _, ?_, ?_, ((Ext.refl _ _).alloc _).alloc _, by simp⟩
      · have := Blk.new (w.alloc (.cells zeroS.toArray 30)) 30 [.int .i64 (1 + h0 % 8), .int .i64 (1 + h1 % 32), .int .i64 (1 + h2 % 16), .int .i64 (256 + 255 * h4), .bool (h3 % 2 == 1), .int .u64 0]
        rw [World.size_alloc] at this
        exact this
      · exact Blk.alloc (Blk.new w 30 zeroS) _
    case round =>
      clear r0 r1 r2 r3 r4
      obtain ⟨i', out, A, c, rfl, rfl, hib, hdec, hlp⟩ := hrel
      have hof : out.length ≤ 4096 := by
        have h1 := congrArg List.length hdec.out
        rw [List.length_append] at h1
        have h2 := dec_le _ ((nums b').drop 5) (Nat.le_refl _)
        rw [List.length_drop, nums_length] at h2
        omega
      by_cases hlt : i' < b'.size
      · have hix := index_run b' i' hlt
        have hdr := nums_drop b' i' hlt
        have hxl := byte_lt b' i' hlt
        obtain ⟨k, hk⟩ : ∃ k : Int, ((b'[i']'hlt).toNat : Int) = k := ⟨_, rfl⟩
        have hk0 : 0 ≤ k ∧ k < 256 := by omega
        rw [hk] at hdr hix
        have HK := Lib.hid hk
        have HDR := Lib.hid hdr
        clear hk hdr hxl
        by_cases hkb : kindB k = true
        · have HKB := Lib.hid hkb
          obtain ⟨F, hF⟩ : ∃ F, formS k = F := ⟨_, rfl⟩
          have hFe : F.toList.isEmpty = false := by rw [← hF]; exact form_some k hkb
          have HF := Lib.hid hF
          clear hkb hF
          by_cases hov : (entryS k ((nums b').drop (i' + 1))).2.2 = true
          · have HOV := Lib.hid hov
            clear hov
            go_wp2_with (first
              | (go_at_call 19; refine (form_is k F HF.out _).mono ?_; rintro e w' ⟨rfl, rfl⟩)
              | (go_at_call 20; fail))
            refine (entry_over _ b' hlb i' hlt k HK.out HKB.out HOV.out).mono ?_
            rintro e w1 ⟨he, e1⟩
            have he' : e = .returned (.tuple #[.agg #[.int .i64 0, .int .i64 0, .int .i64 0, .int .i64 0, .int .i64 0, .int .i64 0, .int .i64 0, .int .i64 0, .string ⟨#[]⟩], .int .i64 0, .bool false]) := he
            subst he'
            have L1 := Lib.hid (hlp.out.go e1)
            have hs1 := L1.out.size
            have L2 := Lib.hid (L1.out.go ((Ext.refl [] w1).alloc (.cells #[.int .i64 0, .int .i64 0, .int .i64 0, .int .i64 0, .int .i64 0, .int .i64 0, .int .i64 0, .int .i64 0, .string ⟨#[]⟩] 39)))
            clear he e1
            have d0 := L2.out.hS.cell (k := 0) rfl
            have d1 := L2.out.hS.cell (k := 1) rfl
            have d2 := L2.out.hS.cell (k := 2) rfl
            have d3 := L2.out.hS.cell (k := 3) rfl
            have d4 := L2.out.hS.cell (k := 4) rfl
            have d5 := L2.out.hS.cell (k := 5) rfl
            have z0 := L2.out.hz.cell (k := 0) rfl
            have z1 := L2.out.hz.cell (k := 1) rfl
            have z2 := L2.out.hz.cell (k := 2) rfl
            have z3 := L2.out.hz.cell (k := 3) rfl
            have z4 := L2.out.hz.cell (k := 4) rfl
            have z5 := L2.out.hz.cell (k := 5) rfl
            have f0 := L2.out.hz.free 0
            have f1 := L2.out.hz.free 1
            have f2 := L2.out.hz.free 2
            have f3 := L2.out.hz.free 3
            have f4 := L2.out.hz.free 4
            have f5 := L2.out.hz.free 5
            have HD : Hid (dec ((nums b').drop 5) = out) := by have h := hdec.out; rw [show dec ((nums b').drop i') = [] from by rw [HDR.out]; exact dec_over HKB.out HOV.out, List.append_nil] at h; exact h
            go_wp2
            refine bodyPost_ret (v := .tuple #[.agg #[.int .i64 (1 + h0 % 8), .int .i64 (1 + h1 % 32), .int .i64 (1 + h2 % 16), .int .i64 (256 + 255 * h4), .bool (h3 % 2 == 1), .int .u64 0], .slice A out.length c]) (by simp [results, Try.results7, go_sem, *]) rfl ?_
            refine rdec_post (HSV.out.trans HSW.out.symm) HD.out (own_more L2.out.own (by omega)) ?_ ?_
            rotate_left
            · exact (((((L2.out.ext.setCell (.inr (by simp)) _).setCell (.inr (by simp)) _).setCell (.inr (by simp)) _).setCell (.inr (by simp)) _).setCell (.inr (by simp)) _).setCell (.inr (by simp)) _
            · exact ((((((Ext.refl [w.heap.size] _).setCell (.inl (by simp)) _).setCell (.inl (by simp)) _).setCell (.inl (by simp)) _).setCell (.inl (by simp)) _).setCell (.inl (by simp)) _).setCell (.inl (by simp)) _
          · obtain ⟨q, hq⟩ : ∃ q, entryS k ((nums b').drop (i' + 1)) = q := ⟨_, rfl⟩
            rw [hq] at hov
            obtain ⟨⟨sk, sn, st_, sp, ss, so, sc, sm, sv⟩, r, o⟩ := q
            simp only [Bool.not_eq_true] at hov
            subst hov
            have HQ := Lib.hid hq
            clear hq
            go_wp2_with (first
              | (go_at_call 19; refine (form_is k F HF.out _).mono ?_; rintro e w' ⟨rfl, rfl⟩)
              | (go_at_call 20; fail))
            refine (entry_done _ b' hlb i' hlt k HK.out HKB.out (St.mk sk sn st_ sp ss so sc sm sv) r HQ.out).mono ?_
            rintro e w1 ⟨i2, he, hi2, hi2b, hr, e1⟩
            have he' : e = .returned (.tuple #[.agg #[.int .i64 sk, .int .i64 sn, .int .i64 st_, .int .i64 sp, .int .i64 ss, .int .i64 so, .int .i64 sc, .int .i64 sm, .string sv], .int .i64 i2, .bool true]) := he
            subst he'
            have L1 := Lib.hid (hlp.out.go e1)
            have L2 := Lib.hid (L1.out.go ((Ext.refl [] w1).alloc (.cells #[.int .i64 sk, .int .i64 sn, .int .i64 st_, .int .i64 sp, .int .i64 ss, .int .i64 so, .int .i64 sc, .int .i64 sm, .string sv] 39)))
            have hs1 := L1.out.size
            have HR2 := Lib.hid hr
            clear he e1 hr
            go_wp2_with (at_builtin; refine wpList_append_lies _ rfl (.tmp 57) (.tmp 59) 31 rfl (w.heap.size + 2) 39 i0 (.agg #[.int .i64 0, .int .i64 0, .int .i64 0, .int .i64 0, .int .i64 0, .int .i64 0, .int .i64 0, .int .i64 0, .string ByteArray.empty]) 9 80 Try.underlying31 hi hz0 hz1 hz2 rfl (by decide) _ _ _ rfl (L2.out.own.alloc _) _ 1 1 (St.mk sk sn st_ sp ss so sc sm sv).cells rfl rfl ?c1 ?c2 (by omega) ?c3 ?c4 ?c5 _ rfl ?kk)
            case c1 =>
              intro i u hu
              match i, hu with
              | 0, hu => simp [St.cells] at hu; subst hu; simp [Addr.add]; try (rw [World.cell?_alloc_at (hn := by simp)]; rfl)
              | 1, hu => simp [St.cells] at hu; subst hu; simp [Addr.add]; try (rw [World.cell?_alloc_at (hn := by simp)]; rfl)
              | 2, hu => simp [St.cells] at hu; subst hu; simp [Addr.add]; try (rw [World.cell?_alloc_at (hn := by simp)]; rfl)
              | 3, hu => simp [St.cells] at hu; subst hu; simp [Addr.add]; try (rw [World.cell?_alloc_at (hn := by simp)]; rfl)
              | 4, hu => simp [St.cells] at hu; subst hu; simp [Addr.add]; try (rw [World.cell?_alloc_at (hn := by simp)]; rfl)
              | 5, hu => simp [St.cells] at hu; subst hu; simp [Addr.add]; try (rw [World.cell?_alloc_at (hn := by simp)]; rfl)
              | 6, hu => simp [St.cells] at hu; subst hu; simp [Addr.add]; try (rw [World.cell?_alloc_at (hn := by simp)]; rfl)
              | 7, hu => simp [St.cells] at hu; subst hu; simp [Addr.add]; try (rw [World.cell?_alloc_at (hn := by simp)]; rfl)
              | 8, hu => simp [St.cells] at hu; subst hu; simp [Addr.add]; try (rw [World.cell?_alloc_at (hn := by simp)]; rfl)
            case c2 => exact St.cells_one _
            case c3 => unfold maxLen; omega
            case c4 => omega
            case c5 => simp; omega
            case kk =>
              intro gg capn w6 hown hgrow hat hgl
              have L6 := Lib.hid (L2.out.app _ hown hgrow)
              clear hown hgrow hat
              go_wp2
              go_roundw
              case rel => exact ⟨i2, out ++ [St.mk sk sn st_ sp ss so sc sm sv], some ⟨gg, 0, none⟩, capn, rfl, by simp, by omega, by have h := hdec.out; rw [HDR.out, dec_step HKB.out (by rw [HQ.out]), HQ.out] at h; unfold Hid; rw [← HR2.out]; simpa using h, L6.out⟩
              case measure => simp [intOf]; omega
        · have hkf : kindB k = false := by simpa using hkb
          have HKF := Lib.hid hkf
          have hF0 : formS k = ⟨#[]⟩ := by unfold formS; rw [formL_none k hkf]
          have HF := Lib.hid hF0
          clear hkb hkf hF0
          go_wp2_with (go_at_call 19; refine (form_is k ⟨#[]⟩ HF.out _).mono ?_; rintro e w' ⟨rfl, rfl⟩)
          go_roundw
          case rel => exact ⟨i' + 1, out, A, c, by go_num, rfl, by omega, by have h := hdec.out; rw [HDR.out, dec_odd HKF.out] at h; exact h, hlp.out⟩
          case measure => simp [intOf]; omega
      · have hge : b'.size ≤ i' := by omega
        have d0 := hlp.out.hS.cell (k := 0) rfl
        have d1 := hlp.out.hS.cell (k := 1) rfl
        have d2 := hlp.out.hS.cell (k := 2) rfl
        have d3 := hlp.out.hS.cell (k := 3) rfl
        have d4 := hlp.out.hS.cell (k := 4) rfl
        have d5 := hlp.out.hS.cell (k := 5) rfl
        have z0 := hlp.out.hz.cell (k := 0) rfl
        have z1 := hlp.out.hz.cell (k := 1) rfl
        have z2 := hlp.out.hz.cell (k := 2) rfl
        have z3 := hlp.out.hz.cell (k := 3) rfl
        have z4 := hlp.out.hz.cell (k := 4) rfl
        have z5 := hlp.out.hz.cell (k := 5) rfl
        have f0 := hlp.out.hz.free 0
        have f1 := hlp.out.hz.free 1
        have f2 := hlp.out.hz.free 2
        have f3 := hlp.out.hz.free 3
        have f4 := hlp.out.hz.free 4
        have f5 := hlp.out.hz.free 5
        have HD : Hid (dec ((nums b').drop 5) = out) := by have h := hdec.out; rw [show dec ((nums b').drop i') = [] from by rw [nums_drop_nil b' i' hge]; exact dec_nil, List.append_nil] at h; exact h
        go_wp2
        refine bodyPost_ret (v := .tuple #[.agg #[.int .i64 (1 + h0 % 8), .int .i64 (1 + h1 % 32), .int .i64 (1 + h2 % 16), .int .i64 (256 + 255 * h4), .bool (h3 % 2 == 1), .int .u64 0], .slice A out.length c]) (by simp [results, Try.results7, go_sem, *]) rfl ?_
        refine rdec_post (HSV.out.trans HSW.out.symm) HD.out (own_more hlp.out.own (by omega)) ?_ ?_
        rotate_left
        · exact (((((hlp.out.ext.setCell (.inr (by simp)) _).setCell (.inr (by simp)) _).setCell (.inr (by simp)) _).setCell (.inr (by simp)) _).setCell (.inr (by simp)) _).setCell (.inr (by simp)) _
        · exact ((((((Ext.refl [w.heap.size] _).setCell (.inl (by simp)) _).setCell (.inl (by simp)) _).setCell (.inl (by simp)) _).setCell (.inl (by simp)) _).setCell (.inl (by simp)) _).setCell (.inl (by simp)) _
  · have hT : (nums b).take 4096 = nums b := List.take_of_length_le (by rw [nums_length]; omega)
    rw [hT]
    have hl' : b.size ≤ 4096 := by omega
    have hsz2 : ¬ ((4096 : Int) < (b.size : Int)) := by omega
    clear hT
    go_enter Try.func7, Try.ntmps7
    go_wp2_with (go_at_call 18; fail)
    clear hsz hsz2
    obtain ⟨b', rfl⟩ : ∃ b', b' = b := ⟨_, rfl⟩
    have hlb : b'.size ≤ 1000000 := by omega
    have HR := Lib.hid (nums_range b')
    have r0 := getD_range HR.out 0
    have r1 := getD_range HR.out 1
    have r2 := getD_range HR.out 2
    have r3 := getD_range HR.out 3
    have r4 := getD_range HR.out 4
    obtain ⟨S, hS⟩ : ∃ S, setupV (nums b') = S := ⟨_, rfl⟩
    have HSV := Lib.hid hS
    unfold setupV at hS
    have A0 := at_any b' hlb 0
    have A1 := at_any b' hlb 1
    have A2 := at_any b' hlb 2
    have A3 := at_any b' hlb 3
    have A4 := at_any b' hlb 4
    generalize (nums b').getD 0 0 = h0 at *
    generalize (nums b').getD 1 0 = h1 at *
    generalize (nums b').getD 2 0 = h2 at *
    generalize (nums b').getD 3 0 = h3 at *
    generalize (nums b').getD 4 0 = h4 at *
    have B0 := Lib.hid A0
    have B1 := Lib.hid A1
    have B2 := Lib.hid A2
    have B3 := Lib.hid A3
    have B4 := Lib.hid A4
    have HSW := Lib.hid hS
    clear A0 A1 A2 A3 A4 hS
    refine (B0.out _).mono ?_
    rintro e w' ⟨rfl, rfl⟩
    go_wp2_with (go_at_call 18; fail)
    refine (B1.out _).mono ?_
    rintro e w' ⟨rfl, rfl⟩
    go_wp2_with (go_at_call 18; fail)
    refine (B2.out _).mono ?_
    rintro e w' ⟨rfl, rfl⟩
    go_wp2_with (go_at_call 18; fail)
    refine (B3.out _).mono ?_
    rintro e w' ⟨rfl, rfl⟩
    go_wp2_with (go_at_call 18; fail)
    refine (B4.out _).mono ?_
    rintro e w' ⟨rfl, rfl⟩
    obtain ⟨i0, hi, hz0, hz1, hz2⟩ := info_parts info39
    go_wp2
    go_loopw [5, 6] (fun v i wr => ∃ (i' : Nat) (out : List St) (A : Option Addr) (c : Nat), i = .int .i64 i' ∧ v = .slice A out.length c ∧ i' ≤ b'.size + 5 ∧ Hid (dec ((nums b').drop 5) = out ++ dec ((nums b').drop i')) ∧ Hid (RLp w wr [.int .i64 (1 + h0 % 8), .int .i64 (1 + h1 % 32), .int .i64 (1 + h2 % 16), .int .i64 (256 + 255 * h4), .bool (h3 % 2 == 1), .int .u64 0] v out)) (fun _ i _ => b'.size - (intOf i).toNat)
    case atStart =>
      refine ⟨5, [], none, 0, rfl, rfl, by omega, rfl, World.ownsRow_nil _ _ _ _, ?_, ?_, ((Ext.refl _ _).alloc _).alloc _, by simp⟩
      · have := Blk.new (w.alloc (.cells zeroS.toArray 30)) 30 [.int .i64 (1 + h0 % 8), .int .i64 (1 + h1 % 32), .int .i64 (1 + h2 % 16), .int .i64 (256 + 255 * h4), .bool (h3 % 2 == 1), .int .u64 0]
        rw [World.size_alloc] at this
        exact this
      · exact Blk.alloc (Blk.new w 30 zeroS) _
    case round =>
      clear r0 r1 r2 r3 r4
      obtain ⟨i', out, A, c, rfl, rfl, hib, hdec, hlp⟩ := hrel
      have hof : out.length ≤ 4096 := by
        have h1 := congrArg List.length hdec.out
        rw [List.length_append] at h1
        have h2 := dec_le _ ((nums b').drop 5) (Nat.le_refl _)
        rw [List.length_drop, nums_length] at h2
        omega
      by_cases hlt : i' < b'.size
      · have hix := index_run b' i' hlt
        have hdr := nums_drop b' i' hlt
        have hxl := byte_lt b' i' hlt
        obtain ⟨k, hk⟩ : ∃ k : Int, ((b'[i']'hlt).toNat : Int) = k := ⟨_, rfl⟩
        have hk0 : 0 ≤ k ∧ k < 256 := by omega
        rw [hk] at hdr hix
        have HK := Lib.hid hk
        have HDR := Lib.hid hdr
        clear hk hdr hxl
        by_cases hkb : kindB k = true
        · have HKB := Lib.hid hkb
          obtain ⟨F, hF⟩ : ∃ F, formS k = F := ⟨_, rfl⟩
          have hFe : F.toList.isEmpty = false := by rw [← hF]; exact form_some k hkb
          have HF := Lib.hid hF
          clear hkb hF
          by_cases hov : (entryS k ((nums b').drop (i' + 1))).2.2 = true
          · have HOV := Lib.hid hov
            clear hov
            go_wp2_with (first
              | (go_at_call 19; refine (form_is k F HF.out _).mono ?_; rintro e w' ⟨rfl, rfl⟩)
              | (go_at_call 20; fail))
            refine (entry_over _ b' hlb i' hlt k HK.out HKB.out HOV.out).mono ?_
            rintro e w1 ⟨he, e1⟩
            have he' : e = .returned (.tuple #[.agg #[.int .i64 0, .int .i64 0, .int .i64 0, .int .i64 0, .int .i64 0, .int .i64 0, .int .i64 0, .int .i64 0, .string ⟨#[]⟩], .int .i64 0, .bool false]) := he
            subst he'
            have L1 := Lib.hid (hlp.out.go e1)
            have hs1 := L1.out.size
            have L2 := Lib.hid (L1.out.go ((Ext.refl [] w1).alloc (.cells #[.int .i64 0, .int .i64 0, .int .i64 0, .int .i64 0, .int .i64 0, .int .i64 0, .int .i64 0, .int .i64 0, .string ⟨#[]⟩] 39)))
            clear he e1
            have d0 := L2.out.hS.cell (k := 0) rfl
            have d1 := L2.out.hS.cell (k := 1) rfl
            have d2 := L2.out.hS.cell (k := 2) rfl
            have d3 := L2.out.hS.cell (k := 3) rfl
            have d4 := L2.out.hS.cell (k := 4) rfl
            have d5 := L2.out.hS.cell (k := 5) rfl
            have z0 := L2.out.hz.cell (k := 0) rfl
            have z1 := L2.out.hz.cell (k := 1) rfl
            have z2 := L2.out.hz.cell (k := 2) rfl
            have z3 := L2.out.hz.cell (k := 3) rfl
            have z4 := L2.out.hz.cell (k := 4) rfl
            have z5 := L2.out.hz.cell (k := 5) rfl
            have f0 := L2.out.hz.free 0
            have f1 := L2.out.hz.free 1
            have f2 := L2.out.hz.free 2
            have f3 := L2.out.hz.free 3
            have f4 := L2.out.hz.free 4
            have f5 := L2.out.hz.free 5
            have HD : Hid (dec ((nums b').drop 5) = out) := by have h := hdec.out; rw [show dec ((nums b').drop i') = [] from by rw [HDR.out]; exact dec_over HKB.out HOV.out, List.append_nil] at h; exact h
            go_wp2
            refine bodyPost_ret (v := .tuple #[.agg #[.int .i64 (1 + h0 % 8), .int .i64 (1 + h1 % 32), .int .i64 (1 + h2 % 16), .int .i64 (256 + 255 * h4), .bool (h3 % 2 == 1), .int .u64 0], .slice A out.length c]) (by simp [results, Try.results7, go_sem, *]) rfl ?_
            refine rdec_post (HSV.out.trans HSW.out.symm) HD.out (own_more L2.out.own (by omega)) ?_ ?_
            rotate_left
            · exact (((((L2.out.ext.setCell (.inr (by simp)) _).setCell (.inr (by simp)) _).setCell (.inr (by simp)) _).setCell (.inr (by simp)) _).setCell (.inr (by simp)) _).setCell (.inr (by simp)) _
            · exact ((((((Ext.refl [w.heap.size] _).setCell (.inl (by simp)) _).setCell (.inl (by simp)) _).setCell (.inl (by simp)) _).setCell (.inl (by simp)) _).setCell (.inl (by simp)) _).setCell (.inl (by simp)) _
          · obtain ⟨q, hq⟩ : ∃ q, entryS k ((nums b').drop (i' + 1)) = q := ⟨_, rfl⟩
            rw [hq] at hov
            obtain ⟨⟨sk, sn, st_, sp, ss, so, sc, sm, sv⟩, r, o⟩ := q
            simp only [Bool.not_eq_true] at hov
            subst hov
            have HQ := Lib.hid hq
            clear hq
            go_wp2_with (first
              | (go_at_call 19; refine (form_is k F HF.out _).mono ?_; rintro e w' ⟨rfl, rfl⟩)
              | (go_at_call 20; fail))
            refine (entry_done _ b' hlb i' hlt k HK.out HKB.out (St.mk sk sn st_ sp ss so sc sm sv) r HQ.out).mono ?_
            rintro e w1 ⟨i2, he, hi2, hi2b, hr, e1⟩
            have he' : e = .returned (.tuple #[.agg #[.int .i64 sk, .int .i64 sn, .int .i64 st_, .int .i64 sp, .int .i64 ss, .int .i64 so, .int .i64 sc, .int .i64 sm, .string sv], .int .i64 i2, .bool true]) := he
            subst he'
            have L1 := Lib.hid (hlp.out.go e1)
            have L2 := Lib.hid (L1.out.go ((Ext.refl [] w1).alloc (.cells #[.int .i64 sk, .int .i64 sn, .int .i64 st_, .int .i64 sp, .int .i64 ss, .int .i64 so, .int .i64 sc, .int .i64 sm, .string sv] 39)))
            have hs1 := L1.out.size
            have HR2 := Lib.hid hr
            clear he e1 hr
            go_wp2_with (at_builtin; refine wpList_append_lies _ rfl (.tmp 57) (.tmp 59) 31 rfl (w.heap.size + 2) 39 i0 (.agg #[.int .i64 0, .int .i64 0, .int .i64 0, .int .i64 0, .int .i64 0, .int .i64 0, .int .i64 0, .int .i64 0, .string ByteArray.empty]) 9 80 Try.underlying31 hi hz0 hz1 hz2 rfl (by decide) _ _ _ rfl (L2.out.own.alloc _) _ 1 1 (St.mk sk sn st_ sp ss so sc sm sv).cells rfl rfl ?c1 ?c2 (by omega) ?c3 ?c4 ?c5 _ rfl ?kk)
            case c1 =>
              intro i u hu
              match i, hu with
              | 0, hu => simp [St.cells] at hu; subst hu; simp [Addr.add]; try (rw [World.cell?_alloc_at (hn := by simp)]; rfl)
              | 1, hu => simp [St.cells] at hu; subst hu; simp [Addr.add]; try (rw [World.cell?_alloc_at (hn := by simp)]; rfl)
              | 2, hu => simp [St.cells] at hu; subst hu; simp [Addr.add]; try (rw [World.cell?_alloc_at (hn := by simp)]; rfl)
              | 3, hu => simp [St.cells] at hu; subst hu; simp [Addr.add]; try (rw [World.cell?_alloc_at (hn := by simp)]; rfl)
              | 4, hu => simp [St.cells] at hu; subst hu; simp [Addr.add]; try (rw [World.cell?_alloc_at (hn := by simp)]; rfl)
              | 5, hu => simp [St.cells] at hu; subst hu; simp [Addr.add]; try (rw [World.cell?_alloc_at (hn := by simp)]; rfl)
              | 6, hu => simp [St.cells] at hu; subst hu; simp [Addr.add]; try (rw [World.cell?_alloc_at (hn := by simp)]; rfl)
              | 7, hu => simp [St.cells] at hu; subst hu; simp [Addr.add]; try (rw [World.cell?_alloc_at (hn := by simp)]; rfl)
              | 8, hu => simp [St.cells] at hu; subst hu; simp [Addr.add]; try (rw [World.cell?_alloc_at (hn := by simp)]; rfl)
            case c2 => exact St.cells_one _
            case c3 => unfold maxLen; omega
            case c4 => omega
            case c5 => simp; omega
            case kk =>
              intro gg capn w6 hown hgrow hat hgl
              have L6 := Lib.hid (L2.out.app _ hown hgrow)
              clear hown hgrow hat
              go_wp2
              go_roundw
              case rel => exact ⟨i2, out ++ [St.mk sk sn st_ sp ss so sc sm sv], some ⟨gg, 0, none⟩, capn, rfl, by simp, by omega, by have h := hdec.out; rw [HDR.out, dec_step HKB.out (by rw [HQ.out]), HQ.out] at h; unfold Hid; rw [← HR2.out]; simpa using h, L6.out⟩
              case measure => simp [intOf]; omega
        · have hkf : kindB k = false := by simpa using hkb
          have HKF := Lib.hid hkf
          have hF0 : formS k = ⟨#[]⟩ := by unfold formS; rw [formL_none k hkf]
          have HF := Lib.hid hF0
          clear hkb hkf hF0
          go_wp2_with (go_at_call 19; refine (form_is k ⟨#[]⟩ HF.out _).mono ?_; rintro e w' ⟨rfl, rfl⟩)
          go_roundw
          case rel => exact ⟨i' + 1, out, A, c, by go_num, rfl, by omega, by have h := hdec.out; rw [HDR.out, dec_odd HKF.out] at h; exact h, hlp.out⟩
          case measure => simp [intOf]; omega
      · have hge : b'.size ≤ i' := by omega
        have d0 := hlp.out.hS.cell (k := 0) rfl
        have d1 := hlp.out.hS.cell (k := 1) rfl
        have d2 := hlp.out.hS.cell (k := 2) rfl
        have d3 := hlp.out.hS.cell (k := 3) rfl
        have d4 := hlp.out.hS.cell (k := 4) rfl
        have d5 := hlp.out.hS.cell (k := 5) rfl
        have z0 := hlp.out.hz.cell (k := 0) rfl
        have z1 := hlp.out.hz.cell (k := 1) rfl
        have z2 := hlp.out.hz.cell (k := 2) rfl
        have z3 := hlp.out.hz.cell (k := 3) rfl
        have z4 := hlp.out.hz.cell (k := 4) rfl
        have z5 := hlp.out.hz.cell (k := 5) rfl
        have f0 := hlp.out.hz.free 0
        have f1 := hlp.out.hz.free 1
        have f2 := hlp.out.hz.free 2
        have f3 := hlp.out.hz.free 3
        have f4 := hlp.out.hz.free 4
        have f5 := hlp.out.hz.free 5
        have HD : Hid (dec ((nums b').drop 5) = out) := by have h := hdec.out; rw [show dec ((nums b').drop i') = [] from by rw [nums_drop_nil b' i' hge]; exact dec_nil, List.append_nil] at h; exact h
        go_wp2
        refine bodyPost_ret (v := .tuple #[.agg #[.int .i64 (1 + h0 % 8), .int .i64 (1 + h1 % 32), .int .i64 (1 + h2 % 16), .int .i64 (256 + 255 * h4), .bool (h3 % 2 == 1), .int .u64 0], .slice A out.length c]) (by simp [results, Try.results7, go_sem, *]) rfl ?_
        refine rdec_post (HSV.out.trans HSW.out.symm) HD.out (own_more hlp.out.own (by omega)) ?_ ?_
        rotate_left
        · exact (((((hlp.out.ext.setCell (.inr (by simp)) _).setCell (.inr (by simp)) _).setCell (.inr (by simp)) _).setCell (.inr (by simp)) _).setCell (.inr (by simp)) _).setCell (.inr (by simp)) _
        · exact ((((((Ext.refl [w.heap.size] _).setCell (.inl (by simp)) _).setCell (.inl (by simp)) _).setCell (.inl (by simp)) _).setCell (.inl (by simp)) _).setCell (.inl (by simp)) _).setCell (.inl (by simp)) _

end Go.Proofs.Ythedllndcibkcaa
