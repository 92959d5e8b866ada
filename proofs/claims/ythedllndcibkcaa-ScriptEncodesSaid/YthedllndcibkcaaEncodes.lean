/- ScriptEncodes: any setup and steps have the bytes that the document says, or none, and are decoded as they were. -/
import Derived.Test.YthedllndcibkcaaREncode
namespace Go.Proofs.Ythedllndcibkcaa
open Go.RowKit
set_option linter.unusedVariables false
set_option linter.unusedSimpArgs false

/-- Steps that came in: their cells. -/
def StC (w : World) (A : Option Addr) (l : List St) : Prop := l = [] ∨ ∃ b off, A = some ⟨b, off, none⟩ ∧ b < w.heap.size ∧ ∀ (j : Nat) (x : St), l[j]? = some x → ∀ (i : Nat) (v : Value), x.cells[i]? = some v → w.cell? ⟨b, off + j * 9 + i, none⟩ = some v
theorem StC.ext {w w' : World} {A : Option Addr} {l : List St} (h : StC w A l) (e : Ext [] w w') : StC w' A l := by
  rcases h with h1 | ⟨b, off, h1, h2, h3⟩
  · exact .inl h1
  · exact .inr ⟨b, off, h1, by have := e.size; omega, fun j x hj i v hv => (e.cell h2 (by simp)).trans (h3 j x hj i v hv)⟩

theorem guard25 (op : BinOp) (x y : Operand) (xs ys : Array Value) (w : World) : (eqGuard op 25 x y (.agg xs) (.agg ys)).run Try.prog w = .ok () w := run_eqGuard_agg w op 25 x y xs ys (by kernel_rfl)
theorem eql25 (a b c d : Int) (f : Bool) (g : Int) (w : World) : (binOp .eql 25 (.agg #[.int .i64 a, .int .i64 b, .int .i64 c, .int .i64 d, .bool f, .int .u64 g]) (.agg #[.int .i64 a, .int .i64 b, .int .i64 c, .int .i64 d, .bool f, .int .u64 g])).run Try.prog w = .ok (.bool true) w := by
  have u3 := Try.underlying3
  have u4 := Try.underlying4
  have u23 := Try.underlying23
  have a3 := Try.isAgg3
  have z3 := Try.sizeOf3
  have a4 := Try.isAgg4
  have z4 := Try.sizeOf4
  have a23 := Try.isAgg23
  have z23 := Try.sizeOf23
  have hS : Try.prog.underlying 25 = some (.struct (Try.prog.fieldsOf 25)) := by kernel_rfl
  have hp : Try.prog.stoodInHeld 25 = false := by kernel_rfl
  rw [run_eql_struct, show (10000 : Nat) = 9999 + 1 from rfl, run_equalIn_agg w 9999 25 _ _ hS hp]
  simp only [Program.fieldsOf, Try.underlying25]
  go_simp

set_option maxHeartbeats 1000000 in
theorem encodes_big (s : Su) (A : Option Addr) (n cap : Nat) (w : World) (hb : 3000 < n) : Calls Try.prog 4 #[.agg s.cells.toArray, .slice A n cap] w fun e w' => e = .returned (.bool true) ∧ Ext [] w w' := by
  obtain ⟨a, b, c, d, f, g⟩ := s
  simp only [Su.cells]
  have hb' : (3000 : Int) < (n : Int) := by omega
  clear hb
  go_enter Try.func4, Try.ntmps4
  go_wp2_with (go_at_call 5; fail)
  refine (awake_any _).mono ?_
  rintro e w1 ⟨rfl, e1⟩
  go_wp2_with (go_at_call 5; fail)
  refine (awake_any _).mono ?_
  rintro e w2 ⟨rfl, e2⟩
  go_wp2
  go_ret
  exact ⟨rfl, (((Ext.refl _ _).alloc _).trans e1).trans e2⟩

theorem conv_own {w : World} {base n c g : Nat} {L : List Int} (h : w.ownsRow base 5 1 (.slice (some ⟨g, 0, none⟩) n c) n (L.map (.int .u8))) (hl : L.length = n) : (convert 29 9 (.slice (some ⟨g, 0, none⟩) n c)).run Try.prog w = .ok (.string (strOfNums L)) w :=
  run_convert_bytes_arg (P := Try.prog) w 29 5 Try.underlying29 Try.underlying5 g 0 n c L hl (fun i hi => by
    rw [Nat.zero_add]
    exact own_cell h (by rw [List.getElem?_map, List.getElem?_eq_getElem (by omega)]; simp [List.getD, List.getElem?_eq_getElem (show i < L.length by omega)])) 9 Try.underlying9

/-- What is known on the way. -/
structure EB (w0 w : World) (s : Su) : Prop where
  b : Blk w w0.heap.size 25 s.cells
  ext : Ext [] w0 w
theorem EB.go {w0 w w' : World} {s : Su} (h : EB w0 w s) (e : Ext [] w w') : EB w0 w' s := ⟨h.b.ext e (by simp), h.ext.trans e⟩

set_option maxRecDepth 100000 in
set_option maxHeartbeats 8000000 in
theorem encodes_small (s : Su) (hd : -9223372036854775808 ≤ s.d ∧ s.d ≤ 9223372036854775807) (A : Option Addr) (cap : Nat) (l : List St) (w : World) (hl : l.length ≤ 3000) (hc : StC w A l) :
    Calls Try.prog 4 #[.agg s.cells.toArray, .slice A l.length cap] w fun e w' => e = .returned (.bool true) ∧ Ext [] w w' := by
  have henc := fun (W : World) (h : StAt W A l) => encode_any s hd A cap l W h
  have hrenc := fun (A2 : Option Addr) (c2 base : Nat) (W : World) how hsh => rencode_any s hd A2 c2 base l W how hl hsh
  have hback := enc_dec s l
  obtain ⟨i0, hi, hz0, hz1, hz2⟩ := info_parts info39
  have hb0 : EB w (w.alloc (.cells s.cells.toArray 25)) s := ⟨Blk.new w 25 s.cells, (Ext.refl _ _).alloc _⟩
  obtain ⟨a, b, c, d, f, g⟩ := s
  have hset := fun W => setup_any a b c d f g W
  simp only [Su.cells] at *
  have HEN := Lib.hid henc
  have HRE := Lib.hid hrenc
  have HBK := Lib.hid hback
  have HSE := Lib.hid hset
  have HB := Lib.hid hb0
  have HC := Lib.hid hc
  clear henc hrenc hback hset hb0 hc
  go_enter Try.func4, Try.ntmps4
  go_wp2_with (go_at_call 5; fail)
  refine (awake_any _).mono ?_
  rintro e w1 ⟨rfl, e1⟩
  have HB1 := Lib.hid (HB.out.go e1)
  clear HB e1
  go_wp2
  go_loopw [5, 23] (fun v i wr => ∃ (j : Nat) (A2 : Option Addr) (c2 : Nat), i = .int .i64 j ∧ v = .slice A2 j c2 ∧ j ≤ l.length ∧ Hid (∀ x ∈ l.take j, x.v.size ≤ 1000) ∧ Hid (wr.ownsRow (w.heap.size + 1) 39 9 (.slice A2 j c2) j (encs St.cells (l.take j))) ∧ Hid (EB w wr ⟨a, b, c, d, f, g⟩)) (fun _ i _ => l.length - (intOf i).toNat)
  case atStart => exact ⟨0, none, 0, rfl, rfl, Nat.zero_le _, by unfold Hid; simp, World.ownsRow_nil _ _ _ _, HB1.out⟩
  case round =>
    obtain ⟨j, A2, c2, rfl, rfl, hj, hsh, hown, hbb⟩ := hrel
    have hsz := hbb.out.b.lt
    by_cases hlt : j < l.length
    · obtain ⟨x, hx⟩ : ∃ x, l[j]? = some x := ⟨l[j], by simp [hlt]⟩
      have hcc := HC.out.ext hbb.out.ext
      rcases hcc with h0 | ⟨bb, off, rfl, hbl, hce⟩
      · subst h0; simp at hlt
      have htk : l.take (j + 1) = l.take j ++ [x] := by rw [List.take_add_one, hx]; rfl
      obtain ⟨xk, xn, xt, xp, xs, xo, xc, xm, xv⟩ := x
      have a0 := hce j _ hx 0 _ rfl
      have a1 := hce j _ hx 1 _ rfl
      have a2 := hce j _ hx 2 _ rfl
      have a3 := hce j _ hx 3 _ rfl
      have a4 := hce j _ hx 4 _ rfl
      have a5 := hce j _ hx 5 _ rfl
      have a6 := hce j _ hx 6 _ rfl
      have a7 := hce j _ hx 7 _ rfl
      have a8 := hce j _ hx 8 _ rfl
      simp only [Nat.add_zero] at a0
      have HTK := Lib.hid htk
      clear hce hx htk
      by_cases hbig : 1000 < xv.size
      · have hbig' : (1000 : Int) < (xv.size : Int) := by omega
        go_wp2
        go_ret
        exact ⟨rfl, hbb.out.ext⟩
      · have hbig' : ¬ ((1000 : Int) < (xv.size : Int)) := by omega
        go_wp2_with (go_at_call 10; fail)
        refine (step_any xk xn xt xp xs xo xc xm xv _).mono ?_
        rintro e w2 ⟨rfl, e2⟩
        have HO2 := Lib.hid (own_ext hown.out e2 (by simp))
        have HB2 := Lib.hid (hbb.out.go e2)
        have hs2 := e2.size
        clear e2
        go_wp2_with (at_builtin; refine wpList_append_lies _ rfl (.tmp 33) (.tmp 39) 31 rfl (w.heap.size + 1) 39 i0 (.agg #[.int .i64 0, .int .i64 0, .int .i64 0, .int .i64 0, .int .i64 0, .int .i64 0, .int .i64 0, .int .i64 0, .string ByteArray.empty]) 9 80 Try.underlying31 hi hz0 hz1 hz2 rfl (by decide) _ _ _ rfl (HO2.out.alloc _) _ 1 1 (St.mk xk xn xt xp xs xo xc xm xv).cells rfl rfl ?c1 ?c2 (by omega) ?c3 ?c4 ?c5 _ rfl ?kk)
        case c1 =>
          intro i u hu
          match i, hu with
          | 0, hu => simp [St.cells] at hu; subst hu; simp [Addr.add]; try (rw [World.cell?_alloc_at (hn := by simp)]; rfl)
          | 1, hu => simp [St.cells] at hu; subst hu; simp [Addr.add]; try (rw [World.cell?_alloc_at (hn := by simp)]; rfl)
          | 2, hu => simp [St.cells] at hu; subst hu; simp [Addr.add]; try (rw [World.cell?_alloc_at (hn := by simp)]; rfl)
          | 3, hu => simp [St.cells] at hu; subst hu; simp [Addr.add]; try (rw [World.cell?_alloc_at (hn := by simp)]; rfl)
          | 4, hu => simp [St.cells] at hu; subst hu; simp [Addr.add]; try (rw [World.cell?_alloc_at (hn := by simp)]; rfl)
          | 5, hu => simp [St.cells] at hu; subst hu; simp [Addr.add]; try (rw [World.cell?_alloc_at (hn := by simp)]; rfl)
          | 6, hu => simp [St.cells] at hu; subst hu; simp [Addr.add]; try (rw [World.cell?_alloc_at (hn := by simp)]; rfl)
          | 7, hu => simp [St.cells] at hu; subst hu; simp [Addr.add]; try (rw [World.cell?_alloc_at (hn := by simp)]; rfl)
          | 8, hu => simp [St.cells] at hu; subst hu; simp [Addr.add]; try (rw [World.cell?_alloc_at (hn := by simp)]; rfl)
        case c2 => exact St.cells_one _
        case c3 => unfold maxLen; omega
        case c4 => omega
        case c5 => simp; omega
        case kk =>
          intro gg capn w3 hown3 hgrow hat hgl
          have HE3 := Lib.hid ((HB2.out.ext.alloc (.cells #[.int .i64 xk, .int .i64 xn, .int .i64 xt, .int .i64 xp, .int .i64 xs, .int .i64 xo, .int .i64 xc, .int .i64 xm, .string xv] 39)).grown hgrow (fun k hk hlt => by have := HO2.out.lt k hk; omega))
          have hbk : Blk w3 w.heap.size 25 (Su.cells ⟨a, b, c, d, f, g⟩) := (HB2.out.b.alloc _).grown hgrow (fun he => by
            have h1 := HO2.out.lt _ he
            omega)
          have HBK3 := Lib.hid hbk
          have HO3 := Lib.hid hown3
          clear hown3 hgrow hat hbk
          go_wp2
          go_roundw
          case rel => exact ⟨j + 1, some ⟨gg, 0, none⟩, capn, by go_num, rfl, by omega, by unfold Hid; rw [HTK.out]; intro y hy; rcases List.mem_append.1 hy with hy | hy; exact hsh.out y hy; simp only [List.mem_cons, List.not_mem_nil, or_false] at hy; subst hy; exact Nat.le_of_not_lt hbig, by unfold Hid; rw [HTK.out, encs_snoc]; exact HO3.out, HBK3.out, HE3.out⟩
          case measure => simp [intOf]; omega
    · have e : l.length = j := by omega
      have htk : l.take j = l := List.take_of_length_le (by omega)
      rw [htk] at hsh hown
      have hst : StAt wr A l := ⟨HC.out.ext hbb.out.ext, hl, hsh.out⟩
      have HST := Lib.hid hst
      subst e
      clear htk hst
      have p0 := hbb.out.b.cell (k := 0) rfl
      have p1 := hbb.out.b.cell (k := 1) rfl
      have p2 := hbb.out.b.cell (k := 2) rfl
      have p3 := hbb.out.b.cell (k := 3) rfl
      have p4 := hbb.out.b.cell (k := 4) rfl
      have p5 := hbb.out.b.cell (k := 5) rfl
      go_wp2_with (go_at_call 11; fail)
      refine (HEN.out _ HST.out).mono ?_
      rintro e w2 ⟨e2, hq⟩
      have HB2 := Lib.hid (hbb.out.go e2)
      have HM2 := Lib.hid (own_ext hown.out e2 (by simp))
      have b0 := HB2.out.b.cell (k := 0) rfl
      have b1 := HB2.out.b.cell (k := 1) rfl
      have b2 := HB2.out.b.cell (k := 2) rfl
      have b3 := HB2.out.b.cell (k := 3) rfl
      have b4 := HB2.out.b.cell (k := 4) rfl
      have b5 := HB2.out.b.cell (k := 5) rfl
      obtain ⟨q, hqq⟩ : ∃ q, encA ⟨a, b, c, d, f, g⟩ l = q := ⟨_, rfl⟩
      rw [hqq] at hq
      have HQ := Lib.hid hqq
      clear e2 hqq p0 p1 p2 p3 p4 p5
      cases q with
      | none =>
        have hq' : e = .returned (.tuple #[.slice none 0 0, .int .i64 1]) := hq
        subst hq'
        clear hq
        go_wp2_with (go_at_call 8; fail)
        refine (HSE.out _).mono ?_
        rintro e w3 ⟨rfl, e3⟩
        have HM3 := Lib.hid (own_ext HM2.out e3 (by simp))
        go_wp2_with (go_at_call 12; fail)
        refine (HRE.out _ _ _ _ HM3.out HST.out.short).mono ?_
        rintro e w4 ⟨e4, hr⟩
        rw [HQ.out] at hr
        have hr' : e = .returned (.tuple #[.string ⟨#[]⟩, .int .i64 1]) := hr
        subst hr'
        have HE4 := Lib.hid ((HB2.out.ext.trans e3).trans e4)
        have hcv := conv_none w4 none 0
        clear hr e3 e4 b0 b1 b2 b3 b4 b5
        go_wp2
        go_ret
        exact ⟨rfl, HE4.out⟩
      | some out =>
        obtain ⟨gg, c3, rfl, hown2, hgl, hoc⟩ := hq
        have HO2 := Lib.hid hown2
        have HGL := Lib.hid hgl
        have HOC := Lib.hid hoc
        clear hown2 hgl hoc
        go_wp2_with (go_at_call 8; fail)
        refine (HSE.out _).mono ?_
        rintro e w3 ⟨rfl, e3⟩
        have HM3 := Lib.hid (own_ext HM2.out e3 (by simp))
        have HB3 := Lib.hid (HB2.out.go e3)
        have HO3 := Lib.hid (own_ext HO2.out e3 (by simp))
        have HG3 := Lib.hid (Nat.lt_of_lt_of_le HGL.out e3.size)
        clear e3 b0 b1 b2 b3 b4 b5
        go_wp2_with (go_at_call 12; fail)
        refine (HRE.out _ _ _ _ HM3.out HST.out.short).mono ?_
        rintro e w4 ⟨e4, hr⟩
        rw [HQ.out] at hr
        obtain ⟨S, rfl, hS⟩ := hr
        have HM4 := Lib.hid (own_ext HM3.out e4 (by simp))
        have HB4 := Lib.hid (HB3.out.go e4)
        have HO4 := Lib.hid (own_ext HO3.out e4 (by simp))
        have HG4 := Lib.hid (Nat.lt_of_lt_of_le HG3.out e4.size)
        have hcv0 := conv_own HO4.out rfl
        rw [show strOfNums out = S from by rw [← hS, strOf_nums]] at hcv0
        obtain ⟨k1, k2, k3, k4⟩ := HBK.out out HQ.out
        have hdd := decode_any w4 gg c3 out HG4.out (fun j x hj => own_cell HO4.out (by rw [List.getElem?_map, hj]; rfl)) k3 HOC.out (by omega)
        unfold DecPost at hdd
        rw [k1, k2] at hdd
        have HDD := Lib.hid hdd
        clear hdd k1 k2 k3 k4 hS e4
        go_wp2_with (go_at_call 6; fail)
        refine HDD.out.mono ?_
        rintro e w5 ⟨A5, c5, he, hown5, e5⟩
        have he' : e = .returned (.tuple #[.agg #[.int .i64 a, .int .i64 b, .int .i64 c, .int .i64 d, .bool f, .int .u64 g], .slice A5 l.length c5]) := he
        subst he'
        have HO5 := Lib.hid (hown5.alloc (.cells #[.int .i64 a, .int .i64 b, .int .i64 c, .int .i64 d, .bool f, .int .u64 g] 25))
        have HM5 := Lib.hid ((own_ext HM4.out e5 (by simp)).alloc (.cells #[.int .i64 a, .int .i64 b, .int .i64 c, .int .i64 d, .bool f, .int .u64 g] 25))
        have HB5 := Lib.hid ((HB4.out.go e5).go ((Ext.refl [] w5).alloc (.cells #[.int .i64 a, .int .i64 b, .int .i64 c, .int .i64 d, .bool f, .int .u64 g] 25)))
        clear he hown5 e5 hcv0
        have b0 := HB5.out.b.cell (k := 0) rfl
        have b1 := HB5.out.b.cell (k := 1) rfl
        have b2 := HB5.out.b.cell (k := 2) rfl
        have b3 := HB5.out.b.cell (k := 3) rfl
        have b4 := HB5.out.b.cell (k := 4) rfl
        have b5 := HB5.out.b.cell (k := 5) rfl
        have hgd := guard25
        have heq := eql25 a b c d f g
        go_wp2_with (go_at_call 9; fail)
        refine (steps_any _ _ _ A5 A2 c5 c2 l HO5.out HM5.out (by omega)).mono ?_
        rintro e w6 ⟨rfl, e6⟩
        go_wp2
        go_ret
        exact ⟨rfl, HB5.out.ext.trans e6⟩

theorem encodes_any (s : Su) (hd : -9223372036854775808 ≤ s.d ∧ s.d ≤ 9223372036854775807) (A : Option Addr) (cap : Nat) (l : List St) (w : World) (hc : StC w A l) :
    Calls Try.prog 4 #[.agg s.cells.toArray, .slice A l.length cap] w fun e w' => e = .returned (.bool true) ∧ Ext [] w w' := by
  by_cases hl : l.length ≤ 3000
  · exact encodes_small s hd A cap l w hl hc
  · exact encodes_big s A _ cap w (by omega)

end Go.Proofs.Ythedllndcibkcaa
