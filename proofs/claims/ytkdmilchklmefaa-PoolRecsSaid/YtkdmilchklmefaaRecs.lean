/- PoolRecs: since when a page is dirty. -/
import Derived.Test.YtkdmilchklmefaaAwake
import Derived.Deep.Slices
import Derived.ChangeSame
namespace Go.Proofs.Ytkdmilchklmefaa
open Go.RowKit Go.Deep Go.ChangeShapes Go.WideShapes
set_option linter.unusedVariables false
set_option linter.unusedSimpArgs false

/-- Numbers that came in. -/
def Nums (w : World) (A : Option Addr) (l : List Int) : Prop :=
  l = [] ∨ ∃ b off, A = some ⟨b, off, none⟩ ∧ b < w.heap.size ∧ ∀ (j : Nat) (q : Int), l[j]? = some q → w.cell? ⟨b, off + j, none⟩ = some (.int .u64 q)
theorem Nums.ext {w w' : World} {A : Option Addr} {l : List Int} (h : Nums w A l) (he : Ext [] w w') : Nums w' A l := by
  rcases h with h | ⟨b, off, hA, hb, hc⟩
  · exact .inl h
  · exact .inr ⟨b, off, hA, Nat.lt_of_lt_of_le hb he.size, fun j q hq => (he.cell hb (by simp)).trans (hc j q hq)⟩
theorem Nums.at_ {w : World} {A : Option Addr} {l : List Int} (h : Nums w A l) {j : Nat} {q : Int} (hq : l[j]? = some q) : ∃ b off, A = some ⟨b, off, none⟩ ∧ b < w.heap.size ∧ w.cell? ⟨b, off + j, none⟩ = some (.int .u64 q) := by
  rcases h with h | ⟨b, off, hA, hb, hc⟩
  · subst h; simp at hq
  · exact ⟨b, off, hA, hb, hc j q hq⟩
theorem open_nums {H : Type} {enc : TypeId × Value → H} {W : World} {A : Option Addr} {len cap : Nat} {d : DataW H} {p : List MemPlace}
    (h : DataW.Trod enc Try.prog W 0 (fun _ => true) true 22 (.slice A len cap) d p) : ∃ l : List Int, l.length = len ∧ Nums W A l := by
  obtain ⟨fuel, hf⟩ := h
  rcases open_slice Try.underlying22 hf with ⟨hcs, _⟩ | ⟨a, n, c, m, k, D, Pl, hcs, _, hl, _, hm, _, hx⟩
  · simp [Value.cells] at hcs
    obtain ⟨rfl, rfl, rfl⟩ := hcs
    exact ⟨[], rfl, .inl rfl⟩
  · simp [Value.cells] at hcs
    obtain ⟨rfl, rfl, rfl⟩ := hcs
    have hlm : len ≤ m := by rw [hm]; simpa using hl
    have ce : Try.prog.cellsOf 29 = 1 := by kernel_rfl
    have each : ∀ i, i < len → ∃ q : Int, W.cell? (a.add i) = some (.int .u64 q) := by
      intro i hi
      obtain ⟨cs', h1, h2⟩ := hx i (by omega)
      rw [ce] at h1
      obtain ⟨_, hlen, hcell⟩ := World.cells?_some h1
      match cs', hlen with
      | [v0], _ =>
        obtain ⟨n0, e0, _, _⟩ := DataW.trod_int Try.underlying29 h2
        simp at e0
        subst e0
        have c0 := hcell 0 (by omega)
        rw [add_add] at c0
        exact ⟨n0, by simpa using c0⟩
    rcases Nat.eq_zero_or_pos len with h0 | hpos
    · subst h0; exact ⟨[], rfl, .inl rfl⟩
    · have hspot : a.spot = none ∧ a.block < W.heap.size := by
        obtain ⟨q, c0⟩ := each 0 hpos
        refine ⟨?_, ?_⟩
        · cases hs : a.spot with
          | none => rfl
          | some s =>
            exfalso
            simp [Addr.add, World.cell?, hs] at c0
            split at c0 <;> simp at c0
        · have := World.block_lt_of_cell? W _ c0
          simpa [Addr.add] using this
      obtain ⟨ab, off, sp⟩ := a
      obtain ⟨rfl, hab⟩ := hspot
      have hadd : ∀ j, (⟨ab, off, none⟩ : Addr).add j = ⟨ab, off + j, none⟩ := fun j => by unfold Addr.add; split <;> simp_all
      obtain ⟨f, hf2⟩ := choose_lt each
      refine ⟨(List.range len).map f, by simp, .inr ⟨ab, off, rfl, hab, fun j q hq => ?_⟩⟩
      have hj : j < len := by have := (List.getElem?_eq_some_iff.1 hq).1; simpa using this
      have e : q = f j := by simp [hj] at hq; exact hq.symm
      subst e
      have := hf2 j hj
      simp only [hadd] at this
      exact this

/-- One page, held in the first frame. -/
def one (i : Int) (X : ByteArray) (v : Int) : List (Fr ByteArray) := [⟨true, i, X, true, 0, v != 0, v⟩, szero, szero]
theorem one_find (i k : Int) (X : ByteArray) (v : Int) : find (one i X v) k = if i = k then some 0 else none := by
  simp [find, one, hitB, List.findIdx?_cons, szero]
theorem one_ans (i : Int) (X : ByteArray) (v : Int) : ans (one i X v) i (fun _ => 0) = 0 := by
  unfold ans frOf; rw [one_find, if_pos rfl]; rfl
theorem one_set (i : Int) (X Y : ByteArray) (v n : Int) : upd (one i X v) i (setU Y n) = one i Y (if v = 0 then n else v) := by
  unfold upd; rw [one_find, if_pos rfl]
  simp only [one, List.getElem?_cons_zero, List.set_cons_zero, setU]
  by_cases h0 : v = 0
  · subst h0
    by_cases h1 : n = 0
    · subst h1; simp
    · simp [h1]
  · simp [h0]
theorem one_clean (i : Int) (X : ByteArray) (v : Int) : upd (one i X v) i clnU = one i X 0 := by
  unfold upd; rw [one_find, if_pos rfl]
  simp [one, clnU]
theorem one_rec (i : Int) (X : ByteArray) (v : Int) : recF (one i X v) i = if v = 0 then none else some v := by
  unfold recF; rw [one_find, if_pos rfl]
  simp only [one, List.getElem?_cons_zero]
  by_cases h0 : v = 0 <;> simp [h0]
theorem one_putE (i : Int) (h0 : 0 ≤ i) (h1 : i < 32) : putE (List.replicate (many 3).toNat szero) i = 0 := by
  have hf : find (List.replicate (many 3).toNat szero) i = none := by
    rw [show (many 3).toNat = 3 by rfl]
    simp [find, hitB, szero, List.findIdx?_cons, List.replicate]
  unfold putE
  rw [if_pos ⟨h0, h1⟩, hf]
  rfl
theorem one_putL (i : Int) (X : ByteArray) (h0 : 0 ≤ i) (h1 : i < 32) : putL (List.replicate (many 3).toNat szero) i X = one i X 0 := by
  have hf : find (List.replicate (many 3).toNat szero) i = none := by
    rw [show (many 3).toNat = 3 by rfl]
    simp [find, hitB, szero, List.findIdx?_cons, List.replicate]
  unfold putL
  rw [if_pos ⟨h0, h1⟩, hf]
  rfl
theorem pick_one : ∀ i : Nat, i < 32 → (List.range 32).filter (fun k => (i == k)) = [i] := by decide
theorem one_pg (i : Int) (X : ByteArray) (v : Int) (h0 : 0 ≤ i) (h1 : i < 32) : pgN (one i X v) 32 = [i] := by
  obtain ⟨n, rfl⟩ : ∃ n : Nat, i = (n : Int) := ⟨i.toNat, by omega⟩
  unfold pgN
  have : (fun k : Nat => (find (one (n : Int) X v) (k : Int)).isSome) = fun k => (n == k) := by
    funext k
    rw [one_find]
    by_cases h : n = k
    · subst h; simp
    · rw [if_neg (by omega)]; simp [h]
  rw [this, pick_one n (by omega)]; rfl
theorem one_dr (i : Int) (X : ByteArray) (v : Int) (h0 : 0 ≤ i) (h1 : i < 32) : drL (one i X v) (pgN (one i X v) 32) = if v = 0 then [] else [(i, v)] := by
  rw [one_pg i X v h0 h1]
  unfold drL
  rw [List.filterMap_cons, one_rec]
  by_cases hv : v = 0 <;> simp [hv]

theorem oset (w : World) (b g : Nat) (i : Int) (X Y : ByteArray) (v n : Int) (hp : sPool w b g (one i X v) 0) :
    Calls Try.prog 13 #[.pointer (some ⟨b, 0, none⟩), .int .i64 i, .string Y, .int .u64 n] w fun e w' => e = .returned (.int .i64 0) ∧ sPU w w' b g (one i Y (if v = 0 then n else v)) 0 := by
  have := sset_any w b g 0 _ hp i Y n
  rw [one_ans, one_set] at this; exact this
theorem oclean (w : World) (b g : Nat) (i : Int) (X : ByteArray) (v : Int) (hp : sPool w b g (one i X v) 0) :
    Calls Try.prog 12 #[.pointer (some ⟨b, 0, none⟩), .int .i64 i] w fun e w' => e = .returned (.int .i64 0) ∧ sPU w w' b g (one i X 0) 0 := by
  have := sclean_any w b g 0 _ hp i
  rw [one_ans, one_clean] at this; exact this
theorem orec (w : World) (b g : Nat) (i : Int) (X : ByteArray) (v : Int) (hp : sPool w b g (one i X v) 0) :
    Calls Try.prog 14 #[.pointer (some ⟨b, 0, none⟩), .int .i64 i] w fun e w' => e = .returned (.tuple #[.int .u64 v, .bool (v != 0)]) ∧ w = w' := by
  have := srec_any w b g 0 _ hp i
  rw [one_rec] at this
  by_cases hv : v = 0
  · subst hv; exact this
  · rw [if_neg hv] at this
    have e : (v != 0) = true := by simp [hv]
    rw [e]; exact this

set_option maxHeartbeats 2000000 in
theorem precs_many (id clean : Int) (A : Option Addr) (n c : Nat) (w : World) (hn : 300 < n) :
    Calls Try.prog 3 #[.int .u8 id, .slice A n c, .int .u64 clean] w fun e w' => e = .returned (.bool true) ∧ Ext [] w w' := by
  have hn2 : (300 : Int) < (n : Int) := by omega
  go_enter Try.func3, Try.ntmps3
  go_wp2_with (go_at_call 9; fail)
  refine (awake_any _).mono ?_
  rintro e w1 ⟨rfl, E1⟩
  have HE1 := Lib.hid E1
  clear E1
  go_wp2_with (go_at_call 9; fail)
  refine (awake_any _).mono ?_
  rintro e w2 ⟨rfl, E2⟩
  have HE2 := Lib.hid (HE1.out.trans E2)
  clear E2
  go_wp2
  go_ret
  exact ⟨rfl, HE2.out⟩

set_option maxRecDepth 100000 in
set_option maxHeartbeats 8000000 in
theorem precs_few (id clean : Int) (hid0 : 0 ≤ id) (hid1 : id < 256) (A : Option Addr) (c : Nat) (l : List Int) (w : World) (hn : l.length ≤ 300) (hO : Nums w A l) :
    Calls Try.prog 3 #[.int .u8 id, .slice A l.length c, .int .u64 clean] w fun e w' => e = .returned (.bool true) ∧ Ext [] w w' := by
  have hn2 : ¬ (300 : Int) < (l.length : Int) := by omega
  have HO := Lib.hid hO
  clear hO
  go_enter Try.func3, Try.ntmps3
  go_wp2_with (go_at_call 9; fail)
  refine (awake_any _).mono ?_
  rintro e w0 ⟨rfl, E0⟩
  have HE0 := Lib.hid E0
  clear E0
  go_wp2_with (go_at_call 10; fail)
  refine (snew_any 3 w0).mono ?_
  rintro e w1 ⟨rfl, D1, E1⟩
  have HD1 := Lib.hid D1
  have HE1 := Lib.hid E1
  clear D1 E1
  go_wp2_with (go_at_call 11; fail)
  have hi0 : 0 ≤ id % 32 := by omega
  have hi1 : id % 32 < 32 := by omega
  generalize id % 32 = i at *
  have hput := sput_any w1 (w0.heap.size + 1) w0.heap.size 0 _ HD1.out i ⟨#[97]⟩
  rw [one_putE i hi0 hi1, one_putL i _ hi0 hi1] at hput
  refine hput.mono ?_
  rintro e w2 ⟨rfl, U2⟩
  have hbg : ∃ b g, b = w0.heap.size + 1 ∧ g = w0.heap.size := ⟨_, _, rfl, rfl⟩
  obtain ⟨b, g, hb, hg⟩ := hbg
  have hext : Ext [] w w2 := by
    have s0 := HE0.out.size
    exact (HE0.out.trans HE1.out).new U2.2 (by intro x hx; simp at hx; omega)
  have hbg : w.heap.size ≤ b ∧ w.heap.size ≤ g := by
    have s0 := HE0.out.size
    omega
  rw [← hb, ← hg] at U2
  rw [← hb]
  have HP2 := Lib.hid U2.1
  have HE2 := Lib.hid hext
  have HBG := Lib.hid hbg
  clear hput U2 hext hbg hb hg HD1 HE1 HE0
  go_wp2
  go_loopw [9, 36] (fun v k wr => ∃ j : Nat, j ≤ l.length ∧ k = .int .i64 j ∧ ∃ X v0, v = .int .u64 v0 ∧ sPool wr b g (one i X v0) 0 ∧ Ext [] w wr) (fun _ k _ => l.length - (intOf k).toNat)
  case atStart => exact ⟨0, Nat.zero_le _, rfl, _, 0, rfl, HP2.out, HE2.out⟩
  case round =>
    obtain ⟨j, hj, rfl, X, v0, rfl, hpool, hext⟩ := hrel
    by_cases hlt : j < l.length
    · obtain ⟨n, hx⟩ : ∃ n, l[j]? = some n := ⟨l[j], by simp [hlt]⟩
      obtain ⟨ab, off, rfl, hab, c0⟩ := (HO.out.ext hext).at_ hx
      have HP := Lib.hid hpool
      have HE := Lib.hid hext
      have HX := Lib.hid hx
      have hw : IntKind.u64.wrap (j : Int) = j := IntWalk.u64_in _ (by omega)
      clear hpool hext hx
      by_cases hc : (j : Int) = clean
      · subst hc
        go_wp2_with (go_at_call 12; fail)
        refine (oclean _ b g i X v0 HP.out).mono ?_
        rintro e w3 ⟨rfl, U3⟩
        replace HP := Lib.hid U3.1
        replace HE := Lib.hid (HE.out.new U3.2 (by have := HBG.out; intro x hx; simp at hx; omega))
        obtain ⟨ab', off', hA, hab', c0⟩ := (HO.out.ext HE.out).at_ HX.out
        injection hA with hA
        injection hA with hA1 hA2
        subst hA1 hA2
        clear U3
        go_wp2_with (go_at_call 13; fail)
        refine (oset _ b g i _ ⟨#[98]⟩ 0 n HP.out).mono ?_
        rintro e w4 ⟨rfl, U4⟩
        rw [if_pos rfl] at U4
        have HU4 := Lib.hid U4.1
        have HX4 := Lib.hid (HE.out.new U4.2 (by have := HBG.out; intro x hx; simp at hx; omega))
        obtain ⟨ab, off, hA, hab, c0⟩ := (HO.out.ext HX4.out).at_ HX.out
        injection hA with hA
        injection hA with hA1 hA2
        subst hA1 hA2
        clear U4
        go_wp2_with (go_at_call 14; fail)
        refine (orec _ b g i _ n HU4.out).mono ?_
        rintro e w5 ⟨rfl, rfl⟩
        go_wp2
        go_roundw
        case rel => exact ⟨j + 1, by omega, by go_num, _, _, rfl, HU4.out, HX4.out⟩
        case measure => simp [intOf]; omega
      · by_cases hv : v0 = 0
        · subst hv
          go_wp2_with (go_at_call 13; fail)
          refine (oset _ b g i _ ⟨#[98]⟩ 0 n HP.out).mono ?_
          rintro e w4 ⟨rfl, U4⟩
          rw [if_pos rfl] at U4
          have HU4 := Lib.hid U4.1
          have HX4 := Lib.hid (HE.out.new U4.2 (by have := HBG.out; intro x hx; simp at hx; omega))
          obtain ⟨ab, off, hA, hab, c0⟩ := (HO.out.ext HX4.out).at_ HX.out
          injection hA with hA
          injection hA with hA1 hA2
          subst hA1 hA2
          clear U4
          go_wp2_with (go_at_call 14; fail)
          refine (orec _ b g i _ n HU4.out).mono ?_
          rintro e w5 ⟨rfl, rfl⟩
          go_wp2
          go_roundw
          case rel => exact ⟨j + 1, by omega, by go_num, _, _, rfl, HU4.out, HX4.out⟩
          case measure => simp [intOf]; omega
        · have hv2 : (v0 == 0) = false := by simp [hv]
          go_wp2_with (go_at_call 13; fail)
          refine (oset _ b g i _ ⟨#[98]⟩ v0 n HP.out).mono ?_
          rintro e w4 ⟨rfl, U4⟩
          rw [if_neg hv] at U4
          have HU4 := Lib.hid U4.1
          have HX4 := Lib.hid (HE.out.new U4.2 (by have := HBG.out; intro x hx; simp at hx; omega))
          obtain ⟨ab, off, hA, hab, c0⟩ := (HO.out.ext HX4.out).at_ HX.out
          injection hA with hA
          injection hA with hA1 hA2
          subst hA1 hA2
          clear U4
          go_wp2_with (go_at_call 14; fail)
          refine (orec _ b g i _ v0 HU4.out).mono ?_
          rintro e w5 ⟨rfl, rfl⟩
          go_wp2
          go_roundw
          case rel => exact ⟨j + 1, by omega, by go_num, _, _, rfl, HU4.out, HX4.out⟩
          case measure => simp [intOf]; omega
    · have HP := Lib.hid hpool
      have HE := Lib.hid hext
      clear hpool hext
      go_wp2_with (go_at_call 15; fail)
      refine (sdirty_any _ b g 0 _ HP.out).mono ?_
      rintro e w3 ⟨A1, c1, rfl, O1, E1⟩
      rw [one_dr i X v0 hi0 hi1] at O1 ⊢
      have HE3 := Lib.hid (HE.out.trans E1)
      by_cases hv : v0 = 0
      · subst hv
        rw [if_pos rfl] at O1 ⊢
        simp only [List.length_nil, List.length_cons] at O1 ⊢
        clear O1 E1
        go_wp2
        go_ret
        exact ⟨rfl, HE3.out⟩
      · rw [if_neg hv] at O1 ⊢
        simp only [List.length_nil, List.length_cons, Nat.zero_add] at O1 ⊢
        obtain ⟨g1, rfl, _⟩ := own_some O1 (by omega)
        have k0 := own_cell O1 (j := 0) (v := .int .i64 i) (by simp [encs, encD])
        have k1 := own_cell O1 (j := 1) (v := .int .u64 v0) (by simp [encs, encD])
        clear O1 E1
        have hv2 : (v0 == 0) = false := by simp [hv]
        go_wp2
        go_ret
        exact ⟨rfl, HE3.out⟩

end Go.Proofs.Ytkdmilchklmefaa
