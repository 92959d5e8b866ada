/- Decode: the setup and the steps. -/
import Derived.Test.YthedllndcibkcaaText
namespace Go.Proofs.Ythedllndcibkcaa
open Go.RowKit
set_option linter.unusedVariables false
set_option linter.unusedSimpArgs false

set_option maxHeartbeats 400000 in
theorem kind_any (k : Int) (w : World) : Calls Try.prog 14 #[.int .i64 k] w fun e w' => e = .returned (.bool (kindB k)) ∧ w = w' := by
  by_cases h0 : 1 ≤ k
  · by_cases h1 : k ≤ 19
    · have e : kindB k = true := by unfold kindB; simp [h0, h1]
      rw [e]; clear e
      go_enter Try.func14, Try.ntmps14
      go_wp2
      go_ret
      exact ⟨rfl, rfl⟩
    · have e : kindB k = false := by unfold kindB; simp [h1]
      rw [e]; clear e
      go_enter Try.func14, Try.ntmps14
      go_wp2
      go_ret
      exact ⟨rfl, rfl⟩
  · have e : kindB k = false := by unfold kindB; simp [h0]
    rw [e]; clear e
    go_enter Try.func14, Try.ntmps14
    go_wp2
    go_ret
    exact ⟨rfl, rfl⟩
theorem kind_is {c : Bool} (k : Int) (w : World) (h : kindB k = c) : Calls Try.prog 14 #[.int .i64 k] w fun e w' => e = .returned (.bool c) ∧ w = w' := by
  subst h; exact kind_any k w

/-- The setup that the first bytes tell. -/
def setupV (T : List Int) : List Value := [.int .i64 (1 + T.getD 0 0 % 8), .int .i64 (1 + T.getD 1 0 % 32), .int .i64 (1 + T.getD 2 0 % 16), .int .i64 (256 + 255 * T.getD 4 0), .bool (T.getD 3 0 % 2 == 1), .int .u64 0]
def hx (T : List Int) (j : Nat) : List Value := (T.take j ++ List.replicate (5 - j) 0).map (Value.int .i64)
theorem hx_zero (T : List Int) : hx T 0 = [.int .i64 0, .int .i64 0, .int .i64 0, .int .i64 0, .int .i64 0] := by simp [hx, List.replicate]
theorem hx_set (T : List Int) (j : Nat) (x : Int) (hj : j < 5) (hx' : T[j]? = some x) : (hx T j).set j (.int .i64 x) = hx T (j + 1) := by
  unfold hx
  rw [← List.map_set]
  congr 1
  have hl := (List.getElem?_eq_some_iff.1 hx').1
  have e1 : (T.take j).length = j := by simp; omega
  rw [List.set_append_right _ _ (by omega), e1, Nat.sub_self, show 5 - j = (5 - (j + 1)) + 1 by omega, List.replicate_succ, List.set_cons_zero, List.take_add_one, hx']
  simp
theorem hx_get (T : List Int) (k i : Nat) (hk : k = min 5 T.length) (hi : i < 5) : (hx T k)[i]? = some (.int .i64 (T.getD i 0)) := by
  unfold hx
  rw [List.getElem?_map]
  have e1 : (T.take k).length = k := by simp; omega
  by_cases h : i < k
  · rw [List.getElem?_append_left (by omega), List.getElem?_take_of_lt h]
    have : i < T.length := by omega
    simp [List.getD, this]
  · rw [List.getElem?_append_right (by omega), e1, List.getElem?_replicate, if_pos (by omega)]
    have : T.length ≤ i := by omega
    simp [List.getD, List.getElem?_eq_none this]

theorem hx_length (T : List Int) (j : Nat) (h1 : j ≤ T.length) (h2 : j ≤ 5) : (hx T j).length = 5 := by simp [hx]; omega
theorem getD_range {T : List Int} (h : ∀ x ∈ T, 0 ≤ x ∧ x < 256) (i : Nat) : 0 ≤ T.getD i 0 ∧ T.getD i 0 < 256 := by
  rw [List.getD]
  rcases hq : T[i]? with _ | x
  · simp
  · exact h x (List.mem_of_getElem? hq)

theorem runS_k : ∀ (l : List (Nat × Nat)) (s : St × List Int × Bool), (∀ q ∈ l, q.1 ≠ 0 ∧ q.1 < 8) → (runS l s).1.k = s.1.k
  | [], s, _ => rfl
  | q :: l, s, h => by
    show (runS l (s.1.put q.1 _, _, _)).1.k = _
    rw [runS_k l _ (fun q' hq' => h q' (by simp [hq']))]
    have hq := h q (by simp)
    obtain ⟨f, wd⟩ := q
    simp only at hq
    have : f = 1 ∨ f = 2 ∨ f = 3 ∨ f = 4 ∨ f = 5 ∨ f = 6 ∨ f = 7 := by omega
    rcases this with rfl | rfl | rfl | rfl | rfl | rfl | rfl <;> rfl
theorem fields_ok (k : Int) : ∀ q ∈ fieldsOf k, q.1 ≠ 0 ∧ q.1 < 8 := by
  unfold fieldsOf; split <;> simp

theorem dec_le : ∀ (n : Nat) (r : List Int), r.length ≤ n → (dec r).length ≤ r.length := by
  intro n
  induction n with
  | zero =>
    intro r h
    have : r = [] := List.eq_nil_of_length_eq_zero (by omega)
    subst this
    simp [dec_nil]
  | succ n ih =>
    intro r h
    cases r with
    | nil => simp [dec_nil]
    | cons k r =>
      have hl := entryS_le k r
      simp only [List.length_cons] at h ⊢
      rw [dec_cons]
      split
      · split
        · simp
        · have := ih (entryS k r).2.1 (by omega)
          simp only [List.length_cons]; omega
      · have := ih r (by omega)
        omega

abbrev zeroS : List Value := [.int .i64 0, .int .i64 0, .int .i64 0, .int .i64 0, .bool false, .int .u64 0]
/-- Decode on its way. -/
structure Lp (w wr : World) (S : List Value) (v : Value) (out : List St) (r : List Int) (o : Bool) : Prop where
  own : wr.ownsRow (w.heap.size + 5) 38 9 v out.length (encs St.cells out)
  rd : RD wr w.heap.size (w.heap.size + 2 + 1) r o
  hp : Blk wr (w.heap.size + 2 + 1 + 1) 48 [.pointer (some ⟨w.heap.size + 2 + 1, 0, none⟩)]
  hS : Blk wr (w.heap.size + 2) 25 S
  hz : Blk wr w.heap.size 25 zeroS
  ext : Ext [] w wr
  size : w.heap.size + 5 ≤ wr.heap.size
theorem Lp.go {w wr w3 : World} {S : List Value} {v : Value} {out : List St} {r r3 : List Int} {o o3 : Bool} (h : Lp w wr S v out r o) {L : List Nat} (e : Ext L wr w3) (hL : ∀ k ∈ L, k = w.heap.size + 2 + 1 ∨ wr.heap.size ≤ k) (hrd : RD w3 w.heap.size (w.heap.size + 2 + 1) r3 o3) : Lp w w3 S v out r3 o3 := by
  have hs := h.size
  have far : ∀ g, g < w.heap.size + 5 → g ≠ w.heap.size + 2 + 1 → g ∉ L := fun g h1 h2 hg => by rcases hL g hg with h3 | h3 <;> omega
  exact ⟨own_ext2 h.own e (fun k hk => by rcases hL k hk with h3 | h3; left; omega; right; exact h3), hrd, h.hp.ext e (far _ (by omega) (by omega)), h.hS.ext e (far _ (by omega) (by omega)), h.hz.ext e (far _ (by omega) (by omega)),
    h.ext.new e (fun k hk => by rcases hL k hk with h3 | h3; right; omega; right; omega), by have := e.size; omega⟩
theorem Lp.app {w wr w5 : World} {S : List Value} {v : Value} {out : List St} {r : List Int} {o : Bool} (h : Lp w wr S v out r o) (C : Array Value) {gg cap : Nat} {x : St} (hown : w5.ownsRow (w.heap.size + 5) 38 9 (.slice (some ⟨gg, 0, none⟩) (out.length + 1) cap) (out.length + 1) (encs St.cells out ++ x.cells)) (hg : (wr.alloc (.cells C 38)).grownBy w5 v.ownBlock) :
    Lp w w5 S (.slice (some ⟨gg, 0, none⟩) (out.length + 1) cap) (out ++ [x]) r o := by
  have hs := h.size
  have e : Ext v.ownBlock.toList wr w5 := ((Ext.refl _ wr).alloc _).grown hg (fun k hk _ => by simp [hk])
  have hb : ∀ k ∈ v.ownBlock.toList, w.heap.size + 5 ≤ k := fun k hk => by
    have := h.own.lt k (by simpa using hk)
    exact this.1
  have far : ∀ g, g < w.heap.size + 5 → g ∉ v.ownBlock.toList := fun g h1 hg => by have := hb g hg; omega
  refine ⟨by rw [encs_snoc]; simpa using hown, h.rd.ext e (far _ (by omega)) (fun k hk => by have := hb k hk; omega), h.hp.ext e (far _ (by omega)), h.hS.ext e (far _ (by omega)), h.hz.ext e (far _ (by omega)), h.ext.new e (fun k hk => by right; have := hb k hk; omega), by have := e.size; omega⟩

theorem num_first (w : World) (base rb : Nat) (k : Int) (r : List Int) (h : RD w base rb (k :: r) false) :
    Calls Try.prog 13 #[.pointer (some ⟨rb, 0, none⟩), .int .i64 1] w fun e w' => e = .returned (.int .i64 k) ∧ RD w' base rb r false ∧ Ext [rb] w w' := by
  have := num_any w base rb (k :: r) false h 1 (.inl rfl)
  have e1 : numV 1 (k :: r) = k := by simp [numV]
  have e2 : numL 1 (k :: r) = r := by simp [numL]
  have e3 : numO 1 (k :: r) false = false := by simp [numO]
  rw [e1, e2, e3] at this
  exact this

theorem info38 : (Try.prog.info? 38).map (fun i => (i.zero, i.size, i.bytes)) = some (some (.agg #[.int .i64 0, .int .i64 0, .int .i64 0, .int .i64 0, .int .i64 0, .int .i64 0, .int .i64 0, .int .i64 0, .string ByteArray.empty]), 9, 80) := by kernel_rfl

/-- What is handed back: a setup, steps of the call's own. -/
def DecPost (w : World) (T : List Int) (e : Ending) (w' : World) : Prop :=
  ∃ A c, e = .returned (.tuple #[.agg (setupV T).toArray, .slice A (dec (T.drop 5)).length c]) ∧ w'.ownsRow w.heap.size 38 9 (.slice A (dec (T.drop 5)).length c) (dec (T.drop 5)).length (encs St.cells (dec (T.drop 5))) ∧ Ext [] w w'

theorem dec_post {w w5 w' : World} {T : List Int} {S : List Value} {out : List St} {A : Option Addr} {c : Nat} (h1 : setupV T = S) (hd : dec (T.drop 5) = out) (ho : w5.ownsRow (w.heap.size + 1) 38 9 (.slice A out.length c) out.length (encs St.cells out)) (he : Ext [w.heap.size] w5 w') (hx : Ext [] w w') :
    DecPost w T (.returned (.tuple #[.agg S.toArray, .slice A out.length c])) w' := by
  subst hd h1
  exact ⟨A, c, rfl, own_more (own_ext ho he (by intro k hk; simp at hk; omega)) (by omega), hx⟩

set_option maxHeartbeats 40000000 in
set_option maxRecDepth 100000 in
theorem decode_any (w : World) (b cap : Nat) (L : List Int) (hb : b < w.heap.size) (hc : ∀ (j : Nat) (x : Int), L[j]? = some x → w.cell? ⟨b, j, none⟩ = some (.int .u8 x)) (hy : ∀ x ∈ L, 0 ≤ x ∧ x < 256) (hcap : L.length ≤ cap) (hl : L.length ≤ 1000000) :
    Calls Try.prog 6 #[.slice (some ⟨b, 0, none⟩) L.length cap] w (DecPost w (L.take 4096)) := by
  have hcT : ∀ (j : Nat) (x : Int), (L.take 4096)[j]? = some x → w.cell? ⟨b, j, none⟩ = some (.int .u8 x) := fun j x h => hc j x (by
    rw [List.getElem?_take] at h; split at h
    · exact h
    · cases h)
  have hyT : ∀ x ∈ L.take 4096, 0 ≤ x ∧ x < 256 := fun x h => hy x (List.mem_of_mem_take h)
  have hmT : (L.take 4096).length = min 4096 L.length := by simp
  generalize hn : L.length = n at *
  generalize L.take 4096 = T at *
  clear hc hy
  obtain ⟨m, hm⟩ : ∃ m : Nat, T.length = m := ⟨_, rfl⟩
  have hmn : m ≤ n := by omega
  have hm4 : m ≤ 4096 := by omega
  have hmin : (if (4096 : Int) < (n : Int) then (4096 : Int) else (n : Int)) = (m : Int) := by split <;> omega
  obtain ⟨k5, hk5⟩ : ∃ k5 : Nat, k5 = min 5 m := ⟨_, rfl⟩
  have hmin2 : (if (m : Int) < (5 : Int) then (m : Int) else (5 : Int)) = (k5 : Int) := by split <;> omega
  have hk5m : k5 ≤ m := by omega
  have hk55 : k5 ≤ 5 := by omega
  have HM := Lib.hid hm
  have HT := Lib.hid hcT
  have HY := Lib.hid hyT
  have HK := Lib.hid hk5
  have HN := Lib.hid hn
  have HMT := Lib.hid hmT
  clear hm hcT hyT hk5 hn hmT
  go_enter Try.func6, Try.ntmps6
  go_wp2
  go_loopw [18] (fun i wr => ∃ j : Nat, j ≤ k5 ∧ i = .int .i64 j ∧ Blk wr (w.heap.size + 1) 47 (hx T j) ∧ Blk wr w.heap.size 25 [.int .i64 0, .int .i64 0, .int .i64 0, .int .i64 0, .bool false, .int .u64 0] ∧ wr.heap.size = w.heap.size + 2 ∧ Ext [] w wr) (fun i _ => k5 - (intOf i).toNat)
  case atStart =>
    refine ⟨0, Nat.zero_le _, rfl, ?_, ?_, by simp, ((Ext.refl _ _).alloc _).alloc _⟩
    · rw [hx_zero]; simpa using Blk.new (w.alloc _) 47 [.int .i64 0, .int .i64 0, .int .i64 0, .int .i64 0, .int .i64 0]
    · exact Blk.alloc (Blk.new w 25 [.int .i64 0, .int .i64 0, .int .i64 0, .int .i64 0, .bool false, .int .u64 0]) _
  case round =>
    obtain ⟨j, hj, rfl, hb1, hb0, hsz, hext⟩ := hrel
    have HB0 := Lib.hid hb0
    have HB1 := Lib.hid hb1
    have HE := Lib.hid hext
    by_cases hlt : j < k5
    · obtain ⟨x, hx1⟩ : ∃ x, T[j]? = some x := ⟨T[j]'(by have := HM.out; omega), by rw [List.getElem?_eq_getElem]⟩
      have cx := (hext.cell (p := ⟨b, j, none⟩) hb (by simp)).trans (HT.out j x hx1)
      have hxr := HY.out x (List.mem_of_getElem? hx1)
      obtain ⟨u, hu⟩ : ∃ u, (hx T j)[j]? = some u := ⟨(hx T j)[j]'(by rw [hx_length T j (by have := HM.out; omega) (by omega)]; omega), by rw [List.getElem?_eq_getElem]⟩
      have cu := hb1.cell hu
      have fu := hb1.free j
      have hj5 : (j : Int) < 5 := by omega
      have HX := Lib.hid hx1
      have HS := Lib.hid hsz
      clear hb0 hb1 hext hx1 hu
      go_wp2
      go_roundw
      case rel => exact ⟨j + 1, by omega, by go_num, by rw [← hx_set T j x (by omega) HX.out]; exact HB1.out.set j _, HB0.out.far (p := ⟨w.heap.size + 1, j, none⟩) (by simp) _, by simpa [World.setCell] using HS.out, HE.out.setCell (.inr (by simp)) _⟩
      case measure => simp [intOf]; omega
    · have e : k5 = j := by omega
      subst e
      have hg := fun i h => hb1.cell (hx_get T k5 i (by rw [HM.out]; exact HK.out) h)
      have c0 := hg 0 (by omega)
      have c1 := hg 1 (by omega)
      have c2 := hg 2 (by omega)
      have c3 := hg 3 (by omega)
      have c4 := hg 4 (by omega)
      have r0 := getD_range HY.out 0
      have r1 := getD_range HY.out 1
      have r2 := getD_range HY.out 2
      have r3 := getD_range HY.out 3
      have r4 := getD_range HY.out 4
      obtain ⟨S, hS⟩ : ∃ S, setupV T = S := ⟨_, rfl⟩
      have HSV := Lib.hid hS
      unfold setupV at hS
      generalize T.getD 0 0 = h0 at *
      generalize T.getD 1 0 = h1 at *
      generalize T.getD 2 0 = h2 at *
      generalize T.getD 3 0 = h3 at *
      generalize T.getD 4 0 = h4 at *
      have HSW := Lib.hid hS
      clear hg hS hb0 hb1 hext
      obtain ⟨A', hA', hsl⟩ : ∃ A' : Option Addr, (k5 < m → A' = some ⟨b, k5, none⟩) ∧ ∀ W, (Instr.slice 29 (.slice (some ⟨b, 0, none⟩) m cap) (some (.int .i64 (k5 : Int))) none none).run Try.prog W = .ok (.slice A' (m - k5) (cap - k5)) W := by
        refine ⟨if cap = k5 then some ⟨b, 0, none⟩ else some ⟨b, k5, none⟩, fun h => by rw [if_neg (by omega)], fun W => ?_⟩
        have h := run_slice_l W 29 (some ⟨b, 0, none⟩) m cap Try.underlying29 .i64 (k5 : Int) (by omega) (by omega)
        rw [h, show Try.prog.elem 29 = 5 from rfl, Try.sizeOf5]
        by_cases hck : cap = k5
        · simp [Result.andThen, sliced, hck]
        · have hck' : ¬ k5 = cap := fun h => hck h.symm
          by_cases h00 : k5 = 0
          · simp [Result.andThen, sliced, hck, h00, Addr.add]
          · simp [Result.andThen, sliced, hck, h00, Addr.add]
      have HA := Lib.hid hA'
      clear hA'
      have hmf : ∀ (fn : Fn) (first cap : Array Value) (w : World), (Instr.makeFunc fn first cap).run Try.prog w = .ok (.func fn first cap) w := fun _ _ _ _ => rfl
      obtain ⟨i0, hi, hz0, hz1, hz2⟩ := info_parts info38
      go_wp2
      have hrT : (T.drop 5).length ≤ 4096 := by have := HM.out; simp; omega
      go_loopg [8] (T.drop 5).length (fun g v wr => ∃ (r : List Int) (out : List St) (A : Option Addr) (c : Nat), r.length = g ∧ v = .slice A out.length c ∧ Hid (dec (T.drop 5) = out ++ dec r) ∧ Hid (Lp w wr [.int .i64 (1 + h0 % 8), .int .i64 (1 + h1 % 32), .int .i64 (1 + h2 % 16), .int .i64 (256 + 255 * h4), .bool (h3 % 2 == 1), .int .u64 0] v out r false))
      case atStart =>
        refine ⟨T.drop 5, [], none, 0, rfl, rfl, rfl, ?_⟩
        have hl5 : (T.drop 5).length = m - k5 := by have h1 := HM.out; have h2 := HK.out; simp; omega
        have hbl : ∀ k, k < w.heap.size + 2 → k < wr.heap.size := fun k hk => by omega
        have e1 : Ext [] wr (((wr.alloc (.cells #[.int .i64 (1 + h0 % 8), .int .i64 (1 + h1 % 32), .int .i64 (1 + h2 % 16), .int .i64 (256 + 255 * h4), .bool (h3 % 2 == 1), .int .u64 0] 25)).alloc (.cells #[.slice A' (m - k5) (cap - k5), .bool false] 50)).alloc (.cells #[.pointer (some ⟨w.heap.size + 2 + 1, 0, none⟩)] 48)) := (((Ext.refl _ _).alloc _).alloc _).alloc _
        refine ⟨World.ownsRow_nil _ _ _ _, ⟨by omega, ⟨A', cap - k5, ?_, by omega, ?_⟩, fun x hx => HY.out x (List.mem_of_mem_drop hx), by omega⟩, ?_, ?_, (HB0.out.ext e1 (by simp)), HE.out.trans e1, by simp; omega⟩
        · rw [hl5]
          have := (Blk.new (wr.alloc (.cells #[.int .i64 (1 + h0 % 8), .int .i64 (1 + h1 % 32), .int .i64 (1 + h2 % 16), .int .i64 (256 + 255 * h4), .bool (h3 % 2 == 1), .int .u64 0] 25)) 50 [.slice A' (m - k5) (cap - k5), .bool false]).alloc (.cells #[.pointer (some ⟨w.heap.size + 2 + 1, 0, none⟩)] 48)
          rw [World.size_alloc, hsz] at this
          exact this
        · by_cases hk : k5 < m
          · refine .inr ⟨b, k5, HA.out hk, hb, fun j x hj => ?_⟩
            have hk5' : k5 = 5 := by have := HK.out; omega
            rw [(HE.out.trans e1).cell (p := ⟨b, k5 + j, none⟩) hb (by simp)]
            rw [List.getElem?_drop] at hj
            rw [hk5']
            exact HT.out (5 + j) x hj
          · left
            exact List.eq_nil_of_length_eq_zero (by omega)
        · have := Blk.new ((wr.alloc (.cells #[.int .i64 (1 + h0 % 8), .int .i64 (1 + h1 % 32), .int .i64 (1 + h2 % 16), .int .i64 (256 + 255 * h4), .bool (h3 % 2 == 1), .int .u64 0] 25)).alloc (.cells #[.slice A' (m - k5) (cap - k5), .bool false] 50)) 48 [.pointer (some ⟨w.heap.size + 2 + 1, 0, none⟩)]
          rw [World.size_alloc, World.size_alloc, hsz] at this
          exact this
        · have := ((Blk.new wr 25 [.int .i64 (1 + h0 % 8), .int .i64 (1 + h1 % 32), .int .i64 (1 + h2 % 16), .int .i64 (256 + 255 * h4), .bool (h3 % 2 == 1), .int .u64 0]).alloc (.cells #[.slice A' (m - k5) (cap - k5), .bool false] 50)).alloc (.cells #[.pointer (some ⟨w.heap.size + 2 + 1, 0, none⟩)] 48)
          rw [hsz] at this
          exact this
      case round =>
        clear hsz c0 c1 c2 c3 c4 hsl hmin hmin2
        rename_i wro
        obtain ⟨r, out, A, c, hgr, rfl, hdec, hlp⟩ := hrel
        have HG := Lib.hid hgr
        have hof : out.length ≤ 4096 := by
          have h1 := congrArg List.length hdec.out
          rw [List.length_append] at h1
          have h2 := dec_le _ (T.drop 5) (Nat.le_refl _)
          omega
        have cp := hlp.out.hp.cell (k := 0) rfl
        have hrf := hlp.out.rd.few
        obtain ⟨A2, cap2, hbR, _, _⟩ := hlp.out.rd.out
        have cr := hbR.cell (k := 0) rfl
        have hsw := hlp.out.size
        clear hgr hbR
        cases r with
        | nil =>
          simp only [List.length_nil] at cr
          have d0 := hlp.out.hS.cell (k := 0) rfl
          have d1 := hlp.out.hS.cell (k := 1) rfl
          have d2 := hlp.out.hS.cell (k := 2) rfl
          have d3 := hlp.out.hS.cell (k := 3) rfl
          have d4 := hlp.out.hS.cell (k := 4) rfl
          have d5 := hlp.out.hS.cell (k := 5) rfl
          have z0 := hlp.out.hz.cell (k := 0) rfl
          have z1 := hlp.out.hz.cell (k := 1) rfl
          have z2 := hlp.out.hz.cell (k := 2) rfl
          have z3 := hlp.out.hz.cell (k := 3) rfl
          have z4 := hlp.out.hz.cell (k := 4) rfl
          have z5 := hlp.out.hz.cell (k := 5) rfl
          have f0 := hlp.out.hz.free 0
          have f1 := hlp.out.hz.free 1
          have f2 := hlp.out.hz.free 2
          have f3 := hlp.out.hz.free 3
          have f4 := hlp.out.hz.free 4
          have f5 := hlp.out.hz.free 5
          have HD : Hid (dec (T.drop 5) = out) := by have h := hdec.out; rw [dec_nil, List.append_nil] at h; exact h
          go_wp2
          refine bodyPost_ret (v := .tuple #[.agg #[.int .i64 (1 + h0 % 8), .int .i64 (1 + h1 % 32), .int .i64 (1 + h2 % 16), .int .i64 (256 + 255 * h4), .bool (h3 % 2 == 1), .int .u64 0], .slice A out.length c]) (by simp [results, Try.results6, go_sem, *]) rfl ?_
          refine dec_post (HSV.out.trans HSW.out.symm) HD.out (own_more hlp.out.own (by omega)) ?_ ?_
          rotate_left
          · exact (((((hlp.out.ext.setCell (.inr (by simp)) _).setCell (.inr (by simp)) _).setCell (.inr (by simp)) _).setCell (.inr (by simp)) _).setCell (.inr (by simp)) _).setCell (.inr (by simp)) _
          · exact ((((((Ext.refl [w.heap.size] _).setCell (.inl (by simp)) _).setCell (.inl (by simp)) _).setCell (.inl (by simp)) _).setCell (.inl (by simp)) _).setCell (.inl (by simp)) _).setCell (.inl (by simp)) _
        | cons k r =>
          simp only [List.length_cons] at cr hrf
          go_wp2_with (go_at_call 13; fail)
          refine (num_first _ _ _ k r hlp.out.rd).mono ?_
          rintro e w1 ⟨rfl, h1, e1⟩
          have hsw1 := e1.size
          have L1 := Lib.hid (hlp.out.go (L := [w.heap.size + 2 + 1]) e1 (by intro k hk; simp at hk; exact .inl hk) h1)
          clear h1 e1 cr cp
          have cp := L1.out.hp.cell (k := 0) rfl
          by_cases hkb : kindB k = true
          · have HKB := Lib.hid hkb
            clear hkb
            have hkr := (kindB_iff k).1 HKB.out
            have L2 := Lib.hid (L1.out.go (L := []) ((Ext.refl [] w1).alloc (.cells #[.int .i64 k, .int .i64 0, .int .i64 0, .int .i64 0, .int .i64 0, .int .i64 0, .int .i64 0, .int .i64 0, .string ⟨#[]⟩] 38)) (by simp) (L1.out.rd.ext (S := []) ((Ext.refl _ _).alloc _) (by simp) (by simp)))
            have B2 := Lib.hid (Blk.new w1 38 (st0 k).cells)
            go_wp2_with (first
              | (go_at_call 14; refine (kind_is k _ HKB.out).mono ?_; rintro e w' ⟨rfl, rfl⟩)
              | (go_at_call 15; fail))
            refine (number_any (w1.alloc (.cells #[.int .i64 k, .int .i64 0, .int .i64 0, .int .i64 0, .int .i64 0, .int .i64 0, .int .i64 0, .int .i64 0, .string ⟨#[]⟩] 38)) _ w.heap.size (w.heap.size + 2 + 1) (w.heap.size + 2 + 1 + 1) w1.heap.size (st0 k) r false hkr.1 hkr.2 ⟨L2.out.rd, L2.out.hp, B2.out, Ext.refl _ _, by omega⟩).mono ?_
            rintro e w3 ⟨rfl, hd⟩
            have hqk := runS_k (fieldsOf k) (st0 k, r, false) (fields_ok k)
            obtain ⟨q, hq⟩ : ∃ q, runS (fieldsOf k) (st0 k, r, false) = q := ⟨_, rfl⟩
            have hent : entryS k r = if k = 3 then ({ q.1 with v := textV q.2.1 }, textL q.2.1, textO q.2.1 q.2.2) else q := by rw [← hq]; rfl
            have hle := runS_le (fieldsOf k) (st0 k, r, false)
            rw [show (st0 k).k = k from rfl] at hd
            rw [hq] at hd hqk hle
            obtain ⟨⟨xk, xn, xt, xp, xs, xo, xc, xm, xv⟩, r3, o3⟩ := q
            obtain rfl : xk = k := hqk
            have E3 := Lib.hid ((((Ext.refl [w.heap.size + 2 + 1, w1.heap.size] w1).alloc _)).trans hd.ext)
            have hin : ∀ k ∈ [w.heap.size + 2 + 1, w1.heap.size], k = w.heap.size + 2 + 1 ∨ w1.heap.size ≤ k := by intro k hk; simp at hk; omega
            have HIN := Lib.hid hin
            have L3 := Lib.hid (L1.out.go E3.out HIN.out hd.rd)
            clear hin
            have hsw3 := hd.ext.size
            rw [World.size_alloc] at hsw3
            have B3 := Lib.hid hd.hs
            have HENT := Lib.hid hent
            have HQ := Lib.hid hq
            have HLE := Lib.hid hle
            clear hd hent hq hle cp
            have hn1 : w1.heap.size ≠ w.heap.size + 2 + 1 := by omega
            have hn2 : w1.heap.size ≠ w.heap.size + 2 := by omega
            have hn3 : w1.heap.size ≠ w.heap.size := by omega
            have hn4 : w1.heap.size ≠ w.heap.size + 2 + 1 + 1 := by omega
            have cp := L3.out.hp.cell (k := 0) rfl
            have x0 := B3.out.cell (k := 0) rfl
            have x1 := B3.out.cell (k := 1) rfl
            have x2 := B3.out.cell (k := 2) rfl
            have x3 := B3.out.cell (k := 3) rfl
            have x4 := B3.out.cell (k := 4) rfl
            have x5 := B3.out.cell (k := 5) rfl
            have x6 := B3.out.cell (k := 6) rfl
            have x7 := B3.out.cell (k := 7) rfl
            have x8 := B3.out.cell (k := 8) rfl
            have y8 := B3.out.free 8
            by_cases hk3 : xk = 3
            · subst hk3
              have HENT3 := HENT.out
              rw [if_pos rfl] at HENT3
              have HENT4 := Lib.hid HENT3
              clear HENT3
              go_wp2_with (go_at_call 17; fail)
              refine (text_any _ _ _ r3 o3 L3.out.rd).mono ?_
              rintro e w4 ⟨rfl, h4, e4⟩
              have E4 := Lib.hid (E3.out.trans (e4.mono (by intro k hk; simp at hk ⊢; exact .inl hk)))
              have B4 := Lib.hid (B3.out.ext e4 (by simp; omega))
              have R4 := Lib.hid h4
              have hsw4 := e4.size
              clear x0 x1 x2 x3 x4 x5 x6 x7 x8 y8 cp h4 e4
              have hz8 := B4.out.cell (k := 8) rfl
              have y8 := B4.out.free 8
              have E5 := Lib.hid (E4.out.setCell (p := ⟨w1.heap.size, 8, none⟩) (.inl (by simp)) (.string (textV r3)))
              have e5 : Ext [w1.heap.size] w4 (w4.setCell ⟨w1.heap.size, 8, none⟩ (.string (textV r3))) := (Ext.refl _ _).setCell (.inl (by simp)) _
              have L5 := Lib.hid (L1.out.go E5.out HIN.out (R4.out.ext e5 (by simp; omega) (by intro k hk; simp at hk; omega)))
              have B5 := Lib.hid (B4.out.set 8 (.string (textV r3)))
              have HLE2 := Lib.hid (textL_le r3)
              clear e5
              have cp := (L1.out.go E4.out HIN.out R4.out).hp.cell (k := 0) rfl
              obtain ⟨A5, cap5, hb5, _, _⟩ := R4.out.out
              have cr0 := hb5.cell (k := 0) rfl
              have cr1 := hb5.cell (k := 1) rfl
              clear hb5
              generalize textV r3 = tv at *
              generalize textL r3 = r4 at *
              generalize textO r3 o3 = o4 at *
              have x0 := B4.out.cell (k := 0) rfl
              have x1 := B4.out.cell (k := 1) rfl
              have x2 := B4.out.cell (k := 2) rfl
              have x3 := B4.out.cell (k := 3) rfl
              have x4 := B4.out.cell (k := 4) rfl
              have x5 := B4.out.cell (k := 5) rfl
              have x6 := B4.out.cell (k := 6) rfl
              have x7 := B4.out.cell (k := 7) rfl
              have hL4 := Lib.hid (L1.out.go E4.out HIN.out R4.out)
              cases o4 with
              | true =>
                have d0 := hL4.out.hS.cell (k := 0) rfl
                have d1 := hL4.out.hS.cell (k := 1) rfl
                have d2 := hL4.out.hS.cell (k := 2) rfl
                have d3 := hL4.out.hS.cell (k := 3) rfl
                have d4 := hL4.out.hS.cell (k := 4) rfl
                have d5 := hL4.out.hS.cell (k := 5) rfl
                have z0 := hL4.out.hz.cell (k := 0) rfl
                have z1 := hL4.out.hz.cell (k := 1) rfl
                have z2 := hL4.out.hz.cell (k := 2) rfl
                have z3 := hL4.out.hz.cell (k := 3) rfl
                have z4 := hL4.out.hz.cell (k := 4) rfl
                have z5 := hL4.out.hz.cell (k := 5) rfl
                have f0 := hL4.out.hz.free 0
                have f1 := hL4.out.hz.free 1
                have f2 := hL4.out.hz.free 2
                have f3 := hL4.out.hz.free 3
                have f4 := hL4.out.hz.free 4
                have f5 := hL4.out.hz.free 5
                have HD : Hid (dec (T.drop 5) = out) := by have h := hdec.out; rw [dec_over HKB.out (by rw [HENT4.out]), List.append_nil] at h; exact h
                go_wp2
                refine bodyPost_ret (v := .tuple #[.agg #[.int .i64 (1 + h0 % 8), .int .i64 (1 + h1 % 32), .int .i64 (1 + h2 % 16), .int .i64 (256 + 255 * h4), .bool (h3 % 2 == 1), .int .u64 0], .slice A out.length c]) (by simp [results, Try.results6, go_sem, *]) rfl ?_
                refine dec_post (HSV.out.trans HSW.out.symm) HD.out (own_more L5.out.own (by omega)) ?_ ?_
                rotate_left
                · exact (((((L5.out.ext.setCell (.inr (by simp)) _).setCell (.inr (by simp)) _).setCell (.inr (by simp)) _).setCell (.inr (by simp)) _).setCell (.inr (by simp)) _).setCell (.inr (by simp)) _
                · exact ((((((Ext.refl [w.heap.size] _).setCell (.inl (by simp)) _).setCell (.inl (by simp)) _).setCell (.inl (by simp)) _).setCell (.inl (by simp)) _).setCell (.inl (by simp)) _).setCell (.inl (by simp)) _
              | false =>
                have X := L5.out.own.lt
                have HX := Lib.hid X
                clear X
                go_wp2_with (at_builtin; refine wpList_append_lies _ rfl (.tmp 82) (.tmp 84) 26 rfl (w.heap.size + 5) 38 i0 (.agg #[.int .i64 0, .int .i64 0, .int .i64 0, .int .i64 0, .int .i64 0, .int .i64 0, .int .i64 0, .int .i64 0, .string ByteArray.empty]) 9 80 Try.underlying26 hi hz0 hz1 hz2 rfl (by decide) _ _ _ rfl (L5.out.own.alloc _) _ 1 1 (St.mk 3 xn xt xp xs xo xc xm tv).cells rfl rfl ?c1 ?c2 (by omega) ?c3 ?c4 ?c5 _ rfl ?kk)
                case c1 =>
                  intro i u hu
                  match i, hu with
                  | 0, hu => simp [St.cells] at hu; subst hu; simp [Addr.add]; try (rw [World.cell?_alloc_at (hn := by simp)]; rfl)
                  | 1, hu => simp [St.cells] at hu; subst hu; simp [Addr.add]; try (rw [World.cell?_alloc_at (hn := by simp)]; rfl)
                  | 2, hu => simp [St.cells] at hu; subst hu; simp [Addr.add]; try (rw [World.cell?_alloc_at (hn := by simp)]; rfl)
                  | 3, hu => simp [St.cells] at hu; subst hu; simp [Addr.add]; try (rw [World.cell?_alloc_at (hn := by simp)]; rfl)
                  | 4, hu => simp [St.cells] at hu; subst hu; simp [Addr.add]; try (rw [World.cell?_alloc_at (hn := by simp)]; rfl)
                  | 5, hu => simp [St.cells] at hu; subst hu; simp [Addr.add]; try (rw [World.cell?_alloc_at (hn := by simp)]; rfl)
                  | 6, hu => simp [St.cells] at hu; subst hu; simp [Addr.add]; try (rw [World.cell?_alloc_at (hn := by simp)]; rfl)
                  | 7, hu => simp [St.cells] at hu; subst hu; simp [Addr.add]; try (rw [World.cell?_alloc_at (hn := by simp)]; rfl)
                  | 8, hu => simp [St.cells] at hu; subst hu; simp [Addr.add]; try (rw [World.cell?_alloc_at (hn := by simp)]; rfl)
                case c2 => exact St.cells_one _
                case c3 => unfold maxLen; omega
                case c4 => omega
                case c5 => simp; omega
                case kk =>
                  intro gg capn w6 hown hgrow hat hgl
                  have L6 := Lib.hid (L5.out.app _ hown hgrow)
                  clear hown hgrow hat
                  go_wp2
                  go_roundg r4.length
                  case measure => have h1 := HG.out; have h2 := HLE.out; have h3 := HLE2.out; simp only [List.length_cons] at h1; omega
                  case rel => exact ⟨r4, out ++ [St.mk 3 xn xt xp xs xo xc xm tv], some ⟨gg, 0, none⟩, capn, rfl, by simp, by have h := hdec.out; unfold Hid; rw [dec_step HKB.out (by rw [HENT4.out])] at h; rw [HENT4.out] at h; simpa using h, L6.out⟩
            · have HENT3 := HENT.out
              rw [if_neg hk3] at HENT3
              have HENT4 := Lib.hid HENT3
              clear HENT3
              obtain ⟨A5, cap5, hb5, _, _⟩ := L3.out.rd.out
              have cr0 := hb5.cell (k := 0) rfl
              have cr1 := hb5.cell (k := 1) rfl
              clear hb5
              have hkq : (xk == 3) = false := by simpa using hk3
              cases o3 with
              | true =>
                have d0 := L3.out.hS.cell (k := 0) rfl
                have d1 := L3.out.hS.cell (k := 1) rfl
                have d2 := L3.out.hS.cell (k := 2) rfl
                have d3 := L3.out.hS.cell (k := 3) rfl
                have d4 := L3.out.hS.cell (k := 4) rfl
                have d5 := L3.out.hS.cell (k := 5) rfl
                have z0 := L3.out.hz.cell (k := 0) rfl
                have z1 := L3.out.hz.cell (k := 1) rfl
                have z2 := L3.out.hz.cell (k := 2) rfl
                have z3 := L3.out.hz.cell (k := 3) rfl
                have z4 := L3.out.hz.cell (k := 4) rfl
                have z5 := L3.out.hz.cell (k := 5) rfl
                have f0 := L3.out.hz.free 0
                have f1 := L3.out.hz.free 1
                have f2 := L3.out.hz.free 2
                have f3 := L3.out.hz.free 3
                have f4 := L3.out.hz.free 4
                have f5 := L3.out.hz.free 5
                have HD : Hid (dec (T.drop 5) = out) := by have h := hdec.out; rw [dec_over HKB.out (by rw [HENT4.out]), List.append_nil] at h; exact h
                go_wp2
                refine bodyPost_ret (v := .tuple #[.agg #[.int .i64 (1 + h0 % 8), .int .i64 (1 + h1 % 32), .int .i64 (1 + h2 % 16), .int .i64 (256 + 255 * h4), .bool (h3 % 2 == 1), .int .u64 0], .slice A out.length c]) (by simp [results, Try.results6, go_sem, *]) rfl ?_
                refine dec_post (HSV.out.trans HSW.out.symm) HD.out (own_more L3.out.own (by omega)) ?_ ?_
                rotate_left
                · exact (((((L3.out.ext.setCell (.inr (by simp)) _).setCell (.inr (by simp)) _).setCell (.inr (by simp)) _).setCell (.inr (by simp)) _).setCell (.inr (by simp)) _).setCell (.inr (by simp)) _
                · exact ((((((Ext.refl [w.heap.size] _).setCell (.inl (by simp)) _).setCell (.inl (by simp)) _).setCell (.inl (by simp)) _).setCell (.inl (by simp)) _).setCell (.inl (by simp)) _).setCell (.inl (by simp)) _
              | false =>
                have X := L3.out.own.lt
                have HX := Lib.hid X
                clear X
                go_wp2_with (at_builtin; refine wpList_append_lies _ rfl (.tmp 82) (.tmp 84) 26 rfl (w.heap.size + 5) 38 i0 (.agg #[.int .i64 0, .int .i64 0, .int .i64 0, .int .i64 0, .int .i64 0, .int .i64 0, .int .i64 0, .int .i64 0, .string ByteArray.empty]) 9 80 Try.underlying26 hi hz0 hz1 hz2 rfl (by decide) _ _ _ rfl (L3.out.own.alloc _) _ 1 1 (St.mk xk xn xt xp xs xo xc xm xv).cells rfl rfl ?c1 ?c2 (by omega) ?c3 ?c4 ?c5 _ rfl ?kk)
                case c1 =>
                  intro i u hu
                  match i, hu with
                  | 0, hu => simp [St.cells] at hu; subst hu; simp [Addr.add]; try (rw [World.cell?_alloc_at (hn := by simp)]; rfl)
                  | 1, hu => simp [St.cells] at hu; subst hu; simp [Addr.add]; try (rw [World.cell?_alloc_at (hn := by simp)]; rfl)
                  | 2, hu => simp [St.cells] at hu; subst hu; simp [Addr.add]; try (rw [World.cell?_alloc_at (hn := by simp)]; rfl)
                  | 3, hu => simp [St.cells] at hu; subst hu; simp [Addr.add]; try (rw [World.cell?_alloc_at (hn := by simp)]; rfl)
                  | 4, hu => simp [St.cells] at hu; subst hu; simp [Addr.add]; try (rw [World.cell?_alloc_at (hn := by simp)]; rfl)
                  | 5, hu => simp [St.cells] at hu; subst hu; simp [Addr.add]; try (rw [World.cell?_alloc_at (hn := by simp)]; rfl)
                  | 6, hu => simp [St.cells] at hu; subst hu; simp [Addr.add]; try (rw [World.cell?_alloc_at (hn := by simp)]; rfl)
                  | 7, hu => simp [St.cells] at hu; subst hu; simp [Addr.add]; try (rw [World.cell?_alloc_at (hn := by simp)]; rfl)
                  | 8, hu => simp [St.cells] at hu; subst hu; simp [Addr.add]; try (rw [World.cell?_alloc_at (hn := by simp)]; rfl)
                case c2 => exact St.cells_one _
                case c3 => unfold maxLen; omega
                case c4 => omega
                case c5 => simp; omega
                case kk =>
                  intro gg capn w6 hown hgrow hat hgl
                  have L6 := Lib.hid (L3.out.app _ hown hgrow)
                  clear hown hgrow hat
                  go_wp2
                  go_roundg r3.length
                  case measure => have h1 := HG.out; have h2 := HLE.out; simp only [List.length_cons] at h1; omega
                  case rel => exact ⟨r3, out ++ [St.mk xk xn xt xp xs xo xc xm xv], some ⟨gg, 0, none⟩, capn, rfl, by simp, by have h := hdec.out; unfold Hid; rw [dec_step HKB.out (by rw [HENT4.out])] at h; rw [HENT4.out] at h; simpa using h, L6.out⟩
          · have hkf : kindB k = false := by simpa using hkb
            have HKF := Lib.hid hkf
            have HW := Lib.hid (L1.out.go (L := []) ((Ext.refl [] w1).alloc (.cells #[.int .i64 k, .int .i64 0, .int .i64 0, .int .i64 0, .int .i64 0, .int .i64 0, .int .i64 0, .int .i64 0, .string ⟨#[]⟩] 38)) (by simp) (L1.out.rd.ext (S := []) ((Ext.refl _ _).alloc _) (by simp) (by simp)))
            clear hkb hkf
            go_wp2_with (go_at_call 14; refine (kind_is k _ HKF.out).mono ?_; rintro e w' ⟨rfl, rfl⟩)
            go_roundg r.length
            case measure => have := HG.out; simp at this; omega
            case rel => exact ⟨r, out, A, c, rfl, rfl, by have h := hdec.out; rw [dec_odd HKF.out] at h; exact h, HW.out⟩

end Go.Proofs.Ythedllndcibkcaa
