/- PoolAny: a pool of texts and a pool of their lengths go the same way. -/
import Derived.Test.YtkdmilchklmefaaScript
import Derived.Test.YtkdmilchklmefaaTotI
import Derived.Test.YtkdmilchklmefaaNewI
import Derived.Test.YtkdmilchklmefaaSame
namespace Go.Proofs.Ytkdmilchklmefaa
open Go.RowKit
set_option linter.unusedVariables false
set_option linter.unusedSimpArgs false

/-- A frame that holds another thing. -/
def mapF {X Y : Type} (m : X → Y) (f : Fr X) : Fr Y := ⟨f.there, f.id, m f.x, f.mark, f.fixes, f.dirty, f.rc⟩
section
variable {X Y : Type} (m : X → Y)
theorem find_map (F : List (Fr X)) (id : Int) : find (F.map (mapF m)) id = find F id := by
  unfold find; rw [List.findIdx?_map]; rfl
theorem empty_map (F : List (Fr X)) : empty (F.map (mapF m)) = empty F := by
  unfold empty; rw [List.findIdx?_map]; rfl
theorem frOf_map (F : List (Fr X)) (id : Int) : frOf (F.map (mapF m)) id = (frOf F id).map (mapF m) := by
  unfold frOf; rw [find_map]; cases find F id <;> simp
theorem upd_map (F : List (Fr X)) (id : Int) {u : Fr X → Fr X} {u' : Fr Y → Fr Y} (h : ∀ f, u' (mapF m f) = mapF m (u f)) : upd (F.map (mapF m)) id u' = (upd F id u).map (mapF m) := by
  unfold upd; rw [find_map]
  cases find F id with
  | none => rfl
  | some i =>
    simp only [List.getElem?_map]
    cases F[i]? with
    | none => rfl
    | some f => simp only [Option.map_some, h, List.map_set]
theorem ans_map (F : List (Fr X)) (id : Int) {k : Fr X → Int} {k' : Fr Y → Int} (h : ∀ f, k' (mapF m f) = k f) : ans (F.map (mapF m)) id k' = ans F id k := by
  unfold ans; rw [frOf_map]; cases frOf F id <;> simp [h]
theorem putE_map (F : List (Fr X)) (id : Int) : putE (F.map (mapF m)) id = putE F id := by unfold putE; rw [find_map, empty_map]
theorem putL_map (F : List (Fr X)) (id : Int) (x : X) : putL (F.map (mapF m)) id (m x) = (putL F id x).map (mapF m) := by
  unfold putL; rw [find_map, empty_map]
  split
  · cases find F id with
    | some _ => rfl
    | none =>
      cases empty F with
      | none => rfl
      | some i => simp only [List.map_set]; rfl
  · rfl
theorem vict_map (k : Nat) : ∀ (F : List (Fr X)) (h : Nat), vict k (F.map (mapF m)) h = (vict k F h).map fun r => (r.1, r.2.1.map (mapF m), r.2.2) := by
  induction k with
  | zero => intro F h; rfl
  | succ k ih =>
    intro F h
    unfold vict
    rw [List.getElem?_map]
    cases hf : F[h]? with
    | none => rfl
    | some f =>
      simp only [Option.map_some, List.length_map]
      have e1 : cand (mapF m f) = cand f := rfl
      have e2 : (mapF m f).mark = f.mark := rfl
      rw [e1, e2]
      split
      · split
        · have e3 : (F.map (mapF m)).set h { mapF m f with mark := false } = (F.set h { f with mark := false }).map (mapF m) := by rw [List.map_set]; rfl
          rw [e3]; exact ih _ _
        · rfl
      · exact ih _ _
theorem vic_map (F : List (Fr X)) (h : Nat) : vic (F.map (mapF m)) h = ((vic F h).1, (vic F h).2.1, (vic F h).2.2.1.map (mapF m), (vic F h).2.2.2) := by
  unfold vic
  have ea : (F.map (mapF m)).any cand = F.any cand := by rw [List.any_map]; rfl
  rw [ea, List.length_map, vict_map]
  split
  · cases vict (2 * F.length + 1) F h <;> rfl
  · rfl
theorem set_map (x : X) (n : Int) (f : Fr X) : setU (m x) n (mapF m f) = mapF m (setU x n f) := by
  unfold setU
  have e : (mapF m f).dirty = f.dirty := rfl
  rw [e]; split <;> rfl
theorem unf_map (f : Fr X) : unfU (mapF m f) = mapF m (unfU f) := by
  unfold unfU
  have e : (mapF m f).fixes = f.fixes := rfl
  rw [e]; split <;> rfl
theorem drp_map (z : X) (f : Fr X) : drpU (m z) (mapF m f) = mapF m (drpU z f) := by
  unfold drpU
  have e : (mapF m f).fixes = f.fixes := rfl
  rw [e]; split <;> rfl
theorem step_map (z v : X) (F : List (Fr X)) (h : Nat) (k id n : Int) : step (m z) (m v) (F.map (mapF m)) h k id n = ((step z v F h k id n).1, (step z v F h k id n).2.1.map (mapF m), (step z v F h k id n).2.2) := by
  unfold step
  split
  · rw [upd_map m F id (u := mrkU) (fun f => rfl)]
  split
  · rw [putE_map, putL_map]
  split
  · rw [upd_map m F id (u := setU v n) (set_map m v n), ans_map m F id (k := fun _ => 0) (fun _ => rfl)]
  split
  · rw [upd_map m F id (u := clnU) (fun f => rfl), ans_map m F id (k := fun _ => 0) (fun _ => rfl)]
  split
  · rw [upd_map m F id (u := fixU) (fun f => rfl), ans_map m F id (k := fun _ => 0) (fun _ => rfl)]
  split
  · rw [upd_map m F id (u := unfU) (unf_map m), ans_map m F id (k := unfK) (fun _ => rfl)]
  split
  · rw [vic_map]
  split
  · rw [upd_map m F id (u := drpU z) (drp_map m z), ans_map m F id (k := drpK) (fun _ => rfl)]
  · rfl
theorem pgN_map (F : List (Fr X)) (n : Nat) : pgN (F.map (mapF m)) n = pgN F n := by unfold pgN; simp only [find_map]
theorem recF_map (F : List (Fr X)) (id : Int) : recF (F.map (mapF m)) id = recF F id := by
  unfold recF; rw [find_map]
  cases find F id with
  | none => rfl
  | some i => simp only [List.getElem?_map]; cases F[i]? <;> rfl
theorem drL_map (F : List (Fr X)) (l : List Int) : drL (F.map (mapF m)) l = drL F l := by unfold drL; simp only [recF_map]
theorem xOf_map (z : X) (F : List (Fr X)) (id : Int) : xOf (m z) (F.map (mapF m)) id = m (xOf z F id) := by
  unfold xOf; rw [frOf_map]; cases frOf F id <;> rfl
end

/-- A text's length. -/
def szN (x : ByteArray) : Int := (x.size : Int)
abbrev lenF (F : List (Fr ByteArray)) : List (Fr Int) := F.map (mapF szN)
theorem ido_len (w : World) (b g h : Nat) (F : List (Fr ByteArray)) (hp : iPool w b g (lenF F) h) (hF : Few 1000000 F) (k id : Int) (x : ByteArray) (n : Int) :
    Calls Try.prog 28 #[.pointer (some ⟨b, 0, none⟩), .agg #[.int .i64 k, .int .i64 id, .string x, .int .u64 n]] w fun e w' => e = .returned (.tuple #[.int .i64 (step ByteArray.empty x F h k id n).1.1, .int .i64 (step ByteArray.empty x F h k id n).1.2]) ∧
      iPU w w' b g (lenF (step ByteArray.empty x F h k id n).2.1) (step ByteArray.empty x F h k id n).2.2 := by
  have hF' : Few 1000000 (lenF F) := by
    intro f hf
    obtain ⟨q, hq, rfl⟩ := List.mem_map.1 hf
    exact hF q hq
  have := ido_any w b g h (lenF F) hp hF' k id x n
  rw [show step 0 (x.size : Int) (lenF F) h k id n = _ from step_map szN ByteArray.empty x F h k id n] at this
  exact this
theorem iget_len (w : World) (b g h : Nat) (F : List (Fr ByteArray)) (hp : iPool w b g (lenF F) h) (id : Int) :
    Calls Try.prog 29 #[.pointer (some ⟨b, 0, none⟩), .int .i64 id] w fun e w' => e = .returned (.tuple #[.int .i64 ((xOf ByteArray.empty F id).size : Int), .bool (find F id).isSome]) ∧ iPU w w' b g (lenF (upd F id mrkU)) h := by
  have := iget_any w b g h (lenF F) hp id
  rw [show xOf 0 (lenF F) id = _ from xOf_map szN ByteArray.empty F id, find_map, upd_map szN F id (u := mrkU) (fun f => rfl)] at this
  exact this

/-- Both pools, and the world they began in. -/
structure AS (w : World) (b1 g1 b2 g2 : Nat) (wr : World) (F : List (Fr ByteArray)) (h : Nat) (K : Int) : Prop where
  p : sPool wr b1 g1 F h
  q : iPool wr b2 g2 (lenF F) h
  few : Few K F
  ext : Ext [] w wr
  n1 : w.heap.size ≤ b1 ∧ w.heap.size ≤ g1
  n2 : w.heap.size ≤ b2 ∧ w.heap.size ≤ g2
section
variable {w wr w1 w2 : World} {b1 g1 b2 g2 h h' : Nat} {F F' : List (Fr ByteArray)} {K K' : Int}
theorem AS.apart (a : AS w b1 g1 b2 g2 wr F h K) : b2 ≠ b1 ∧ b2 ≠ g1 ∧ g2 ≠ b1 ∧ g2 ≠ g1 :=
  ⟨a.q.hd.apart a.p.hd (by decide), a.q.hd.apart a.p.hc (by decide), a.q.hc.apart a.p.hd (by decide), a.q.hc.apart a.p.hc (by decide)⟩
theorem AS.other (a : AS w b1 g1 b2 g2 wr F h K) (u : sPU wr w1 b1 g1 F' h') : iPool w1 b2 g2 (lenF F) h := by
  obtain ⟨h1, h2, h3, h4⟩ := a.apart
  exact a.q.ext u.2 (by simp [h1, h2]) (by simp [h3, h4])
theorem AS.step (a : AS w b1 g1 b2 g2 wr F h K) (u : sPU wr w1 b1 g1 F' h') (v : iPU w1 w2 b2 g2 (lenF F') h') (hF : Few K' F') : AS w b1 g1 b2 g2 w2 F' h' K' := by
  obtain ⟨h1, h2, h3, h4⟩ := a.apart
  refine ⟨u.1.ext v.2 (by simp; exact ⟨fun e => h1 e.symm, fun e => h3 e.symm⟩) (by simp; exact ⟨fun e => h2 e.symm, fun e => h4 e.symm⟩), v.1, hF, ?_, a.n1, a.n2⟩
  have n1 := a.n1
  have n2 := a.n2
  exact (a.ext.new u.2 (by intro x hx; simp at hx; omega)).new v.2 (by intro x hx; simp at hx; omega)
theorem AS.same (a : AS w b1 g1 b2 g2 wr F h K) (e : Ext [] wr w1) : AS w b1 g1 b2 g2 w1 F h K := ⟨a.p.same e, a.q.same e, a.few, a.ext.trans e, a.n1, a.n2⟩
end

set_option maxHeartbeats 2000000 in
theorem pany_many (frames : Int) (A : Option Addr) (n c : Nat) (w : World) (hn : 300 < n) :
    Calls Try.prog 7 #[.int .i64 frames, .slice A n c] w fun e w' => e = .returned (.bool true) ∧ Ext [] w w' := by
  have hn2 : (300 : Int) < (n : Int) := by omega
  go_enter Try.func7, Try.ntmps7
  go_wp2_with (go_at_call 9; fail)
  refine (awake_any _).mono ?_
  rintro e w1 ⟨rfl, E1⟩
  have HE1 := Lib.hid E1
  clear E1
  go_wp2_with (go_at_call 9; fail)
  refine (awake_any _).mono ?_
  rintro e w2 ⟨rfl, E2⟩
  have HE2 := Lib.hid (HE1.out.trans E2)
  clear E2
  go_wp2
  go_ret
  exact ⟨rfl, HE2.out⟩

set_option maxRecDepth 100000 in
set_option maxHeartbeats 8000000 in
theorem pany_few (frames : Int) (A : Option Addr) (c : Nat) (l : List Op) (w : World) (hn : l.length ≤ 300) (hO : Ops w A l) :
    Calls Try.prog 7 #[.int .i64 frames, .slice A l.length c] w fun e w' => e = .returned (.bool true) ∧ Ext [] w w' := by
  have hn2 : ¬ (300 : Int) < (l.length : Int) := by omega
  have HO := Lib.hid hO
  clear hO
  go_enter Try.func7, Try.ntmps7
  go_wp2_with (go_at_call 9; fail)
  refine (awake_any _).mono ?_
  rintro e w0 ⟨rfl, E0⟩
  have HE0 := Lib.hid E0
  clear E0
  go_wp2_with (go_at_call 10; fail)
  refine (snew_any frames w0).mono ?_
  rintro e w1 ⟨rfl, D1, E1⟩
  have HD1 := Lib.hid D1
  have HE1 := Lib.hid E1
  clear D1 E1
  go_wp2_with (go_at_call 26; fail)
  refine (inew_any frames w1).mono ?_
  rintro e w2 ⟨rfl, D2, E2⟩
  have hAS : ∃ b1 g1 b2 g2, b1 = w0.heap.size + 1 ∧ b2 = w1.heap.size + 1 ∧ AS w b1 g1 b2 g2 w2 (List.replicate (many frames).toNat szero) 0 0 := by
    have s0 := HE0.out.size
    have s1 := HE1.out.size
    refine ⟨w0.heap.size + 1, w0.heap.size, w1.heap.size + 1, w1.heap.size, rfl, rfl, HD1.out.same E2, ?_, Few.rep _ _ rfl (by omega), (HE0.out.trans HE1.out).trans E2, by omega, by omega⟩
    have : lenF (List.replicate (many frames).toNat szero) = List.replicate (many frames).toNat izero := by rw [lenF, List.map_replicate]; rfl
    rw [this]; exact D2
  clear HD1 HE1 D2 E2 HE0
  obtain ⟨b1, g1, b2, g2, hb1, hb2, hAS⟩ := hAS
  rw [← hb1, ← hb2]
  generalize List.replicate (many frames).toNat szero = F0 at *
  have HA := Lib.hid hAS
  clear hAS hb1 hb2
  go_wp2
  go_loopw [36] (fun i wr => ∃ j : Nat, j ≤ l.length ∧ i = .int .i64 j ∧ ∃ F h, AS w b1 g1 b2 g2 wr F h j) (fun i _ => l.length - (intOf i).toNat)
  case atStart => exact ⟨0, Nat.zero_le _, rfl, F0, 0, HA.out⟩
  case round =>
    obtain ⟨j, hj, rfl, F, h, hA⟩ := hrel
    by_cases hlt : j < l.length
    · obtain ⟨o, hx⟩ : ∃ o, l[j]? = some o := ⟨l[j], by simp [hlt]⟩
      obtain ⟨ab, off, rfl, hab, c0, c1, c2, c3⟩ := (HO.out.ext hA.ext).at_ hx
      have hlt2 : ab < w.heap.size := by
        obtain ⟨ab', off', he, hab', _⟩ := HO.out.at_ hx
        injection he with he
        injection he with he1 he2
        subst he1; exact hab'
      have hfew : Few 1000000 F := hA.few.mono (by omega)
      obtain ⟨ok, op, ox, on⟩ := o
      simp only [] at c0 c1 c2 c3
      have HFW := Lib.hid hfew
      have HA1 := Lib.hid hA
      have HX := Lib.hid hlt2
      clear hx hfew hA hlt2
      go_wp2_with (go_at_call 27; fail)
      refine (sdo_any _ b1 g1 h F HA1.out.p HFW.out ok op ox on).mono ?_
      rintro e w3 ⟨rfl, U1⟩
      have cc : ∀ (w' : World), Ext [b1, g1, b2, g2] wr w' → w'.cell? ⟨ab, off + j * 4, none⟩ = some (.int .i64 ok) ∧ w'.cell? ⟨ab, off + j * 4 + 1, none⟩ = some (.int .i64 op) ∧ w'.cell? ⟨ab, off + j * 4 + 2, none⟩ = some (.string ox) ∧ w'.cell? ⟨ab, off + j * 4 + 3, none⟩ = some (.int .u64 on) := by
        intro w' he
        have n1 := HA1.out.n1
        have n2 := HA1.out.n2
        have hx2 := HX.out
        have hz := HA1.out.ext.size
        have hni : ab ∉ [b1, g1, b2, g2] := by simp; omega
        exact ⟨(he.cell (by simp; omega) hni).trans c0, (he.cell (by simp; omega) hni).trans c1, (he.cell (by simp; omega) hni).trans c2, (he.cell (by simp; omega) hni).trans c3⟩
      have HC := Lib.hid cc
      have HU1 := Lib.hid U1
      have HI1 := Lib.hid (HA1.out.other U1)
      obtain ⟨d0, d1, d2, d3⟩ := cc w3 (U1.2.mono (by intro x hx; simp at hx ⊢; omega))
      clear cc U1 c0 c1 c2 c3
      go_wp2_with (go_at_call 28; fail)
      refine (ido_len _ b2 g2 h F HI1.out HFW.out ok op ox on).mono ?_
      rintro e w4 ⟨rfl, U2⟩
      have hA2 := HA1.out.step HU1.out U2 (step_few _ _ _ _ _ _ _ HA1.out.few (by omega))
      obtain ⟨d0, d1, d2, d3⟩ := HC.out w4 ((HU1.out.2.mono (by intro x hx; simp at hx ⊢; omega)).trans (U2.2.mono (by intro x hx; simp at hx ⊢; omega)))
      have he4 : Ext [b1, g1, b2, g2] wr w4 := (HU1.out.2.mono (by intro x hx; simp at hx ⊢; omega)).trans (U2.2.mono (by intro x hx; simp at hx ⊢; omega))
      clear HU1 HI1 U2
      generalize (step ByteArray.empty ox F h ok op on).1.1 = r1 at *
      generalize (step ByteArray.empty ox F h ok op on).1.2 = r2 at *
      generalize (step ByteArray.empty ox F h ok op on).2.1 = F1 at *
      generalize (step ByteArray.empty ox F h ok op on).2.2 = h1 at *
      have HA2 := Lib.hid hA2
      have HE4 := Lib.hid he4
      clear hA2 he4
      go_wp2_with (go_at_call 21; fail)
      refine (sget_any _ b1 g1 h1 F1 HA2.out.p op).mono ?_
      rintro e w5 ⟨rfl, U3⟩
      have HI3 := Lib.hid (HA2.out.other U3)
      have HU3 := Lib.hid U3
      obtain ⟨d0, d1, d2, d3⟩ := HC.out w5 (HE4.out.trans (U3.2.mono (by intro x hx; simp at hx ⊢; omega)))
      clear U3
      go_wp2_with (go_at_call 29; fail)
      refine (iget_len _ b2 g2 h1 F1 HI3.out op).mono ?_
      rintro e w6 ⟨rfl, U4⟩
      have hA3 := HA2.out.step HU3.out U4 (HA2.out.few.upd op mrk_few (Int.le_refl _))
      generalize xOf ByteArray.empty F1 op = x1 at *
      generalize (find F1 op).isSome = o1 at *
      have HA3 := Lib.hid hA3
      clear hA3 U4 HU3 HI3
      go_wp2
      go_roundw
      case rel => exact ⟨j + 1, by omega, by go_num, _, _, by have := HA3.out; push_cast; exact this⟩
      case measure => simp [intOf]; omega
    · have HA1 := Lib.hid hA
      clear hA
      go_wp2_with (go_at_call 20; fail)
      refine (spages_any _ b1 g1 h F HA1.out.p).mono ?_
      rintro e w3 ⟨A1, c1, rfl, O1, E1⟩
      have HO1 := Lib.hid O1
      have HB1 := Lib.hid (HA1.out.same E1)
      clear O1 E1
      go_wp2_with (go_at_call 31; fail)
      refine (ipages_any _ b2 g2 h (lenF F) HB1.out.q).mono ?_
      rintro e w4 ⟨A2, c2, rfl, O2, E2⟩
      rw [pgN_map] at O2 ⊢
      have HO1' := Lib.hid (own_ext HO1.out E2 (by simp))
      have HO2 := Lib.hid O2
      have HB2 := Lib.hid (HB1.out.same E2)
      clear O2 E2 HO1
      have hl := pgN_length F 32
      go_wp2_with (go_at_call 30; fail)
      refine (ints_same _ _ _ A1 A2 c1 c2 (pgN F 32) HO1'.out HO2.out (by omega)).mono ?_
      rintro e w5 ⟨rfl, E3⟩
      have HB3 := Lib.hid (HB2.out.same E3)
      clear E3 HO1' HO2
      go_wp2_with (go_at_call 15; fail)
      refine (sdirty_any _ b1 g1 h F HB3.out.p).mono ?_
      rintro e w6 ⟨A3, c3, rfl, O3, E4⟩
      have HO3 := Lib.hid O3
      have HB4 := Lib.hid (HB3.out.same E4)
      clear O3 E4
      go_wp2_with (go_at_call 33; fail)
      refine (idirty_any _ b2 g2 h (lenF F) HB4.out.q).mono ?_
      rintro e w7 ⟨A4, c4, rfl, O4, E5⟩
      rw [pgN_map, drL_map] at O4 ⊢
      have HO3' := Lib.hid (own_ext HO3.out E5 (by simp))
      have HO4 := Lib.hid O4
      have HB5 := Lib.hid (HB4.out.same E5)
      clear O4 E5 HO3
      have hd := drL_length F (pgN F 32)
      go_wp2_with (go_at_call 32; fail)
      refine (rows_same _ _ _ A3 A4 c3 c4 (drL F (pgN F 32)) HO3'.out HO4.out (by omega)).mono ?_
      rintro e w8 ⟨rfl, E6⟩
      have HB6 := Lib.hid (HB5.out.same E6)
      clear E6
      go_wp2
      go_ret
      exact ⟨rfl, HB6.out.ext⟩

end Go.Proofs.Ytkdmilchklmefaa
