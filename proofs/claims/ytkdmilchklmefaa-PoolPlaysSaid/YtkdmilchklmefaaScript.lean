/- A script of calls as it lies in memory; a pool behind it. -/
import Derived.Test.YtkdmilchklmefaaAwake
namespace Go.Proofs.Ytkdmilchklmefaa
open Go.RowKit
set_option linter.unusedVariables false
set_option linter.unusedSimpArgs false


/-- A call: its kind, its page, its text, its number. -/
structure Op where
  k : Int
  p : Int
  x : ByteArray
  n : Int

/-- A script that came in. -/
def Ops (w : World) (A : Option Addr) (l : List Op) : Prop :=
  l = [] ∨ ∃ b off, A = some ⟨b, off, none⟩ ∧ b < w.heap.size ∧ ∀ (j : Nat) (q : Op), l[j]? = some q →
    w.cell? ⟨b, off + j * 4, none⟩ = some (.int .i64 q.k) ∧ w.cell? ⟨b, off + j * 4 + 1, none⟩ = some (.int .i64 q.p) ∧ w.cell? ⟨b, off + j * 4 + 2, none⟩ = some (.string q.x) ∧ w.cell? ⟨b, off + j * 4 + 3, none⟩ = some (.int .u64 q.n)

theorem Ops.ext {w w' : World} {A : Option Addr} {l : List Op} (h : Ops w A l) (he : Ext [] w w') : Ops w' A l := by
  rcases h with h | ⟨b, off, hA, hb, hc⟩
  · exact .inl h
  · refine .inr ⟨b, off, hA, Nat.lt_of_lt_of_le hb he.size, fun j q hq => ?_⟩
    obtain ⟨h0, h1, h2, h3⟩ := hc j q hq
    exact ⟨(he.cell hb (by simp)).trans h0, (he.cell hb (by simp)).trans h1, (he.cell hb (by simp)).trans h2, (he.cell hb (by simp)).trans h3⟩

theorem Ops.at_ {w : World} {A : Option Addr} {l : List Op} (h : Ops w A l) {j : Nat} {q : Op} (hq : l[j]? = some q) : ∃ b off, A = some ⟨b, off, none⟩ ∧ b < w.heap.size ∧
    w.cell? ⟨b, off + j * 4, none⟩ = some (.int .i64 q.k) ∧ w.cell? ⟨b, off + j * 4 + 1, none⟩ = some (.int .i64 q.p) ∧ w.cell? ⟨b, off + j * 4 + 2, none⟩ = some (.string q.x) ∧ w.cell? ⟨b, off + j * 4 + 3, none⟩ = some (.int .u64 q.n) := by
  rcases h with h | ⟨b, off, hA, hb, hc⟩
  · subst h; simp at hq
  · exact ⟨b, off, hA, hb, hc j q hq⟩

/-- A pool behind a script. -/
def playF : List Op → List (Fr ByteArray) × Nat → List (Fr ByteArray) × Nat
  | [], s => s
  | o :: l, s => playF l (step ByteArray.empty o.x s.1 s.2 o.k o.p o.n).2
theorem playF_snoc (l : List Op) (o : Op) : ∀ s, playF (l ++ [o]) s = (step ByteArray.empty o.x (playF l s).1 (playF l s).2 o.k o.p o.n).2 := by
  induction l with
  | nil => intro s; rfl
  | cons q l ih => intro s; exact ih _
theorem playF_few (l : List Op) : ∀ (s : List (Fr ByteArray) × Nat) (K : Int), 0 ≤ K → Few K s.1 → Few (K + l.length) (playF l s).1 := by
  induction l with
  | nil => intro s K _ h; simpa [playF] using h
  | cons q l ih =>
    intro s K hk h
    have := ih (step ByteArray.empty q.x s.1 s.2 q.k q.p q.n).2 (K + 1) (by omega) (step_few _ _ _ _ _ _ _ h hk)
    simp only [playF, List.length_cons]
    exact this.mono (by push_cast; omega)

set_option maxHeartbeats 1000000 in
theorem played_any (frames : Int) (A : Option Addr) (cap : Nat) (l : List Op) (w : World) (ho : Ops w A l) (hl : l.length ≤ 300) :
    Calls Try.prog 16 #[.int .i64 frames, .slice A l.length cap] w fun e w' => e = .returned (.pointer (some ⟨w.heap.size + 1, 0, none⟩)) ∧
      sPool w' (w.heap.size + 1) w.heap.size (playF l (List.replicate (many frames).toNat szero, 0)).1 (playF l (List.replicate (many frames).toNat szero, 0)).2 ∧ Ext [] w w' := by
  have HO := Lib.hid ho
  clear ho
  go_enter Try.func16, Try.ntmps16
  go_wp2_with (go_at_call 10; fail)
  refine (snew_any frames w).mono ?_
  rintro e w1 ⟨rfl, D1, E1⟩
  have hf0 : Few 0 (List.replicate (many frames).toNat szero) := Few.rep _ _ rfl (by omega)
  generalize hfe : List.replicate (many frames).toNat szero = F0 at *
  have HFE := Lib.hid hfe
  clear hfe
  have HD1 := Lib.hid D1
  have HE1 := Lib.hid E1
  have HF0 := Lib.hid hf0
  clear D1 E1 hf0
  go_wp2
  go_loopw [11] (fun i wr => ∃ j : Nat, j ≤ l.length ∧ i = .int .i64 j ∧ sPool wr (w.heap.size + 1) w.heap.size (playF (l.take j) (F0, 0)).1 (playF (l.take j) (F0, 0)).2 ∧ Ext [] w wr) (fun i _ => l.length - (intOf i).toNat)
  case atStart => exact ⟨0, Nat.zero_le _, rfl, HD1.out, HE1.out⟩
  case round =>
    obtain ⟨j, hj, rfl, hpool, hext⟩ := hrel
    by_cases hlt : j < l.length
    · obtain ⟨o, hx⟩ : ∃ o, l[j]? = some o := ⟨l[j], by simp [hlt]⟩
      obtain ⟨ab, off, rfl, hab, c0, c1, c2, c3⟩ := (HO.out.ext hext).at_ hx
      have hs : playF (l.take (j + 1)) (F0, 0) = (step ByteArray.empty o.x (playF (l.take j) (F0, 0)).1 (playF (l.take j) (F0, 0)).2 o.k o.p o.n).2 := by
        rw [List.take_add_one, hx, Option.toList_some, playF_snoc]
      have hfew : Few 1000000 (playF (l.take j) (F0, 0)).1 := (playF_few (l.take j) (F0, 0) 0 (by omega) HF0.out).mono (by rw [List.length_take]; omega)
      have HS := Lib.hid hs
      have HFW := Lib.hid hfew
      have HP := Lib.hid hpool
      have HE := Lib.hid hext
      obtain ⟨ok, op, ox, on⟩ := o
      simp only [] at c0 c1 c2 c3
      clear hx hs hfew hpool hext
      go_wp2_with (go_at_call 27; fail)
      refine (sdo_any _ (w.heap.size + 1) w.heap.size _ _ HP.out HFW.out ok op ox on).mono ?_
      rintro e w2 ⟨rfl, U2⟩
      have HU2 := Lib.hid U2
      clear U2
      go_wp2
      go_roundw
      case rel => exact ⟨j + 1, by omega, by go_num, by rw [HS.out]; exact HU2.out.1, HE.out.new HU2.out.2 (by intro x hx; simp at hx; omega)⟩
      case measure => simp [intOf]; omega
    · have e : j = l.length := by omega
      subst e
      rw [List.take_length] at hpool
      have HP := Lib.hid hpool
      have HE := Lib.hid hext
      clear hpool hext
      go_wp2
      go_ret
      obtain rfl := HFE.out
      exact ⟨rfl, HP.out, HE.out⟩

end Go.Proofs.Ytkdmilchklmefaa
