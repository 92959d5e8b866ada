/- The reference's pool, as it lies in memory; at. -/
import Derived.Test.YtkdmilchklmefaaPure
import Derived.Test.YtkdmilchklmefaaNewS
namespace Go.Proofs.Ytkdmilchklmefaa
open Go.RowKit
set_option linter.unusedVariables false
set_option linter.unusedSimpArgs false

/-- A frame's page, as the reference has it. -/
def pg (f : Fr ByteArray) : Int := if f.there then f.id else -1
def encR (f : Fr ByteArray) : List Value := [.int .i64 (pg f), .string f.x, .bool f.mark, .int .i64 f.fixes, .bool f.dirty, .int .u64 f.rc]
theorem encR_length (f : Fr ByteArray) : (encR f).length = 6 := rfl

/-- What may stand in frames. -/
def Valid (F : List (Fr ByteArray)) : Prop := ∀ f ∈ F, (f.there = true → 0 ≤ f.id ∧ f.id < 32) ∧ 0 ≤ f.fixes

structure RPool (w : World) (b g cap : Nat) (tl : List Value) (F : List (Fr ByteArray)) (h : Nat) : Prop where
  hd : Blk w b 74 [.slice (some ⟨g, 0, none⟩) F.length cap, .int .i64 h]
  hc : Blk w g 76 (encs encR F ++ tl)
  few : 1 ≤ F.length ∧ F.length ≤ 16
  hand : h < F.length
  val : Valid F
section
variable {w w' : World} {b g cap h : Nat} {tl : List Value} {F : List (Fr ByteArray)}
theorem RPool.ne (p : RPool w b g cap tl F h) : b ≠ g := p.hd.apart p.hc (by decide)
theorem RPool.frames (p : RPool w b g cap tl F h) : w.cell? ⟨b, 0, none⟩ = some (.slice (some ⟨g, 0, none⟩) F.length cap) := p.hd.cell rfl
theorem RPool.handc (p : RPool w b g cap tl F h) : w.cell? ⟨b, 1, none⟩ = some (.int .i64 h) := p.hd.cell rfl
theorem RPool.cells (p : RPool w b g cap tl F h) {i : Nat} {f : Fr ByteArray} (hi : F[i]? = some f) :
    w.cell? ⟨g, i * 6, none⟩ = some (.int .i64 (pg f)) ∧ w.cell? ⟨g, i * 6 + 1, none⟩ = some (.string f.x) ∧ w.cell? ⟨g, i * 6 + 2, none⟩ = some (.bool f.mark) ∧
    w.cell? ⟨g, i * 6 + 3, none⟩ = some (.int .i64 f.fixes) ∧ w.cell? ⟨g, i * 6 + 4, none⟩ = some (.bool f.dirty) ∧ w.cell? ⟨g, i * 6 + 5, none⟩ = some (.int .u64 f.rc) := by
  have hl := (List.getElem?_eq_some_iff.1 hi).1
  have k : ∀ j, j < 6 → (encs encR F ++ tl)[i * 6 + j]? = (encR f)[j]? := fun j hj => by
    rw [List.getElem?_append_left (by rw [encs_length encR_length]; omega)]
    exact encs_get encR_length hi hj
  exact ⟨p.hc.cell (by have := k 0 (by omega); simpa [encR] using this), p.hc.cell (by rw [k 1 (by omega)]; rfl), p.hc.cell (by rw [k 2 (by omega)]; rfl), p.hc.cell (by rw [k 3 (by omega)]; rfl),
    p.hc.cell (by rw [k 4 (by omega)]; rfl), p.hc.cell (by rw [k 5 (by omega)]; rfl)⟩
theorem RPool.free (p : RPool w b g cap tl F h) (k : Nat) : w.frozen? ⟨g, k, none⟩ = false := p.hc.free k
theorem RPool.freeb (p : RPool w b g cap tl F h) (k : Nat) : w.frozen? ⟨b, k, none⟩ = false := p.hd.free k
theorem RPool.ext {S : List Nat} (p : RPool w b g cap tl F h) (he : Ext S w w') (h1 : b ∉ S) (h2 : g ∉ S) : RPool w' b g cap tl F h := ⟨p.hd.ext he h1, p.hc.ext he h2, p.few, p.hand, p.val⟩
theorem RPool.same (p : RPool w b g cap tl F h) (he : Ext [] w w') : RPool w' b g cap tl F h := p.ext he (by simp) (by simp)
theorem Valid.set (hv : Valid F) (i : Nat) {f : Fr ByteArray} (hf : (f.there = true → 0 ≤ f.id ∧ f.id < 32) ∧ 0 ≤ f.fixes) : Valid (F.set i f) := by
  intro q hq
  rcases List.mem_or_eq_of_mem_set hq with h1 | h1
  · exact hv q h1
  · subst h1; exact hf
theorem RPool.set (p : RPool w b g cap tl F h) {i j : Nat} {f f' : Fr ByteArray} {v : Value} (hi : F[i]? = some f) (hj : j < 6) (hf : encR f' = (encR f).set j v) (hv : (f'.there = true → 0 ≤ f'.id ∧ f'.id < 32) ∧ 0 ≤ f'.fixes) :
    RPool (w.setCell ⟨g, i * 6 + j, none⟩ v) b g cap tl (F.set i f') h := by
  have hl := (List.getElem?_eq_some_iff.1 hi).1
  refine ⟨?_, ?_, by simpa using p.few, by simpa using p.hand, p.val.set i hv⟩
  · rw [List.length_set]; exact p.hd.far p.ne _
  · rw [← encs_set encR_length hi hj hf, ← List.set_append_left _ _ (by rw [encs_length encR_length]; omega)]; exact p.hc.set _ _
theorem RPool.store (p : RPool w b g cap tl F h) {i : Nat} {f : Fr ByteArray} (f' : Fr ByteArray) (hi : F[i]? = some f) (hv : (f'.there = true → 0 ≤ f'.id ∧ f'.id < 32) ∧ 0 ≤ f'.fixes) :
    RPool ((((((w.setCell ⟨g, i * 6, none⟩ (.int .i64 (pg f'))).setCell ⟨g, i * 6 + 1, none⟩ (.string f'.x)).setCell ⟨g, i * 6 + 2, none⟩ (.bool f'.mark)).setCell ⟨g, i * 6 + 3, none⟩ (.int .i64 f'.fixes)).setCell
      ⟨g, i * 6 + 4, none⟩ (.bool f'.dirty)).setCell ⟨g, i * 6 + 5, none⟩ (.int .u64 f'.rc)) b g cap tl (F.set i f') h := by
  have hl := (List.getElem?_eq_some_iff.1 hi).1
  refine ⟨?_, ?_, by simpa using p.few, by simpa using p.hand, p.val.set i hv⟩
  · rw [List.length_set]; exact (((((p.hd.far p.ne _).far p.ne _).far p.ne _).far p.ne _).far p.ne _).far p.ne _
  · have e : setFrom (encs encR F ++ tl) (i * 6) (encR f') = encs encR (F.set i f') ++ tl := by
      have hi' : (F.set i f')[i]? = some f' := by rw [List.getElem?_set_self hl]
      have h1 : (encs encR (F.take i)).length = i * 6 := by rw [encs_length encR_length]; simp [Nat.min_eq_left (Nat.le_of_lt hl)]
      rw [encs_split hi, encs_split hi', List.take_set_of_le (Nat.le_refl _), List.drop_set_of_lt (by omega), List.append_assoc, List.append_assoc, List.append_assoc, List.append_assoc]
      exact setFrom_mid _ _ _ _ _ rfl h1.symm
    rw [← e]; exact (((((p.hc.set _ _).set _ _).set _ _).set _ _).set _ _).set _ _
theorem RPool.turn (p : RPool w b g cap tl F h) {h' : Nat} (hh : h' < F.length) : RPool (w.setCell ⟨b, 1, none⟩ (.int .i64 h')) b g cap tl F h' :=
  ⟨p.hd.set 1 _, p.hc.far (fun e => p.ne e.symm) _, p.few, hh, p.val⟩
end
def RU (w w' : World) (b g cap : Nat) (tl : List Value) (F' : List (Fr ByteArray)) (h' : Nat) : Prop := RPool w' b g cap tl F' h' ∧ Ext [b, g] w w'

theorem pg_hit {f : Fr ByteArray} {id : Int} (hf : hitB f id = true) : pg f = id := by
  simp only [hitB, Bool.and_eq_true, beq_iff_eq] at hf
  unfold pg; rw [if_pos hf.1]; exact hf.2
theorem pg_miss {f : Fr ByteArray} {id : Int} (hv : (f.there = true → 0 ≤ f.id ∧ f.id < 32) ∧ 0 ≤ f.fixes) (h0 : 0 ≤ id) (hf : hitB f id = false) : (pg f == id) = false := by
  rw [beq_eq_false_iff_ne]
  unfold pg
  cases ht : f.there with
  | false => simp; omega
  | true =>
    simp only [if_true]
    intro e
    unfold hitB at hf
    rw [ht, e] at hf
    simp at hf
theorem pg_id {F : List (Fr ByteArray)} (hv : Valid F) {id : Int} {i : Nat} (hf : find F id = some i) : 0 ≤ id ∧ id < 32 := by
  obtain ⟨⟨f, hi, hh⟩, _⟩ := find_hit hf
  simp only [hitB, Bool.and_eq_true, beq_iff_eq] at hh
  have := (hv f (List.mem_of_getElem? hi)).1 hh.1
  rw [hh.2] at this; exact this

set_option maxHeartbeats 1000000 in
theorem rat_hit (w : World) (b g cap h : Nat) (tl : List Value) (F : List (Fr ByteArray)) (hp : RPool w b g cap tl F h) (id : Int) (i : Nat) (hf : find F id = some i) :
    Calls Try.prog 57 #[.pointer (some ⟨b, 0, none⟩), .int .i64 id] w fun e w' => e = .returned (.int .i64 (i : Int)) ∧ w = w' := by
  have hfew := hp.few
  have c0 := hp.frames
  have hid := pg_id hp.val hf
  have h0 : (0 : Int) ≤ id := hid.1
  have HP := Lib.hid hp
  have HI := Lib.hid (find_hit hf)
  clear hp hf hid
  go_enter Try.func57, Try.ntmps57
  go_wp2
  go_loop [11] (fun k => ∃ j : Nat, j ≤ i ∧ k = .int .i64 j) (fun k => i + 1 - (intOf k).toNat)
  case atStart => exact ⟨0, Nat.zero_le _, rfl⟩
  case round =>
    obtain ⟨j, hj, rfl⟩ := hrel
    obtain ⟨f, hfi, hh⟩ := HI.out.1
    have hil : i < F.length := (List.getElem?_eq_some_iff.1 hfi).1
    by_cases hlt : j < i
    · obtain ⟨q, hq⟩ : ∃ q, F[j]? = some q := ⟨F[j]'(by omega), by rw [List.getElem?_eq_getElem (by omega)]⟩
      have hn := pg_miss (HP.out.val q (List.mem_of_getElem? hq)) h0 (HI.out.2 j hlt q hq)
      obtain ⟨k0, _⟩ := HP.out.cells hq
      have hlen : j < F.length := by omega
      clear hq hfi hh
      generalize pg q = pq at *
      go_wp2
      go_round
      case rel => exact ⟨j + 1, by omega, by go_num⟩
      case measure => simp [intOf]; omega
    · have e : j = i := by omega
      subst e
      obtain ⟨k0, _⟩ := HP.out.cells hfi
      rw [pg_hit hh] at k0
      clear hfi hh
      go_wp2
      go_ret
      exact ⟨rfl, rfl⟩

set_option maxHeartbeats 1000000 in
theorem rat_miss (w : World) (b g cap h : Nat) (tl : List Value) (F : List (Fr ByteArray)) (hp : RPool w b g cap tl F h) (id : Int) (hf : find F id = none) :
    Calls Try.prog 57 #[.pointer (some ⟨b, 0, none⟩), .int .i64 id] w fun e w' => e = .returned (.int .i64 (-1)) ∧ w = w' := by
  have hfew := hp.few
  have c0 := hp.frames
  have HP := Lib.hid hp
  have HI := Lib.hid (find_miss hf)
  clear hp hf
  by_cases h0 : 0 ≤ id
  · go_enter Try.func57, Try.ntmps57
    go_wp2
    go_loop [11] (fun k => ∃ j : Nat, j ≤ F.length ∧ k = .int .i64 j) (fun k => F.length - (intOf k).toNat)
    case atStart => exact ⟨0, Nat.zero_le _, rfl⟩
    case round =>
      obtain ⟨j, hj, rfl⟩ := hrel
      by_cases hlt : j < F.length
      · obtain ⟨q, hq⟩ : ∃ q, F[j]? = some q := ⟨F[j], by simp [hlt]⟩
        have hn := pg_miss (HP.out.val q (List.mem_of_getElem? hq)) h0 (HI.out j q hq)
        obtain ⟨k0, _⟩ := HP.out.cells hq
        clear hq
        generalize pg q = pq at *
        go_wp2
        go_round
        case rel => exact ⟨j + 1, by omega, by go_num⟩
        case measure => simp [intOf]; omega
      · go_wp2
        go_ret
        exact ⟨rfl, rfl⟩
  · go_enter Try.func57, Try.ntmps57
    go_wp2
    go_loop [11] (fun k => ∃ j : Nat, j ≤ F.length ∧ k = .int .i64 j) (fun k => F.length - (intOf k).toNat)
    case atStart => exact ⟨0, Nat.zero_le _, rfl⟩
    case round =>
      obtain ⟨j, hj, rfl⟩ := hrel
      by_cases hlt : j < F.length
      · go_wp2
        go_round
        case rel => exact ⟨j + 1, by omega, by go_num⟩
        case measure => simp [intOf]; omega
      · go_wp2
        go_ret
        exact ⟨rfl, rfl⟩

end Go.Proofs.Ytkdmilchklmefaa
