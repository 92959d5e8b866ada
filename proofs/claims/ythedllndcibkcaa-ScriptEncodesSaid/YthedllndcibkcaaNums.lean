/- A text's bytes, as numbers. -/
import Derived.Test.YthedllndcibkcaaText
import Derived.Lib.SlBytesRow
namespace Go.Proofs.Ythedllndcibkcaa
open Go.RowKit
set_option linter.unusedVariables false
set_option linter.unusedSimpArgs false

def nums (b : ByteArray) : List Int := b.data.toList.map fun x => (x.toNat : Int)
theorem nums_length (b : ByteArray) : (nums b).length = b.size := by unfold nums; rw [List.length_map]; exact Array.length_toList
theorem byte_lt (b : ByteArray) (i : Nat) (h : i < b.size) : (b[i]'h).toNat < 256 := (b[i]'h).toNat_lt
theorem index_run (b : ByteArray) (i : Nat) (h : i < b.size) (w : World) : (Instr.index 9 (.string b) (.int .i64 (i : Int))).run Try.prog w = .ok (.int .u8 ((b[i]'h).toNat : Int)) w := by
  rw [run_index_string _ _ _ _ _ Try.underlying9, dif_pos ⟨by omega, by omega⟩]
  simp
theorem nums_at (b : ByteArray) (i : Nat) (h : i < b.size) : (nums b)[i]? = some (b[i].toNat : Int) := by
  unfold nums
  rw [List.getElem?_map, Go.Proofs.byte_at b i h]; rfl
theorem nums_drop (b : ByteArray) (i : Nat) (h : i < b.size) : (nums b).drop i = (b[i].toNat : Int) :: (nums b).drop (i + 1) := by
  have h' : i < (nums b).length := by rw [nums_length]; exact h
  rw [List.drop_eq_getElem_cons h']
  have := nums_at b i h
  rw [List.getElem?_eq_getElem h'] at this
  injection this with this
  rw [this]
theorem nums_drop_nil (b : ByteArray) (i : Nat) (h : b.size ≤ i) : (nums b).drop i = [] := List.drop_eq_nil_of_le (by rw [nums_length]; exact h)
theorem nums_range (b : ByteArray) : ∀ x ∈ nums b, 0 ≤ x ∧ x < 256 := by
  intro x hx
  unfold nums at hx
  obtain ⟨y, _, rfl⟩ := List.mem_map.1 hx
  have := y.toNat_lt
  omega
theorem strOfNums_nums (l : List UInt8) : (l.map fun x => (x.toNat : Int)).map (fun n => UInt8.ofNat n.toNat) = l := by
  rw [List.map_map]
  conv => rhs; rw [← List.map_id l]
  apply List.map_congr_left
  intro x _
  simp
theorem nums_extract (b : ByteArray) (i n : Nat) : strOfNums (((nums b).drop i).take n) = b.extract i (i + n) := by
  apply ByteArray.ext
  apply Array.toList_inj.1
  rw [strOfNums_data, Lib.extract_data, show i + n - i = n by omega]
  unfold nums
  rw [← List.map_drop, ← List.map_take, strOfNums_nums]
theorem nums_extract0 (b : ByteArray) (n : Nat) : nums (b.extract 0 n) = (nums b).take n := by
  unfold nums
  rw [Lib.extract_data, List.drop_zero, Nat.sub_zero, List.map_take]
theorem strOf_nums (b : ByteArray) : strOfNums (nums b) = b := by
  apply ByteArray.ext
  apply Array.toList_inj.1
  rw [strOfNums_data]
  exact strOfNums_nums _

/-- The document's letters of a kind, as a text. -/
def formS (k : Int) : ByteArray := ⟨(formL k).toArray⟩
theorem formL_none (k : Int) (h : kindB k = false) : formL k = [] := by
  have h' : ¬ (1 ≤ k ∧ k ≤ 19) := by intro h2; rw [(kindB_iff k).2 h2] at h; cases h
  unfold formL; split <;> first | rfl | (exfalso; omega)

set_option maxHeartbeats 4000000 in
theorem form_any (k : Int) (w : World) : Calls Try.prog 19 #[.int .i64 k] w fun e w' => e = .returned (.string (formS k)) ∧ w = w' := by
  by_cases hk : kindB k = true
  · obtain ⟨h1, h2⟩ := (kindB_iff k).1 hk
    clear hk
    have hk : k = 1 ∨ k = 2 ∨ k = 3 ∨ k = 4 ∨ k = 5 ∨ k = 6 ∨ k = 7 ∨ k = 8 ∨ k = 9 ∨ k = 10 ∨ k = 11 ∨ k = 12 ∨ k = 13 ∨ k = 14 ∨ k = 15 ∨ k = 16 ∨ k = 17 ∨ k = 18 ∨ k = 19 := by omega
    clear h1 h2
    rcases hk with rfl | rfl | rfl | rfl | rfl | rfl | rfl | rfl | rfl | rfl | rfl | rfl | rfl | rfl | rfl | rfl | rfl | rfl | rfl
    all_goals
      go_enter Try.func19, Try.ntmps19
      go_wp2
      go_ret
      exact ⟨rfl, rfl⟩
  · have hk' : kindB k = false := by simpa using hk
    have e : formS k = ⟨#[]⟩ := by unfold formS; rw [formL_none k hk']
    rw [e]
    have h' : ¬ (1 ≤ k ∧ k ≤ 19) := fun h2 => hk ((kindB_iff k).2 h2)
    clear hk hk' e
    by_cases h1 : k < 1
    · clear h'
      go_enter Try.func19, Try.ntmps19
      go_wp2
      go_ret
      exact ⟨rfl, rfl⟩
    · have h2 : 19 < k := by omega
      clear h' h1
      go_enter Try.func19, Try.ntmps19
      go_wp2
      go_ret
      exact ⟨rfl, rfl⟩

set_option maxHeartbeats 400000 in
theorem at_any (b : ByteArray) (hl : b.size ≤ 1000000) (i : Nat) (w : World) : Calls Try.prog 18 #[.string b, .int .i64 (i : Int)] w fun e w' => e = .returned (.int .i64 ((nums b).getD i 0)) ∧ w = w' := by
  by_cases h : i < b.size
  · have e : (nums b).getD i 0 = (b[i].toNat : Int) := by rw [List.getD, nums_at b i h]; rfl
    rw [e]; clear e
    have hx := byte_lt b i h
    have hix := index_run b i h
    generalize (b[i]'h).toNat = x at *
    go_enter Try.func18, Try.ntmps18
    go_wp2
    go_ret
    exact ⟨rfl, rfl⟩
  · have e : (nums b).getD i 0 = 0 := by rw [List.getD, List.getElem?_eq_none (by rw [nums_length]; omega)]; rfl
    rw [e]; clear e
    have h' : b.size ≤ i := by omega
    clear h
    go_enter Try.func18, Try.ntmps18
    go_wp2
    go_ret
    exact ⟨rfl, rfl⟩

end Go.Proofs.Ythedllndcibkcaa
