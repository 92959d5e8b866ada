/- Steps as data; number whatever the kind. -/
import Derived.Test.YthedllndcibkcaaKinds
namespace Go.Proofs.Ythedllndcibkcaa
open Go.RowKit
set_option linter.unusedVariables false
set_option linter.unusedSimpArgs false

/-- A step. -/
structure St where
  k : Int
  n : Int
  t : Int
  p : Int
  s : Int
  o : Int
  c : Int
  m : Int
  v : ByteArray
def St.cells (x : St) : List Value := [.int .i64 x.k, .int .i64 x.n, .int .i64 x.t, .int .i64 x.p, .int .i64 x.s, .int .i64 x.o, .int .i64 x.c, .int .i64 x.m, .string x.v]
theorem St.cells_length (x : St) : x.cells.length = 9 := rfl
theorem St.cells_one (x : St) : ∀ u ∈ x.cells, u.oneCell' = true := by intro u hu; simp [St.cells] at hu; rcases hu with rfl | rfl | rfl | rfl | rfl | rfl | rfl | rfl | rfl <;> rfl
def St.put (x : St) (f : Nat) (i : Int) : St := match f with
  | 0 => { x with k := i }
  | 1 => { x with n := i }
  | 2 => { x with t := i }
  | 3 => { x with p := i }
  | 4 => { x with s := i }
  | 5 => { x with o := i }
  | 6 => { x with c := i }
  | 7 => { x with m := i }
  | _ => x
theorem St.cells_put (x : St) (f : Nat) (i : Int) (h : f < 8) : (x.put f i).cells = x.cells.set f (.int .i64 i) := by
  match f, h with
  | 0, _ => rfl
  | 1, _ => rfl
  | 2, _ => rfl
  | 3, _ => rfl
  | 4, _ => rfl
  | 5, _ => rfl
  | 6, _ => rfl
  | 7, _ => rfl
theorem St.cell_at (x : St) (f : Nat) (h : f < 8) : ∃ i : Int, x.cells[f]? = some (.int .i64 i) := by
  match f, h with
  | 0, _ => exact ⟨_, rfl⟩
  | 1, _ => exact ⟨_, rfl⟩
  | 2, _ => exact ⟨_, rfl⟩
  | 3, _ => exact ⟨_, rfl⟩
  | 4, _ => exact ⟨_, rfl⟩
  | 5, _ => exact ⟨_, rfl⟩
  | 6, _ => exact ⟨_, rfl⟩
  | 7, _ => exact ⟨_, rfl⟩

def runS : List (Nat × Nat) → St × List Int × Bool → St × List Int × Bool
  | [], s => s
  | q :: l, s => runS l (s.1.put q.1 (numV q.2 s.2.1), numL q.2 s.2.1, numO q.2 s.2.1 s.2.2)
theorem runF_runS : ∀ (l : List (Nat × Nat)) (x : St) (r : List Int) (o : Bool), (∀ q ∈ l, q.1 < 8) →
    runF l (x.cells, r, o) = ((runS l (x, r, o)).1.cells, (runS l (x, r, o)).2.1, (runS l (x, r, o)).2.2)
  | [], x, r, o, _ => rfl
  | q :: l, x, r, o, h => by
    show runF l (x.cells.set q.1 (.int .i64 (numV q.2 r)), numL q.2 r, numO q.2 r o) = _
    rw [← St.cells_put x q.1 _ (h q (by simp)), runF_runS l _ _ _ (fun q' hq' => h q' (by simp [hq']))]
    rfl

theorem numL_le (k : Nat) (r : List Int) : (numL k r).length ≤ r.length := by unfold numL; split <;> simp
theorem runS_le : ∀ (l : List (Nat × Nat)) (x : St × List Int × Bool), (runS l x).2.1.length ≤ x.2.1.length
  | [], x => Nat.le_refl _
  | q :: l, x => Nat.le_trans (runS_le l _) (numL_le _ _)

set_option maxHeartbeats 8000000 in
theorem number_any (w0 w : World) (base rb pv sb : Nat) (x : St) (r : List Int) (o : Bool) (h1 : 1 ≤ x.k) (h2 : x.k ≤ 19) (d : DS w0 w base rb pv sb x.cells r o) :
    Calls Try.prog 15 #[.pointer (some ⟨sb, 0, none⟩), .func (.func 16) #[] #[.pointer (some ⟨pv, 0, none⟩)]] w fun e w' => e = .returned (.tuple #[]) ∧
      DS w0 w' base rb pv sb (runS (fieldsOf x.k) (x, r, o)).1.cells (runS (fieldsOf x.k) (x, r, o)).2.1 (runS (fieldsOf x.k) (x, r, o)).2.2 := by
  obtain ⟨k, n, t, p, s, o', c, m, v⟩ := x
  simp only at h1 h2
  have hk : k = 1 ∨ k = 2 ∨ k = 3 ∨ k = 4 ∨ k = 5 ∨ k = 6 ∨ k = 7 ∨ k = 8 ∨ k = 9 ∨ k = 10 ∨ k = 11 ∨ k = 12 ∨ k = 13 ∨ k = 14 ∨ k = 15 ∨ k = 16 ∨ k = 17 ∨ k = 18 ∨ k = 19 := by omega
  rcases hk with rfl | rfl | rfl | rfl | rfl | rfl | rfl | rfl | rfl | rfl | rfl | rfl | rfl | rfl | rfl | rfl | rfl | rfl | rfl
  · have h := number_1 w0 w base rb pv sb [.int .i64 n, .int .i64 t, .int .i64 p, .int .i64 s, .int .i64 o', .int .i64 c, .int .i64 m, .string v] r o rfl d
    have e : runF (fieldsOf 1) (.int .i64 1 :: [.int .i64 n, .int .i64 t, .int .i64 p, .int .i64 s, .int .i64 o', .int .i64 c, .int .i64 m, .string v], r, o) = _ := runF_runS (fieldsOf 1) ⟨1, n, t, p, s, o', c, m, v⟩ r o (by decide)
    rw [e] at h
    exact h
  · have h := number_2 w0 w base rb pv sb [.int .i64 n, .int .i64 t, .int .i64 p, .int .i64 s, .int .i64 o', .int .i64 c, .int .i64 m, .string v] r o rfl d
    have e : runF (fieldsOf 2) (.int .i64 2 :: [.int .i64 n, .int .i64 t, .int .i64 p, .int .i64 s, .int .i64 o', .int .i64 c, .int .i64 m, .string v], r, o) = _ := runF_runS (fieldsOf 2) ⟨2, n, t, p, s, o', c, m, v⟩ r o (by decide)
    rw [e] at h
    exact h
  · have h := number_3 w0 w base rb pv sb [.int .i64 n, .int .i64 t, .int .i64 p, .int .i64 s, .int .i64 o', .int .i64 c, .int .i64 m, .string v] r o rfl d
    have e : runF (fieldsOf 3) (.int .i64 3 :: [.int .i64 n, .int .i64 t, .int .i64 p, .int .i64 s, .int .i64 o', .int .i64 c, .int .i64 m, .string v], r, o) = _ := runF_runS (fieldsOf 3) ⟨3, n, t, p, s, o', c, m, v⟩ r o (by decide)
    rw [e] at h
    exact h
  · have h := number_4 w0 w base rb pv sb [.int .i64 n, .int .i64 t, .int .i64 p, .int .i64 s, .int .i64 o', .int .i64 c, .int .i64 m, .string v] r o rfl d
    have e : runF (fieldsOf 4) (.int .i64 4 :: [.int .i64 n, .int .i64 t, .int .i64 p, .int .i64 s, .int .i64 o', .int .i64 c, .int .i64 m, .string v], r, o) = _ := runF_runS (fieldsOf 4) ⟨4, n, t, p, s, o', c, m, v⟩ r o (by decide)
    rw [e] at h
    exact h
  · have h := number_5 w0 w base rb pv sb [.int .i64 n, .int .i64 t, .int .i64 p, .int .i64 s, .int .i64 o', .int .i64 c, .int .i64 m, .string v] r o rfl d
    have e : runF (fieldsOf 5) (.int .i64 5 :: [.int .i64 n, .int .i64 t, .int .i64 p, .int .i64 s, .int .i64 o', .int .i64 c, .int .i64 m, .string v], r, o) = _ := runF_runS (fieldsOf 5) ⟨5, n, t, p, s, o', c, m, v⟩ r o (by decide)
    rw [e] at h
    exact h
  · have h := number_6 w0 w base rb pv sb [.int .i64 n, .int .i64 t, .int .i64 p, .int .i64 s, .int .i64 o', .int .i64 c, .int .i64 m, .string v] r o rfl d
    have e : runF (fieldsOf 6) (.int .i64 6 :: [.int .i64 n, .int .i64 t, .int .i64 p, .int .i64 s, .int .i64 o', .int .i64 c, .int .i64 m, .string v], r, o) = _ := runF_runS (fieldsOf 6) ⟨6, n, t, p, s, o', c, m, v⟩ r o (by decide)
    rw [e] at h
    exact h
  · have h := number_7 w0 w base rb pv sb [.int .i64 n, .int .i64 t, .int .i64 p, .int .i64 s, .int .i64 o', .int .i64 c, .int .i64 m, .string v] r o rfl d
    have e : runF (fieldsOf 7) (.int .i64 7 :: [.int .i64 n, .int .i64 t, .int .i64 p, .int .i64 s, .int .i64 o', .int .i64 c, .int .i64 m, .string v], r, o) = _ := runF_runS (fieldsOf 7) ⟨7, n, t, p, s, o', c, m, v⟩ r o (by decide)
    rw [e] at h
    exact h
  · have h := number_8 w0 w base rb pv sb [.int .i64 n, .int .i64 t, .int .i64 p, .int .i64 s, .int .i64 o', .int .i64 c, .int .i64 m, .string v] r o rfl d
    have e : runF (fieldsOf 8) (.int .i64 8 :: [.int .i64 n, .int .i64 t, .int .i64 p, .int .i64 s, .int .i64 o', .int .i64 c, .int .i64 m, .string v], r, o) = _ := runF_runS (fieldsOf 8) ⟨8, n, t, p, s, o', c, m, v⟩ r o (by decide)
    rw [e] at h
    exact h
  · have h := number_9 w0 w base rb pv sb [.int .i64 n, .int .i64 t, .int .i64 p, .int .i64 s, .int .i64 o', .int .i64 c, .int .i64 m, .string v] r o rfl d
    have e : runF (fieldsOf 9) (.int .i64 9 :: [.int .i64 n, .int .i64 t, .int .i64 p, .int .i64 s, .int .i64 o', .int .i64 c, .int .i64 m, .string v], r, o) = _ := runF_runS (fieldsOf 9) ⟨9, n, t, p, s, o', c, m, v⟩ r o (by decide)
    rw [e] at h
    exact h
  · have h := number_10 w0 w base rb pv sb [.int .i64 n, .int .i64 t, .int .i64 p, .int .i64 s, .int .i64 o', .int .i64 c, .int .i64 m, .string v] r o rfl d
    have e : runF (fieldsOf 10) (.int .i64 10 :: [.int .i64 n, .int .i64 t, .int .i64 p, .int .i64 s, .int .i64 o', .int .i64 c, .int .i64 m, .string v], r, o) = _ := runF_runS (fieldsOf 10) ⟨10, n, t, p, s, o', c, m, v⟩ r o (by decide)
    rw [e] at h
    exact h
  · have h := number_11 w0 w base rb pv sb [.int .i64 n, .int .i64 t, .int .i64 p, .int .i64 s, .int .i64 o', .int .i64 c, .int .i64 m, .string v] r o rfl d
    have e : runF (fieldsOf 11) (.int .i64 11 :: [.int .i64 n, .int .i64 t, .int .i64 p, .int .i64 s, .int .i64 o', .int .i64 c, .int .i64 m, .string v], r, o) = _ := runF_runS (fieldsOf 11) ⟨11, n, t, p, s, o', c, m, v⟩ r o (by decide)
    rw [e] at h
    exact h
  · have h := number_12 w0 w base rb pv sb [.int .i64 n, .int .i64 t, .int .i64 p, .int .i64 s, .int .i64 o', .int .i64 c, .int .i64 m, .string v] r o rfl d
    have e : runF (fieldsOf 12) (.int .i64 12 :: [.int .i64 n, .int .i64 t, .int .i64 p, .int .i64 s, .int .i64 o', .int .i64 c, .int .i64 m, .string v], r, o) = _ := runF_runS (fieldsOf 12) ⟨12, n, t, p, s, o', c, m, v⟩ r o (by decide)
    rw [e] at h
    exact h
  · have h := number_13 w0 w base rb pv sb [.int .i64 n, .int .i64 t, .int .i64 p, .int .i64 s, .int .i64 o', .int .i64 c, .int .i64 m, .string v] r o rfl d
    have e : runF (fieldsOf 13) (.int .i64 13 :: [.int .i64 n, .int .i64 t, .int .i64 p, .int .i64 s, .int .i64 o', .int .i64 c, .int .i64 m, .string v], r, o) = _ := runF_runS (fieldsOf 13) ⟨13, n, t, p, s, o', c, m, v⟩ r o (by decide)
    rw [e] at h
    exact h
  · have h := number_14 w0 w base rb pv sb [.int .i64 n, .int .i64 t, .int .i64 p, .int .i64 s, .int .i64 o', .int .i64 c, .int .i64 m, .string v] r o rfl d
    have e : runF (fieldsOf 14) (.int .i64 14 :: [.int .i64 n, .int .i64 t, .int .i64 p, .int .i64 s, .int .i64 o', .int .i64 c, .int .i64 m, .string v], r, o) = _ := runF_runS (fieldsOf 14) ⟨14, n, t, p, s, o', c, m, v⟩ r o (by decide)
    rw [e] at h
    exact h
  · have h := number_15 w0 w base rb pv sb [.int .i64 n, .int .i64 t, .int .i64 p, .int .i64 s, .int .i64 o', .int .i64 c, .int .i64 m, .string v] r o rfl d
    have e : runF (fieldsOf 15) (.int .i64 15 :: [.int .i64 n, .int .i64 t, .int .i64 p, .int .i64 s, .int .i64 o', .int .i64 c, .int .i64 m, .string v], r, o) = _ := runF_runS (fieldsOf 15) ⟨15, n, t, p, s, o', c, m, v⟩ r o (by decide)
    rw [e] at h
    exact h
  · have h := number_16 w0 w base rb pv sb [.int .i64 n, .int .i64 t, .int .i64 p, .int .i64 s, .int .i64 o', .int .i64 c, .int .i64 m, .string v] r o rfl d
    have e : runF (fieldsOf 16) (.int .i64 16 :: [.int .i64 n, .int .i64 t, .int .i64 p, .int .i64 s, .int .i64 o', .int .i64 c, .int .i64 m, .string v], r, o) = _ := runF_runS (fieldsOf 16) ⟨16, n, t, p, s, o', c, m, v⟩ r o (by decide)
    rw [e] at h
    exact h
  · have h := number_17 w0 w base rb pv sb [.int .i64 n, .int .i64 t, .int .i64 p, .int .i64 s, .int .i64 o', .int .i64 c, .int .i64 m, .string v] r o rfl d
    have e : runF (fieldsOf 17) (.int .i64 17 :: [.int .i64 n, .int .i64 t, .int .i64 p, .int .i64 s, .int .i64 o', .int .i64 c, .int .i64 m, .string v], r, o) = _ := runF_runS (fieldsOf 17) ⟨17, n, t, p, s, o', c, m, v⟩ r o (by decide)
    rw [e] at h
    exact h
  · have h := number_18 w0 w base rb pv sb [.int .i64 n, .int .i64 t, .int .i64 p, .int .i64 s, .int .i64 o', .int .i64 c, .int .i64 m, .string v] r o rfl d
    have e : runF (fieldsOf 18) (.int .i64 18 :: [.int .i64 n, .int .i64 t, .int .i64 p, .int .i64 s, .int .i64 o', .int .i64 c, .int .i64 m, .string v], r, o) = _ := runF_runS (fieldsOf 18) ⟨18, n, t, p, s, o', c, m, v⟩ r o (by decide)
    rw [e] at h
    exact h
  · have h := number_19 w0 w base rb pv sb [.int .i64 n, .int .i64 t, .int .i64 p, .int .i64 s, .int .i64 o', .int .i64 c, .int .i64 m, .string v] r o rfl d
    have e : runF (fieldsOf 19) (.int .i64 19 :: [.int .i64 n, .int .i64 t, .int .i64 p, .int .i64 s, .int .i64 o', .int .i64 c, .int .i64 m, .string v], r, o) = _ := runF_runS (fieldsOf 19) ⟨19, n, t, p, s, o', c, m, v⟩ r o (by decide)
    rw [e] at h
    exact h

end Go.Proofs.Ythedllndcibkcaa
