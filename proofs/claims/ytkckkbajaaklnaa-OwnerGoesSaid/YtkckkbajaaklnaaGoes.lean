/- OwnerGoes: a page goes from one node to another one, and is nowhere else meanwhile. -/
import Derived.Test.YtkckkbajaaklnaaShip
import Derived.Test.YtkckkbajaaklnaaAwake
namespace Go.Proofs.Ytkckkbajaaklnaa
open Go.RowKit
set_option linter.unusedVariables false
set_option linter.unusedSimpArgs false
set_option linter.unusedSectionVars false

/-- All at home but one page. -/
def one (P : Int) (q : Int × Int) : List (Int × Int) := (List.replicate 32 (0, 0)).set P.toNat q

theorem one_in {P : Int} (h0 : 0 ≤ P) (h1 : P < 32) (q : Int × Int) : inP (one P q) P := by unfold inP one; simp; omega
theorem one_pl {P : Int} (h0 : 0 ≤ P) (h1 : P < 32) (q : Int × Int) : pl (one P q) P = q := by
  unfold pl one
  have : P.toNat < 32 := by omega
  simp [this]
theorem one_set (P : Int) (q r : Int × Int) : (one P q).set P.toNat r = one P r := by unfold one; rw [List.set_set]
theorem node_ok {n : Int} (h0 : 0 ≤ n) (h1 : n < 8) : nodeB n = true := by unfold nodeB; simp [h0, h1]
theorem home_pl {P : Int} : pl (List.replicate 32 (0, 0)) P = (0, 0) := by
  unfold pl
  rw [List.getD_eq_getElem?_getD, List.getElem?_replicate]
  split <;> rfl
theorem home_in {P : Int} (h0 : 0 ≤ P) (h1 : P < 32) : inP (List.replicate 32 (0, 0)) P := by unfold inP; simp; omega

section
variable {P X : Int} (h0 : 0 ≤ P) (h1 : P < 32) (x0 : 0 ≤ X) (x1 : X < 8)
include h0 h1 x0 x1
theorem turnE_one {Y : Int} (y0 : 0 ≤ Y) (y1 : Y < 8) (q : Int × Int) (fk tk : Int) : turnE (one P q) P fk X tk Y = if q = (fk, X) then 0 else 13 := by
  have hh : turnOk (one P q) P X Y := ⟨one_in h0 h1 q, node_ok x0 x1, node_ok y0 y1⟩
  unfold turnE
  rw [if_pos hh, one_pl h0 h1]
theorem turnL_one {Y : Int} (y0 : 0 ≤ Y) (y1 : Y < 8) (q : Int × Int) (fk tk : Int) : turnL (one P q) P fk X tk Y = if q = (fk, X) then one P (tk, Y) else one P q := by
  have hh : turnOk (one P q) P X Y := ⟨one_in h0 h1 q, node_ok x0 x1, node_ok y0 y1⟩
  unfold turnL
  rw [one_pl h0 h1, one_set]
  by_cases h : q = (fk, X)
  · rw [if_pos h, if_pos (And.intro hh h)]
  · rw [if_neg h, if_neg (fun h2 => h h2.2)]
theorem askA_one (q : Int × Int) : askA (one P q) P X = if q.1 = 0 then -1 else q.2 := by
  unfold askA
  rw [one_pl h0 h1, if_pos ⟨one_in h0 h1 q, node_ok x0 x1⟩]
theorem askE_one (q : Int × Int) : askE (one P q) P X = if q.1 = 0 then 0 else if q.1 = 1 ∧ q.2 = X then 0 else 12 := by
  unfold askE
  rw [one_pl h0 h1, if_pos ⟨one_in h0 h1 q, node_ok x0 x1⟩]
theorem askL_one (q : Int × Int) (hq : q.1 ≠ 0) : askL (one P q) P X = one P q := by
  unfold askL
  rw [one_pl h0 h1, if_neg (fun h => hq h.2.2)]
theorem ask_first : askA (List.replicate 32 (0, 0)) P X = -1 ∧ askE (List.replicate 32 (0, 0)) P X = 0 ∧ askL (List.replicate 32 (0, 0)) P X = one P (1, X) := by
  unfold askA askE askL one
  have hh : inP (List.replicate 32 ((0 : Int), (0 : Int))) P ∧ nodeB X = true := ⟨home_in h0 h1, node_ok x0 x1⟩
  rw [home_pl]
  refine ⟨?_, ?_, ?_⟩
  · rw [if_pos hh]; rfl
  · rw [if_pos hh]; rfl
  · rw [if_pos ⟨hh.1, hh.2, rfl⟩]
end

theorem ship_to {b g : Nat} {L L' : List (Int × Int)} {x f t e0 : Int} (hE : shipE L x f t = e0) (hL : shipL L x f t = L') (w : World) (h : Dir w 51 57 b g L) :
    Calls Try.prog 12 #[.pointer (some ⟨b, 0, none⟩), .int .i64 x, .int .i64 f, .int .i64 t] w fun e w' => e = .returned (.int .i64 e0) ∧ Upd w w' 51 57 b g L' := by subst hE hL; exact ship_any b g L w h x f t
theorem land_to {b g : Nat} {L L' : List (Int × Int)} {x f e0 : Int} (hE : landE L x f = e0) (hL : landL L x f = L') (w : World) (h : Dir w 51 57 b g L) :
    Calls Try.prog 11 #[.pointer (some ⟨b, 0, none⟩), .int .i64 x, .int .i64 f] w fun e w' => e = .returned (.int .i64 e0) ∧ Upd w w' 51 57 b g L' := by subst hE hL; exact land_any b g L w h x f
theorem leave_to {b g : Nat} {L L' : List (Int × Int)} {x f e0 : Int} (hE : leaveE L x f = e0) (hL : leaveL L x f = L') (w : World) (h : Dir w 51 57 b g L) :
    Calls Try.prog 13 #[.pointer (some ⟨b, 0, none⟩), .int .i64 x, .int .i64 f] w fun e w' => e = .returned (.int .i64 e0) ∧ Upd w w' 51 57 b g L' := by subst hE hL; exact leave_any b g L w h x f
theorem heal_to {b g : Nat} {L L' : List (Int × Int)} {x e0 : Int} (hE : healE L x = e0) (hL : healL L x = L') (w : World) (h : Dir w 51 57 b g L) :
    Calls Try.prog 14 #[.pointer (some ⟨b, 0, none⟩), .int .i64 x] w fun e w' => e = .returned (.int .i64 e0) ∧ Upd w w' 51 57 b g L' := by subst hE hL; exact heal_any b g L w h x

set_option maxHeartbeats 2000000 in
theorem goes_any (pg x y : Int) (hp : 0 ≤ pg) (hp2 : pg < 256) (hx : 0 ≤ x) (hx2 : x < 256) (hy : 0 ≤ y) (hy2 : y < 256) (w : World) :
    Calls Try.prog 3 #[.int .u8 pg, .int .u8 x, .int .u8 y] w fun e w' => e = .returned (.bool true) ∧ Ext [] w w' := by
  by_cases hxy : x % 8 = y % 8
  · have hb : (x % 8 == y % 8) = true := beq_iff_eq.2 hxy
    clear hxy
    go_enter Try.func3, Try.ntmps3
    go_wp2_with (first | (go_at_call 8; refine (awake_any _).mono ?_; rintro e w1 ⟨rfl, E1⟩) | (go_at_call 9; refine (new_any _ _).mono ?_; rintro e w2 ⟨rfl, D2, E2⟩; have HE2 := Lib.hid (E1.trans E2); clear E1 D2 E2))
    go_ret
    exact ⟨rfl, HE2.out⟩
  · have hb : (x % 8 == y % 8) = false := beq_eq_false_iff_ne.2 hxy
    have hyx : ¬ y % 8 = x % 8 := fun h => hxy h.symm
    have p0 : 0 ≤ pg % 32 := by omega
    have p1 : pg % 32 < 32 := by omega
    have x0 : 0 ≤ x % 8 := by omega
    have x1 : x % 8 < 8 := by omega
    have y0 : 0 ≤ y % 8 := by omega
    have y1 : y % 8 < 8 := by omega
    have q1 := Lib.hid (ask_first p0 p1 x0 x1)
    have q2a : askA (one (pg % 32) (1, x % 8)) (pg % 32) (y % 8) = x % 8 := by rw [askA_one p0 p1 y0 y1]; simp
    have q2b : askE (one (pg % 32) (1, x % 8)) (pg % 32) (y % 8) = 12 := by rw [askE_one p0 p1 y0 y1]; simp [hxy]
    have q2c := askL_one p0 p1 y0 y1 (1, x % 8) (by simp)
    have q3a : landE (one (pg % 32) (1, x % 8)) (pg % 32) (y % 8) = 13 := by unfold landE; rw [turnE_one p0 p1 y0 y1 y0 y1]; simp
    have q3b : landL (one (pg % 32) (1, x % 8)) (pg % 32) (y % 8) = one (pg % 32) (1, x % 8) := by unfold landL; rw [turnL_one p0 p1 y0 y1 y0 y1]; simp
    have q4a : shipE (one (pg % 32) (1, x % 8)) (pg % 32) (y % 8) (x % 8) = 13 := by unfold shipE; rw [if_neg hyx, turnE_one p0 p1 y0 y1 x0 x1]; simp [hxy]
    have q4b : shipL (one (pg % 32) (1, x % 8)) (pg % 32) (y % 8) (x % 8) = one (pg % 32) (1, x % 8) := by unfold shipL; rw [if_neg hyx, turnL_one p0 p1 y0 y1 x0 x1]; simp [hxy]
    have q5a : shipE (one (pg % 32) (1, x % 8)) (pg % 32) (x % 8) (y % 8) = 0 := by unfold shipE; rw [if_neg hxy, turnE_one p0 p1 x0 x1 y0 y1]; simp
    have q5b : shipL (one (pg % 32) (1, x % 8)) (pg % 32) (x % 8) (y % 8) = one (pg % 32) (2, y % 8) := by unfold shipL; rw [if_neg hxy, turnL_one p0 p1 x0 x1 y0 y1]; simp
    have q6a : leaveE (one (pg % 32) (2, y % 8)) (pg % 32) (x % 8) = 13 := by unfold leaveE; rw [turnE_one p0 p1 x0 x1 (by omega) (by omega)]; simp
    have q6b : leaveL (one (pg % 32) (2, y % 8)) (pg % 32) (x % 8) = one (pg % 32) (2, y % 8) := by unfold leaveL; rw [turnL_one p0 p1 x0 x1 (by omega) (by omega)]; simp
    have q7a : leaveE (one (pg % 32) (2, y % 8)) (pg % 32) (y % 8) = 13 := by unfold leaveE; rw [turnE_one p0 p1 y0 y1 (by omega) (by omega)]; simp
    have q7b : leaveL (one (pg % 32) (2, y % 8)) (pg % 32) (y % 8) = one (pg % 32) (2, y % 8) := by unfold leaveL; rw [turnL_one p0 p1 y0 y1 (by omega) (by omega)]; simp
    have q8a : landE (one (pg % 32) (2, y % 8)) (pg % 32) (x % 8) = 13 := by unfold landE; rw [turnE_one p0 p1 x0 x1 x0 x1]; simp [hyx]
    have q8b : landL (one (pg % 32) (2, y % 8)) (pg % 32) (x % 8) = one (pg % 32) (2, y % 8) := by unfold landL; rw [turnL_one p0 p1 x0 x1 x0 x1]; simp [hyx]
    have q9a : askA (one (pg % 32) (2, y % 8)) (pg % 32) (x % 8) = y % 8 := by rw [askA_one p0 p1 x0 x1]; simp
    have q9b : askE (one (pg % 32) (2, y % 8)) (pg % 32) (x % 8) = 12 := by rw [askE_one p0 p1 x0 x1]; simp
    have q9c := askL_one p0 p1 x0 x1 (2, y % 8) (by simp)
    have q10a : landE (one (pg % 32) (2, y % 8)) (pg % 32) (y % 8) = 0 := by unfold landE; rw [turnE_one p0 p1 y0 y1 y0 y1]; simp
    have q10b : landL (one (pg % 32) (2, y % 8)) (pg % 32) (y % 8) = one (pg % 32) (1, y % 8) := by unfold landL; rw [turnL_one p0 p1 y0 y1 y0 y1]; simp
    have q11a : askA (one (pg % 32) (1, y % 8)) (pg % 32) (y % 8) = y % 8 := by rw [askA_one p0 p1 y0 y1]; simp
    have q11b : askE (one (pg % 32) (1, y % 8)) (pg % 32) (y % 8) = 0 := by rw [askE_one p0 p1 y0 y1]; simp
    have q11c := askL_one p0 p1 y0 y1 (1, y % 8) (by simp)
    have q12a : leaveE (one (pg % 32) (1, y % 8)) (pg % 32) (y % 8) = 0 := by unfold leaveE; rw [turnE_one p0 p1 y0 y1 (by omega) (by omega)]; simp
    have q12b : leaveL (one (pg % 32) (1, y % 8)) (pg % 32) (y % 8) = one (pg % 32) (0, 0) := by unfold leaveL; rw [turnL_one p0 p1 y0 y1 (by omega) (by omega)]; simp
    have q13a : healE (one (pg % 32) (0, 0)) (pg % 32) = 13 := by unfold healE; rw [one_pl p0 p1, if_pos (one_in p0 p1 _)]; simp
    have q13b : healL (one (pg % 32) (0, 0)) (pg % 32) = one (pg % 32) (0, 0) := by unfold healL; rw [one_pl p0 p1]; simp
    have h2 := Lib.hid (And.intro q2a (And.intro q2b q2c))
    have h3 := Lib.hid (And.intro q3a q3b)
    have h4 := Lib.hid (And.intro q4a q4b)
    have h5 := Lib.hid (And.intro q5a q5b)
    have h6 := Lib.hid (And.intro q6a q6b)
    have h7 := Lib.hid (And.intro q7a q7b)
    have h8 := Lib.hid (And.intro q8a q8b)
    have h9 := Lib.hid (And.intro q9a (And.intro q9b q9c))
    have h10 := Lib.hid (And.intro q10a q10b)
    have h11 := Lib.hid (And.intro q11a (And.intro q11b q11c))
    have h12 := Lib.hid (And.intro q12a q12b)
    have h13 := Lib.hid (And.intro q13a q13b)
    clear q2a q2b q2c q3a q3b q4a q4b q5a q5b q6a q6b q7a q7b q8a q8b q9a q9b q9c q10a q10b q11a q11b q11c q12a q12b q13a q13b hxy hyx
    go_enter Try.func3, Try.ntmps3
    go_wp2_with (first | (go_at_call 8; refine (awake_any _).mono ?_; rintro e w1 ⟨rfl, E1⟩) | (go_at_call 9; fail))
    refine (new_any _ _).mono ?_
    rintro e w2 ⟨rfl, D2, E2⟩
    have HD2 := Lib.hid D2
    have HE2 := Lib.hid (E1.trans E2)
    have hbs : w.heap.size ≤ w1.heap.size := E1.size
    generalize hgg : w1.heap.size = g at *
    generalize hbb : g + 1 = b at *
    have HG := Lib.hid hgg
    have HB := Lib.hid hbb
    clear D2 E1 E2 hgg hbb
    go_wp2_with (go_at_call 10; fail)
    refine (ask_to q1.out.1 q1.out.2.1 q1.out.2.2 _ HD2.out).mono ?_
    rintro e w3 ⟨rfl, D3, E3⟩
    have HD3 := Lib.hid D3
    have HE3 := Lib.hid (HE2.out.new E3 (by simp; omega))
    clear D3 E3
    go_wp2_with (go_at_call 10; fail)
    refine (ask_to h2.out.1 h2.out.2.1 h2.out.2.2 _ HD3.out).mono ?_
    rintro e w4 ⟨rfl, D4, E4⟩
    have HD4 := Lib.hid D4
    have HE4 := Lib.hid (HE3.out.new E4 (by simp; omega))
    clear D4 E4
    go_wp2_with (go_at_call 11; fail)
    refine (land_to h3.out.1 h3.out.2 _ HD4.out).mono ?_
    rintro e w5 ⟨rfl, D5, E5⟩
    have HD5 := Lib.hid D5
    have HE5 := Lib.hid (HE4.out.new E5 (by simp; omega))
    clear D5 E5
    go_wp2_with (go_at_call 12; fail)
    refine (ship_to h4.out.1 h4.out.2 _ HD5.out).mono ?_
    rintro e w6 ⟨rfl, D6, E6⟩
    have HD6 := Lib.hid D6
    have HE6 := Lib.hid (HE5.out.new E6 (by simp; omega))
    clear D6 E6
    go_wp2_with (go_at_call 12; fail)
    refine (ship_to h5.out.1 h5.out.2 _ HD6.out).mono ?_
    rintro e w7 ⟨rfl, D7, E7⟩
    have HD7 := Lib.hid D7
    have HE7 := Lib.hid (HE6.out.new E7 (by simp; omega))
    clear D7 E7
    go_wp2_with (go_at_call 13; fail)
    refine (leave_to h6.out.1 h6.out.2 _ HD7.out).mono ?_
    rintro e w8 ⟨rfl, D8, E8⟩
    have HD8 := Lib.hid D8
    have HE8 := Lib.hid (HE7.out.new E8 (by simp; omega))
    clear D8 E8
    go_wp2_with (go_at_call 13; fail)
    refine (leave_to h7.out.1 h7.out.2 _ HD8.out).mono ?_
    rintro e w9 ⟨rfl, D9, E9⟩
    have HD9 := Lib.hid D9
    have HE9 := Lib.hid (HE8.out.new E9 (by simp; omega))
    clear D9 E9
    go_wp2_with (go_at_call 11; fail)
    refine (land_to h8.out.1 h8.out.2 _ HD9.out).mono ?_
    rintro e w10 ⟨rfl, D10, E10⟩
    have HD10 := Lib.hid D10
    have HE10 := Lib.hid (HE9.out.new E10 (by simp; omega))
    clear D10 E10
    go_wp2_with (go_at_call 10; fail)
    refine (ask_to h9.out.1 h9.out.2.1 h9.out.2.2 _ HD10.out).mono ?_
    rintro e w11 ⟨rfl, D11, E11⟩
    have HD11 := Lib.hid D11
    have HE11 := Lib.hid (HE10.out.new E11 (by simp; omega))
    clear D11 E11
    go_wp2_with (go_at_call 11; fail)
    refine (land_to h10.out.1 h10.out.2 _ HD11.out).mono ?_
    rintro e w12 ⟨rfl, D12, E12⟩
    have HD12 := Lib.hid D12
    have HE12 := Lib.hid (HE11.out.new E12 (by simp; omega))
    clear D12 E12
    go_wp2_with (go_at_call 10; fail)
    refine (ask_to h11.out.1 h11.out.2.1 h11.out.2.2 _ HD12.out).mono ?_
    rintro e w13 ⟨rfl, D13, E13⟩
    have HD13 := Lib.hid D13
    have HE13 := Lib.hid (HE12.out.new E13 (by simp; omega))
    clear D13 E13
    go_wp2_with (go_at_call 13; fail)
    refine (leave_to h12.out.1 h12.out.2 _ HD13.out).mono ?_
    rintro e w14 ⟨rfl, D14, E14⟩
    have HD14 := Lib.hid D14
    have HE14 := Lib.hid (HE13.out.new E14 (by simp; omega))
    clear D14 E14
    go_wp2_with (go_at_call 14; fail)
    refine (heal_to h13.out.1 h13.out.2 _ HD14.out).mono ?_
    rintro e w15 ⟨rfl, D15, E15⟩
    have HE15 := Lib.hid (HE14.out.new E15 (by simp; omega))
    clear D15 E15
    go_wp2
    go_ret
    exact ⟨rfl, HE15.out⟩

end Go.Proofs.Ytkckkbajaaklnaa
