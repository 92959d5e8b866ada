/- awake: what the statements begin with. -/
import Derived.Test.YtkckkbajaaklnaaAsk
import Derived.Test.YtkckkbajaaklnaaNew
namespace Go.Proofs.Ytkckkbajaaklnaa
open Go.RowKit
set_option linter.unusedVariables false
set_option linter.unusedSimpArgs false

theorem ask_to {b g : Nat} {L L' : List (Int × Int)} {x n a e0 : Int} (hA : askA L x n = a) (hE : askE L x n = e0) (hL : askL L x n = L') (w : World) (h : Dir w 51 57 b g L) :
    Calls Try.prog 10 #[.pointer (some ⟨b, 0, none⟩), .int .i64 x, .int .i64 n] w fun e w' => e = .returned (.tuple #[.int .i64 a, .int .i64 e0]) ∧ Upd w w' 51 57 b g L' := by
  subst hA hE hL; exact ask_any b g L w h x n
theorem where_to {b g : Nat} {L : List (Int × Int)} {x k n : Int} (hK : whereK L x = k) (hN : whereN L x = n) (w : World) (h : Dir w 51 57 b g L) :
    Calls Try.prog 19 #[.pointer (some ⟨b, 0, none⟩), .int .i64 x] w fun e w' => e = .returned (.tuple #[.int .i64 k, .int .i64 n]) ∧ ∃ m, w' = w.drewN m := by
  subst hK hN; exact where_any b g L w h x

set_option maxHeartbeats 1000000 in
theorem awake_any (w : World) : Calls Try.prog 8 #[] w fun e w' => e = .returned (.bool true) ∧ Ext [] w w' := by
  go_enter Try.func8, Try.ntmps8
  go_wp2_with (go_at_call 9; fail)
  refine (new_any 4 w).mono ?_
  rintro e w1 ⟨rfl, D1, E1⟩
  have HD1 := Lib.hid D1
  have HE1 := Lib.hid E1
  have hb : w.heap.size + 1 ∉ ([] : List Nat) := by simp
  generalize hbb : w.heap.size + 1 = b at *
  have HB := Lib.hid hbb
  clear D1 E1 hbb hb
  go_wp2_with (go_at_call 10; fail)
  refine (ask_to (b := b) (g := w.heap.size) (L := List.replicate (many 4).toNat (0, 0)) (L' := [(0,0), (0,0), (0,0), (1,1)]) (x := 3) (n := 1) (a := -1) (e0 := 0) (by decide) (by decide) (by decide) _ HD1.out).mono ?_
  rintro e w2 ⟨rfl, D2, E2⟩
  have HD2 := Lib.hid D2
  have HE2 := Lib.hid E2
  clear D2 E2
  go_wp2_with (go_at_call 19; fail)
  refine (where_to (b := b) (g := w.heap.size) (L := [(0,0), (0,0), (0,0), (1,1)]) (x := 3) (k := 1) (n := 1) (by decide) (by decide) _ HD2.out).mono ?_
  rintro e w3 ⟨rfl, m3, rfl⟩
  go_wp2
  go_ret
  refine ⟨rfl, ?_⟩
  have h1 := HE1.out
  have h2 := HE2.out
  refine Ext.drewN ⟨h2.os.trans h1.os, h2.tape.trans h1.tape, h2.output.trans h1.output, Nat.le_trans h1.size h2.size, fun k hk hn => (h2.block k (by have := h1.size; omega) (by simp; omega)).trans (h1.block k hk hn)⟩ _

theorem Ext.new {S T : List Nat} {a b c : World} (h : Ext S a b) (k : Ext T b c) (hT : ∀ x ∈ T, x ∈ S ∨ a.heap.size ≤ x) : Ext S a c :=
  ⟨k.os.trans h.os, k.tape.trans h.tape, k.output.trans h.output, Nat.le_trans h.size k.size, fun i hi hn => (k.block i (Nat.lt_of_lt_of_le hi h.size) (fun hx => by rcases hT i hx with h1 | h1; exact hn h1; omega)).trans (h.block i hi hn)⟩

end Go.Proofs.Ytkckkbajaaklnaa
