/- awake: what the statements begin with. -/
import Derived.Test.YtkdmilchklmefaaTotS
import Derived.Test.YtkdmilchklmefaaNewS
namespace Go.Proofs.Ytkdmilchklmefaa
open Go.RowKit
set_option linter.unusedVariables false
set_option linter.unusedSimpArgs false


theorem sput_to {b g h : Nat} {F F' : List (Fr ByteArray)} {id : Int} {x : ByteArray} {c : Int} (hc : putE F id = c) (hF : putL F id x = F') (w : World) (hp : sPool w b g F h) :
    Calls Try.prog 11 #[.pointer (some ⟨b, 0, none⟩), .int .i64 id, .string x] w fun e w' => e = .returned (.int .i64 c) ∧ sPU w w' b g F' h := by
  subst hc hF; exact sput_any w b g h F hp id x
theorem sget_to {b g h : Nat} {F F' : List (Fr ByteArray)} {id : Int} {x : ByteArray} {o : Bool} (hx : xOf ByteArray.empty F id = x) (ho : (find F id).isSome = o) (hF : upd F id mrkU = F') (w : World) (hp : sPool w b g F h) :
    Calls Try.prog 21 #[.pointer (some ⟨b, 0, none⟩), .int .i64 id] w fun e w' => e = .returned (.tuple #[.string x, .bool o]) ∧ sPU w w' b g F' h := by
  subst hx ho hF; exact sget_any w b g h F hp id
theorem sfull_to {b g h : Nat} {F : List (Fr ByteArray)} {o : Bool} (ho : (empty F).isNone = o) (w : World) (hp : sPool w b g F h) :
    Calls Try.prog 35 #[.pointer (some ⟨b, 0, none⟩)] w fun e w' => e = .returned (.bool o) ∧ w = w' := by
  subst ho; exact sfull_any w b g h F hp

def fr0 : List (Fr ByteArray) := [szero, szero]
def fr1 : List (Fr ByteArray) := [⟨true, 5, ⟨#[97]⟩, true, 0, false, 0⟩, szero]
def fr2 : List (Fr ByteArray) := [⟨true, 5, ⟨#[97]⟩, true, 0, false, 0⟩, ⟨true, 7, ⟨#[98]⟩, true, 0, false, 0⟩]
theorem aw1 : putE fr0 5 = 0 := by rfl
theorem aw2 : putL fr0 5 ⟨#[97]⟩ = fr1 := by rfl
theorem aw3 : putE fr1 7 = 0 := by rfl
theorem aw4 : putL fr1 7 ⟨#[98]⟩ = fr2 := by rfl
theorem aw5 : putE fr2 8 = 8 := by rfl
theorem aw6 : putL fr2 8 ⟨#[99]⟩ = fr2 := by rfl
theorem aw7 : xOf ByteArray.empty fr2 7 = ⟨#[98]⟩ := by rfl
theorem aw8 : (find fr2 7).isSome = true := by rfl
theorem aw9 : upd fr2 7 mrkU = fr2 := by rfl
theorem aw10 : (empty fr2).isNone = true := by rfl

set_option maxHeartbeats 1000000 in
theorem awake_any (w : World) : Calls Try.prog 9 #[] w fun e w' => e = .returned (.bool true) ∧ Ext [] w w' := by
  go_enter Try.func9, Try.ntmps9
  go_wp2_with (go_at_call 10; fail)
  refine (snew_any 2 w).mono ?_
  rintro e w1 ⟨rfl, D1, E1⟩
  have HD1 : Hid (sPool w1 (w.heap.size + 1) w.heap.size fr0 0) := D1
  have HE1 := Lib.hid E1
  generalize hbb : w.heap.size + 1 = b at *
  have HB := Lib.hid hbb
  clear D1 E1 hbb
  go_wp2_with (go_at_call 11; fail)
  refine (sput_to (b := b) (g := w.heap.size) aw1 aw2 _ HD1.out).mono ?_
  rintro e w2 ⟨rfl, U2⟩
  have HU2 := Lib.hid U2
  clear U2
  go_wp2_with (go_at_call 11; fail)
  refine (sput_to (b := b) (g := w.heap.size) aw3 aw4 _ HU2.out.1).mono ?_
  rintro e w3 ⟨rfl, U3⟩
  have HU3 := Lib.hid U3
  clear U3
  go_wp2_with (go_at_call 11; fail)
  refine (sput_to (b := b) (g := w.heap.size) aw5 aw6 _ HU3.out.1).mono ?_
  rintro e w4 ⟨rfl, U4⟩
  have HU4 := Lib.hid U4
  clear U4
  go_wp2_with (go_at_call 21; fail)
  refine (sget_to (b := b) (g := w.heap.size) aw7 aw8 aw9 _ HU4.out.1).mono ?_
  rintro e w5 ⟨rfl, U5⟩
  have HU5 := Lib.hid U5
  clear U5
  go_wp2_with (go_at_call 35; fail)
  refine (sfull_to (b := b) (g := w.heap.size) aw10 _ HU5.out.1).mono ?_
  rintro e w6 ⟨rfl, rfl⟩
  go_wp2
  go_ret
  refine ⟨rfl, HE1.out.new (((HU2.out.2.trans HU3.out.2).trans HU4.out.2).trans HU5.out.2) ?_⟩
  have hb := HB.out
  intro x hx
  simp at hx
  omega

end Go.Proofs.Ytkdmilchklmefaa
