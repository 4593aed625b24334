/- The statements' own test of the program, of chapter 2: it answers true. -/
import Derived.Test.YtpgbipkcjbhkdaaConv4
namespace Go.Proofs.Ytpgbipkcjbhkdaa
open Go.RowKit
set_option linter.unusedVariables false
set_option linter.unusedSimpArgs false
set_option maxHeartbeats 1000000 in
theorem conv_awake (w : World) : Calls Try.prog 21 #[] w fun e w' => e = .returned (.bool true) ∧ Below w.heap.size w w' := by
  have c1 : ofN 1 3 = -2 := by decide
  have c2 : ofN 6 4294967295 = -1 := by unfold ofN; simp only [Int.reduceEq, if_false]; unfold wrap64 wrap32; omega
  have c3 : wireOf 5 = 1 := by decide
  have h1 := Lib.hid (fun w => c1 ▸ conv_of_in 1 3 (by decide) (by decide) (by decide) (by decide) w)
  have h2 := Lib.hid (fun w => c2 ▸ conv_of_in 6 4294967295 (by decide) (by decide) (by decide) (by decide) w)
  have h3 := Lib.hid (fun w => c3 ▸ conv_wire 5 w)
  clear c1 c2 c3
  go_enter Try.func21, Try.ntmps21
  go_wp2_with fail
  refine (h1.out _).mono ?_
  rintro e w1 ⟨rfl, b1⟩
  go_wp2_with fail
  refine (h2.out _).mono ?_
  rintro e w2 ⟨rfl, b2⟩
  go_wp2_with fail
  refine (h3.out _).mono ?_
  rintro e w3 ⟨rfl, b3⟩
  go_wp2_with fail
  go_ret
  exact ⟨rfl, (b1.trans (b2.mono b1.size)).trans (b3.mono (Nat.le_trans b1.size b2.size))⟩
end Go.Proofs.Ytpgbipkcjbhkdaa
