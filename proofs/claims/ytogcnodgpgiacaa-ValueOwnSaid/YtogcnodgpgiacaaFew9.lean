/- Contracts of trufflelaw09.few and trufflelaw09.rising, and of value.Less. -/
import Derived.Test.YtogcnodgpgiacaaCount2
namespace Go.Tr
/-- What is not too great. -/
def Light (d : Int) (m : Msg) : Prop := m.weight ≤ 3000 ∧ (m.deep : Int) ≤ d
end Go.Tr
namespace Go.Proofs.Ytogcnodgpgiacaa
open Go.RowKit Go.Tr
set_option linter.unusedVariables false
set_option linter.unusedSimpArgs false
def FewsPost (ms : List Msg) (w : World) (e : Ending) (w' : World) : Prop :=
  (∃ b : Bool, e = .returned (.bool b) ∧ (b = true → ∀ m ∈ ms, Light 80 m)) ∧ Below w.heap.size w w'
set_option maxHeartbeats 1000000 in
theorem law_few (L n : Nat) (hL : L ≤ 8796093022208) (w : World) (v : Value) (ms : List Msg) (hx : RowOf L 0 w 1 (RMsg L 0 w n) v ms) :
    Calls Try.prog 11 #[v] w (FewsPost ms w) := by
  have HX := Lib.hid (fun wr (hb : Below w.heap.size w wr) => hx.imp (R' := RMsg L 0 wr n) hb fun _ _ _ h => RMsg.below hb n h)
  obtain ⟨a1, cap1, rfl, q0, q1, q2, -, -⟩ := hx
  unfold maxLen at q2
  go_enter Try.func11, Try.ntmps11
  go_wp2
  go_loopw [3] (fun i wr => ∃ k : Nat, k ≤ ms.length ∧ i = .int .i64 k ∧ Hid (Below w.heap.size w wr) ∧ Hid (∀ j (hj : j < ms.length), j < k → Light 80 ms[j])) (fun i _ => ms.length - (intOf i).toNat)
  case atStart => exact ⟨0, by omega, rfl, Below.refl _ _, fun j hj h => absurd h (by omega)⟩
  case round =>
    obtain ⟨k, hk, rfl, hb, hall⟩ := hrel
    by_cases hlt : k < ms.length
    · obtain ⟨b3, o3, f0, e3, -, s0, t0, rz⟩ := (HX.out wr hb.out).get1 (rmsg_one L 0 n) k hlt
      cases e3
      have bl3 := block_lt_of_cell s0
      have HC := Lib.hid (ref_few L n hL wr [f0] ms[k] 80 (by omega) (by omega) rz)
      clear rz
      go_wp2_with fail
      refine HC.out.mono ?_; rintro e w3 ⟨⟨b, rfl, hbt⟩, b3⟩
      cases b with
      | true =>
        have HN := Lib.hid (show ∀ j (hj : j < ms.length), j < k + 1 → Light 80 ms[j] by
          intro j hj h
          rcases Nat.lt_or_ge j k with h' | h'
          · exact hall.out j hj h'
          · have : j = k := by omega
            subst this; exact hbt rfl)
        clear hbt
        go_wp2
        refine ⟨⟨k + 1, by omega, by go_num, hb.out.nx b3, HN.out⟩, ?_⟩
        simp only [intOf]
        omega
      | false =>
        clear hbt
        go_wp2
        exact ⟨rfl, _, results_tmp (t := 2) rfl _ _ _, ⟨false, rfl, fun h => by cases h⟩, hb.out.nx b3⟩
    · have hkl : k = ms.length := by omega
      subst hkl
      go_wp2
      exact ⟨rfl, _, results_tmp (t := 2) rfl _ _ _, ⟨true, rfl, fun _ m hm => by obtain ⟨j, hj, rfl⟩ := List.mem_iff_getElem.1 hm; exact hall.out j hj hj⟩, hb.out⟩
/-- What value.Less tells. -/
def lessVal (x y : Val) : Bool := decide (x.n < y.n) || (decide (x.n = y.n) && Op.bytesLess x.s.toList y.s.toList)
theorem value_less (R : List Value → Msg → Prop) (L B : Nat) (w w0 : World) (cs ds : List Value) (x y : Val) (hx : RVal L B w0 R cs x) (hy : RVal L B w0 R ds y) :
    Calls Try.prog 26 #[.agg cs.toArray, .agg ds.toArray] w fun e w' => e = .returned (.bool (lessVal x y)) ∧ Below w.heap.size w w' := by
  obtain ⟨c, rfl, -, -, -, -⟩ := hx
  obtain ⟨d, rfl, -, -, -, -⟩ := hy
  go_enter Try.func26, Try.ntmps26
  go_wp2
  all_goals refine ⟨rfl, _, results_tmp (t := 4) rfl _ _ _, ?_, al2 _ _ _⟩
  all_goals (
    unfold lessVal
    congr 2
    by_cases h1 : x.n < y.n
    · first | omega | simp [h1]
    · by_cases h2 : x.n = y.n
      · first | omega | simp [h2]
      · first | omega | simp [h1, h2])
end Go.Proofs.Ytogcnodgpgiacaa
