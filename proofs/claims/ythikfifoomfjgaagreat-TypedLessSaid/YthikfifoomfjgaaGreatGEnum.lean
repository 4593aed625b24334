/- Contract of table.enum: may an enum be? -/
import Derived.Test.YthikfifoomfjgaaGreatPAx1
import Derived.Shelf.Abstract
import Derived.Test.YthikfifoomfjgaaGreatGLib
import Derived.Test.YthikfifoomfjgaaGreatUniq
namespace Go.Proofs.YthikfifoomfjgaaGreat.PA
open Go.RowKit Go.Proofs.YthikfifoomfjgaaGreatW.PrintWords Go.Proofs.YthikfifoomfjgaaGreatW.PrintLast Go.Proofs.YthikfifoomfjgaaGreatW.PrintMore
set_option linter.unusedVariables false
set_option linter.unusedSimpArgs false
/-- Is a number of no enum's? -/
def wideB (n : Int) : Bool := decide (n < -2147483648) || decide (n > 2147483647)
theorem enum_1 (n : Int) (w : World) : Calls Tryz.prog 104 #[.int .i64 n] w fun e w' => e = .returned (.bool (wideB n)) ∧ w = w' := by
  by_cases h : n < -2147483648
  · have e1 : wideB n = true := by simp [wideB, h]
    have E1 := Lib.hid e1
    clear e1
    go_enter Tryz.func104, Tryz.ntmps104
    go_wp2
    go_ret
    exact ⟨by rw [E1.out]; rfl, rfl⟩
  · have d1 : decide (n < -2147483648) = false := by simpa using h
    have e1 : wideB n = decide (2147483647 < n) := by unfold wideB; rw [d1, Bool.false_or]
    have E1 := Lib.hid e1
    clear e1
    go_enter Tryz.func104, Tryz.ntmps104
    go_wp2
    go_ret
    exact ⟨by rw [E1.out]; rfl, rfl⟩
def idxI (p : Int → Bool) (xs : List Int) : Int := match xs.findIdx? p with
  | some i => i
  | none => -1
theorem idxI_at (p : Int → Bool) (xs : List Int) (k : Nat) (hk : k < xs.length) (h : p xs[k] = true) (hb : ∀ j (hj : j < xs.length), j < k → p xs[j] = false) : idxI p xs = k := by
  unfold idxI
  rw [List.findIdx?_eq_some_iff_getElem.2 ⟨hk, h, fun j hj => by simp [hb j (by omega) hj]⟩]
theorem idxI_none (p : Int → Bool) (xs : List Int) (hb : ∀ j (hj : j < xs.length), p xs[j] = false) : idxI p xs = -1 := by
  unfold idxI
  rw [List.findIdx?_eq_none_iff.2 fun x hx => by obtain ⟨j, hj, rfl⟩ := List.mem_iff_getElem.1 hx; exact hb j hj]
theorem idxI_any (p : Int → Bool) (xs : List Int) : decide (idxI p xs ≥ 0) = xs.any p := by
  unfold idxI
  cases h : xs.findIdx? p with
  | none =>
    have := List.findIdx?_eq_none_iff.1 h
    have e : xs.any p = false := by rw [List.any_eq_false]; intro x hx; simp [this x hx]
    rw [e]; rfl
  | some k =>
    obtain ⟨hk, h1, h2⟩ := List.findIdx?_eq_some_iff_getElem.1 h
    have e : xs.any p = true := by rw [List.any_eq_true]; exact ⟨_, List.getElem_mem hk, h1⟩
    rw [e]; simp
set_option maxHeartbeats 1000000 in
theorem indexFunc_wide (w : World) (A : Option Addr) (c : Nat) (xs : List Int) (hx : Kd.C (Kd.int .i64) w A xs.length xs) :
    Calls Tryz.prog 134 #[.slice A xs.length c, .func (.func 104) #[] #[]] w fun e w' => e = .returned (.int .i64 (idxI wideB xs)) ∧ Below w.heap.size w w' := by
  have HX := Lib.hid (fun wr (hb : Below w.heap.size w wr) => Kd.C_below hx hb)
  have hlen : xs.length ≤ 9223372036854775807 := hx.2.1
  have eg := enters_of Tryz.func104 (by kernel_rfl) rfl
  clear hx
  go_enter Tryz.func134, Tryz.ntmps134
  go_wp2
  go_loopw [8] (fun i wr => ∃ k : Nat, k ≤ xs.length ∧ i = .int .i64 k ∧ Below w.heap.size w wr ∧ Hid (∀ j (h1 : j < xs.length), j < k → wideB xs[j] = false)) (fun i _ => xs.length - (intOf i).toNat)
  case atStart => exact ⟨0, by omega, rfl, Below.refl _ _, (fun j h1 h => absurd h (by omega))⟩
  case round =>
    obtain ⟨k, hk, rfl, hb, hall⟩ := hrel
    by_cases hlt : k < xs.length
    · obtain ⟨ad, e0, m0⟩ := scalar_at (HX.out wr hb) k hlt
      subst e0
      have HC := Lib.hid (fun w' => enum_1 xs[k] w')
      cases hq : wideB xs[k] with
      | false =>
        have hnew : ∀ j (h1 : j < xs.length), j < k + 1 → wideB xs[j] = false := by
          intro j h1 hj
          rcases Nat.lt_or_ge j k with h | h
          · exact hall.out j h1 h
          · have : j = k := by omega
            subst this; exact hq
        have HN := Lib.hid hnew
        rw [hq] at HC
        clear hnew hq
        go_wp2_with (go_at_call 104; refine (HC.out _).mono ?_; rintro e w' ⟨rfl, rfl⟩)
        refine ⟨⟨k + 1, by omega, rfl, hb, HN.out⟩, ?_⟩
        simp only [intOf, Int.toNat_natCast]
        omega
      | true =>
        have HN := Lib.hid (idxI_at wideB xs k hlt hq hall.out)
        rw [hq] at HC
        clear hq
        go_wp2_with (go_at_call 104; refine (HC.out _).mono ?_; rintro e w' ⟨rfl, rfl⟩)
        exact ⟨rfl, _, results_tmp (t := 4) rfl _ _ _, by rw [HN.out]; rfl, hb⟩
    · have hkl : k = xs.length := by omega
      have HN := Lib.hid (idxI_none wideB xs fun j h1 => hall.out j h1 (by omega))
      subst hkl
      go_wp2
      exact ⟨rfl, _, results_tmp (t := 4) rfl _ _ _, by rw [HN.out]; rfl, hb⟩
set_option maxHeartbeats 1000000 in
theorem contains_wide (w : World) (A : Option Addr) (c : Nat) (xs : List Int) (hx : Kd.C (Kd.int .i64) w A xs.length xs) :
    Calls Tryz.prog 103 #[.slice A xs.length c, .func (.func 104) #[] #[]] w fun e w' => e = .returned (.bool (xs.any wideB)) ∧ Below w.heap.size w w' := by
  have HI := Lib.hid (indexFunc_wide w A c xs hx)
  have HA := Lib.hid (idxI_any wideB xs)
  clear hx
  generalize idxI wideB xs = i at *
  go_enter Tryz.func103, Tryz.ntmps103
  go_wp2_with (go_at_call 134; refine HI.out.mono ?_; rintro e w' ⟨rfl, b1⟩)
  go_ret
  exact ⟨by rw [← HA.out]; rfl, b1⟩
end Go.Proofs.YthikfifoomfjgaaGreat.PA
