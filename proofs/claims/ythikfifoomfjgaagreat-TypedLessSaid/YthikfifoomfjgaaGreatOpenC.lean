/- A row as it was read is one that the contracts ask for: over the trees' own reading (seats with trees). -/
import Derived.Test.YthikfifoomfjgaaGreatPAx0
import Derived.Test.YthikfifoomfjgaaGreatOpen
namespace Go.Proofs.YthikfifoomfjgaaGreat.PA
open Go.RowKit Go.Tr Go.Proofs.YthikfifoomfjgaaGreatW.PrintWords Go.Proofs.YthikfifoomfjgaaGreatW.PrintLast Go.Proofs.YthikfifoomfjgaaGreatW.PrintMore
/-- A row as it was read is one that the contracts ask for. -/
theorem reads_of_row {α : Type} {L B k : Nat} {w : World} {R : List Value → α → Prop} {Rr : α → List Value → Prop} {v : Value} {xs : List α} (h : RowOf L B w k R v xs) (hR : ∀ cs x, R cs x → Rr x cs) :
    ∃ A c, v = .slice A xs.length c ∧ xs.length ≤ c ∧ ReadsRow Rr k w A xs.length xs ∧ xs.length ≤ L := by
  obtain ⟨a, cap, rfl, hL, hc, hm, _, hx⟩ := h
  refine ⟨a, cap, rfl, hc, ⟨rfl, by simp only [maxLen] at hm; omega, fun h0 => ?_⟩, hL⟩
  obtain ⟨b, off, rfl, _, he⟩ := hx (by intro e; rw [e] at h0; exact absurd h0 (by simp))
  refine ⟨_, rfl, fun j p hp => ?_⟩
  obtain ⟨hj, hpe⟩ := List.getElem?_eq_some_iff.1 hp
  obtain ⟨cs, hl, hcell, hr⟩ := he j hj
  rw [hpe] at hr
  refine ⟨cs, hl, hR _ _ hr, fun i u hu => ?_⟩
  have := hcell i u hu
  rw [add_none, ← Nat.add_assoc]
  exact this
end Go.Proofs.YthikfifoomfjgaaGreat.PA
