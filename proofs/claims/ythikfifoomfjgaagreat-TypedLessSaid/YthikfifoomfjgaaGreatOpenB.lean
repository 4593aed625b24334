/- An argument of bytes as it reads, with its length's bound; truffleref08.By, in plain Lean. -/
import Derived.Test.YthikfifoomfjgaaGreatOpenS
import Derived.Test.YthikfifoomfjgaaGreatGBy
import Derived.Test.YthikfifoomfjgaaGreatPAx5
import Derived.IntWalk
namespace Go.Proofs.YthikfifoomfjgaaGreat.PA
open Go.RowKit Go.Tr Go.Proofs.YthikfifoomfjgaaGreatW.PrintWords Go.Proofs.YthikfifoomfjgaaGreatW.PrintLast Go.Proofs.YthikfifoomfjgaaGreatW.PrintMore
set_option linter.unusedVariables false
set_option linter.unusedSimpArgs false
theorem by_loop (M : List S58) (E : List S79) (m no : Int) (hm : 0 ≤ m ∧ m < M.length) (hF : (rd_T58 M m).f1.length ≤ 9223372036854775807) : ∀ (j k i : Nat), i ≤ (rd_T58 M m).f1.length → (rd_T58 M m).f1.length - i < j → j ≤ k →
    truffleref08_By.l0 k m no i M E = some (fieldIs (((rd_T58 M m).f1.drop i).find? (isNo no))) := by
  intro j
  induction j with
  | zero => intro k i hi h; omega
  | succ j ih =>
    intro k i hi h hk
    obtain ⟨k, rfl⟩ : ∃ n, k = n + 1 := ⟨k - 1, by omega⟩
    rw [truffleref08_By.l0, if_pos hm.1, if_pos hm.2]
    by_cases c0 : (i : Int) < ((rd_T58 M m).f1.length : Int)
    · have hin : i < (rd_T58 M m).f1.length := by omega
      have e1 : rd_T47 (rd_T58 M m).f1 (i : Int) = (rd_T58 M m).f1[i] := by
        show List.getD _ _ _ = _
        rw [Int.toNat_natCast, List.getD_eq_getElem?_getD, List.getElem?_eq_getElem hin, Option.getD_some]
      rw [if_pos c0, if_pos (by omega), e1, List.drop_eq_getElem_cons hin, List.find?_cons, show wrap64 ((i : Int) + 1) = ((i + 1 : Nat) : Int) by rw [IntWalk.wrap64_in _ (by omega)]; omega]
      by_cases c1 : (rd_T58 M m).f1[i].f0 = no
      · rw [if_pos c1, show isNo no (rd_T58 M m).f1[i] = true from decide_eq_true c1]
        rfl
      · rw [if_neg c1, show isNo no (rd_T58 M m).f1[i] = false from decide_eq_false c1]
        exact ih k (i + 1) (by omega) (by omega) (by omega)
    · rw [if_neg c0, List.drop_eq_nil_of_le (by omega)]
      rfl
theorem by_is (M : List S58) (E : List S79) (m no : Int) (hF : (rd_T58 M m).f1.length ≤ 9223372036854775807) : truffleref08_By.f ((rd_T58 M m).f1.length + 5) M E m no = some (fieldIs (fieldAt M m (isNo no))) := by
  have J : ∀ b : Bool, (b = true ↔ ¬ (0 ≤ m ∧ m < M.length)) → truffleref08_By.j0 ((rd_T58 M m).f1.length + 5) m no b M E = some (fieldIs (fieldAt M m (isNo no))) := by
    intro b hb
    rw [truffleref08_By.j0]
    by_cases h : b = true
    · rw [if_pos h, field_out (hb.1 h)]
      rfl
    · rw [if_neg h]
      have hm : 0 ≤ m ∧ m < M.length := Decidable.not_not.1 fun hh => h (hb.2 hh)
      have := by_loop M E m no hm hF ((rd_T58 M m).f1.length + 1) ((rd_T58 M m).f1.length + 4) 0 (by omega) (by omega) (by omega)
      unfold fieldAt
      rw [if_pos hm]
      simpa using this
  unfold truffleref08_By.f
  split
  · exact J true ⟨fun _ h => by omega, fun _ => rfl⟩
  · exact J _ ⟨fun h hh => by have := of_decide_eq_true h; omega, fun h => decide_eq_true (by omega)⟩
def OkBytes2 (W : World) (A : Option Addr) (c : Nat) (l : List Int) : Prop := OkBytes W A c l ∧ l.length ≤ 140737488351232
section
variable {H : Type} {enc : TypeId × Value → H} {W : World} {spare : Nat → Bool} {held : Bool}
theorem open_bytes2 {fuel : Nat} {cs : List Value} {x : DataW H × List MemPlace} (h : DataW.trod enc Tryz.prog W 0 spare held fuel 107 cs = some x) (hw : ∀ z ∈ x.1.weights Tryz.prog 107, z ≤ reachBytes) :
    ∃ A c l, cs = [.slice A l.length c] ∧ OkBytes2 W A c l := by
  obtain ⟨v, l, e, r⟩ := open_row (k := 1) (bytes := 1) (L := 140737488351232) Tryz.underlying107 (by kernel_rfl) (by omega) (by kernel_rfl) (by decide) (by omega) h hw (fun cs n => cs = [.int .u8 n] ∧ 0 ≤ n ∧ n ≤ 255) fun n' cs' y hn h3 h4 => (by
    obtain ⟨s, e, -, hs⟩ := DataW.trod_int Tryz.underlying5 h3
    exact ⟨s, e, byte_wf hs⟩)
  cases e
  have r' : RowOf Great 0 W 1 (fun cs n => cs = [.int .u8 n] ∧ 0 ≤ n ∧ n ≤ 255) v l := by
    obtain ⟨a, cap, hv, h1, h2⟩ := r
    exact ⟨a, cap, hv, Nat.le_trans h1 (by decide), h2⟩
  obtain ⟨A, c, rfl, l1, g1, b1⟩ := reads_K (d := Kd.int .u8) rfl r' fun _ _ hh => hh.1
  have hlen : l.length ≤ 140737488351232 := by
    obtain ⟨a, cap, hv, h1, h2⟩ := r
    exact h1
  exact ⟨A, c, l, rfl, ⟨l1, g1, row_all r' fun _ _ hh => hh.2⟩, hlen⟩
end
end Go.Proofs.YthikfifoomfjgaaGreat.PA
