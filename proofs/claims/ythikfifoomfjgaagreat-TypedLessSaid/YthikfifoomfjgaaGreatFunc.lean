/- Contracts of slices.IndexFunc, slices.DeleteFunc and slices.Insert at elements of three cells, at whatever function value. -/
import Derived.Test.YthikfifoomfjgaaGreatVals
namespace Go.Tr
/-- An element of three cells. -/
abbrev Cell3 := Value × Value × Value
def cells3 (t : Cell3) : List Value := [t.1, t.2.1, t.2.2]
def R3 (cs : List Value) (t : Cell3) : Prop := cs = cells3 t ∧ t.1.oneCell' = true ∧ t.2.1.oneCell' = true ∧ t.2.2.oneCell' = true
theorem r3_stands : Stands fun _ => R3 := fun _ _ _ _ _ h => h
theorem r3_three : Three fun _ => R3 := fun _ _ _ ⟨h, h1, h2, h3⟩ => ⟨_, _, _, h, h1, h2, h3⟩
def idxOf {α : Type} (p : α → Bool) (xs : List α) : Int := match xs.findIdx? p with
  | some i => i
  | none => -1
theorem idxOf_at {α : Type} (p : α → Bool) (xs : List α) (k : Nat) (hk : k < xs.length) (h : p xs[k] = true) (hb : ∀ j (hj : j < xs.length), j < k → p xs[j] = false) : idxOf p xs = k := by
  unfold idxOf
  rw [List.findIdx?_eq_some_iff_getElem.2 ⟨hk, h, fun j hj => by simp [hb j (by omega) hj]⟩]
theorem idxOf_none {α : Type} (p : α → Bool) (xs : List α) (hb : ∀ j (hj : j < xs.length), p xs[j] = false) : idxOf p xs = -1 := by
  unfold idxOf
  rw [List.findIdx?_eq_none_iff.2 fun x hx => by obtain ⟨j, hj, rfl⟩ := List.mem_iff_getElem.1 hx; exact hb j hj]
/-- Either none, or the first one. -/
theorem idxOf_cases {α : Type} (p : α → Bool) (xs : List α) :
    (idxOf p xs = -1 ∧ ∀ j (hj : j < xs.length), p xs[j] = false) ∨ ∃ k, ∃ hk : k < xs.length, idxOf p xs = (k : Int) ∧ p xs[k] = true ∧ ∀ j (hj : j < xs.length), j < k → p xs[j] = false := by
  unfold idxOf
  cases h : xs.findIdx? p with
  | none =>
    refine .inl ⟨rfl, fun j hj => ?_⟩
    exact List.findIdx?_eq_none_iff.1 h _ (List.getElem_mem hj)
  | some k =>
    obtain ⟨hk, h1, h2⟩ := List.findIdx?_eq_some_iff_getElem.1 h
    exact .inr ⟨k, hk, rfl, h1, fun j hj hjk => by simpa using h2 j hjk⟩
end Go.Tr
namespace Go.Proofs.YthikfifoomfjgaaGreat
open Go.RowKit Go.Tr
set_option linter.unusedVariables false
set_option linter.unusedSimpArgs false
set_option maxHeartbeats 1000000 in
theorem indexFunc_slot {α : Type} (L B : Nat) (hL : L ≤ maxLen) (R : World → List Value → α → Prop) (hR : Stands R) (h3 : Three R) (p : α → Bool) (g : Nat) (caps : Array Value) (eg : ∀ args w, (callFunc g args).run Tryz.prog w = .ok (.enter g args) w)
    (Ok : World → Prop) (hOk : ∀ w w', Ok w → Below w.heap.size w w' → Ok w')
    (hg : ∀ w cs x, Ok w → R w cs x → Calls Tryz.prog g (#[.agg cs.toArray] ++ caps) w fun e w' => e = .returned (.bool (p x)) ∧ Below w.heap.size w w')
    (w : World) (v : Value) (xs : List α) (hx : RowOf L B w 3 (R w) v xs) (hok : Ok w) :
    Calls Tryz.prog 45 #[v, .func (.func g) #[] caps] w fun e w' => e = .returned (.int .i64 (idxOf p xs)) ∧ Below w.heap.size w w' := by
  have HX := Lib.hid (fun wr (hb : Below w.heap.size w wr) => hx.imp hb fun cs x _ h => hR w wr cs x hb h)
  have HG := Lib.hid hg
  have HO := Lib.hid fun wr (hb : Below w.heap.size w wr) => hOk w wr hok hb
  clear hg
  obtain ⟨a1, cap1, rfl, q0, q1, q2, -, -⟩ := hx
  unfold maxLen at hL q2
  go_enter Tryz.func45, Tryz.ntmps45
  go_wp2
  go_loopw [8] (fun i wr => ∃ k : Nat, k ≤ xs.length ∧ i = .int .i64 k ∧ Below w.heap.size w wr ∧ Hid (∀ j (h1 : j < xs.length), j < k → p xs[j] = false)) (fun i _ => xs.length - (intOf i).toNat)
  case atStart => exact ⟨0, by omega, rfl, Below.refl _ _, (fun j h1 h => absurd h (by omega))⟩
  case round =>
    obtain ⟨k, hk, rfl, hb, hall⟩ := hrel
    by_cases hlt : k < xs.length
    · obtain ⟨b1, o1, c0, c1, c2, e1, -, m0, m1, m2, n0, n1, n2, rx⟩ := (HX.out wr hb).get3 h3 k hlt
      subst e1
      have HC := Lib.hid (fun w' (hb' : Below wr.heap.size wr w') => HG.out w' _ _ (hOk _ _ (HO.out wr hb) hb') (hR _ _ _ _ hb' rx))
      clear rx
      have bl := block_lt_of_cell m0
      cases hq : p xs[k] with
      | false =>
        have hnew : ∀ j (h1 : j < xs.length), j < k + 1 → p xs[j] = false := by
          intro j h1 hj
          rcases Nat.lt_or_ge j k with h | h
          · exact hall.out j h1 h
          · have : j = k := by omega
            subst this; exact hq
        have HN := Lib.hid hnew
        rw [hq] at HC
        clear hnew hq
        go_wp2
        refine (HC.out _ (Below.refl _ _)).mono ?_; rintro e w' ⟨rfl, b'⟩
        go_wp2
        refine ⟨⟨k + 1, by omega, rfl, hb.nx b', HN.out⟩, ?_⟩
        simp only [intOf, Int.toNat_natCast]
        omega
      | true =>
        have HN := Lib.hid (idxOf_at p xs k hlt hq hall.out)
        rw [hq] at HC
        clear hq
        go_wp2
        refine (HC.out _ (Below.refl _ _)).mono ?_; rintro e w' ⟨rfl, b'⟩
        go_wp2
        exact ⟨rfl, _, results_tmp (t := 4) rfl _ _ _, by rw [HN.out]; rfl, hb.nx b'⟩
    · have hkl : k = xs.length := by omega
      have HN := Lib.hid (idxOf_none p xs fun j h1 => hall.out j h1 (by omega))
      subst hkl
      go_wp2
      exact ⟨rfl, _, results_tmp (t := 4) rfl _ _ _, by rw [HN.out]; rfl, hb⟩
end Go.Proofs.YthikfifoomfjgaaGreat
