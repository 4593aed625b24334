/- Contract of the reference's Get of chapter 9. -/
import Derived.Test.YtogcnodgpgiacaaGet
namespace Go.Proofs.Ytogcnodgpgiacaa
open Go.RowKit Go.Tr
set_option linter.unusedVariables false
set_option linter.unusedSimpArgs false
section
attribute [local go_sem] run_store
set_option maxHeartbeats 2000000 in
theorem ref_get (L n : Nat) (no : Int) (w : World) (cs : List Value) (m : Msg) (hx : RMsg L 0 w (n + 1) cs m) :
    Calls Try.prog 22 #[.agg cs.toArray, .int .i64 no] w fun e w' => ∃ ds, e = .returned (.tuple #[.agg ds.toArray, .bool (hasSlot m no)]) ∧ RSlot L 0 w' (RMsg L 0 w' n) ds (getSlot m no) ∧ Below w.heap.size w w' := by
  obtain ⟨c, rfl, h4⟩ := hx
  have H4 := Lib.hid h4
  obtain ⟨a1, cap1, rfl, q0, q1, q2, -, -⟩ := h4
  unfold maxLen at q2
  go_enter Try.func22, Try.ntmps22
  go_wp2_with fail
  have b0 := (al1 w (.cells #[.slice a1 m.f.length cap1] 24)).nx (al1 _ (.cells #[.int .i64 0, .slice none 0 0, .slice none 0 0] 27))
  have HB := Lib.hid b0
  generalize hw1 : (w.alloc (.cells #[.slice a1 m.f.length cap1] 24)).alloc (.cells #[.int .i64 0, .slice none 0 0, .slice none 0 0] 27) = w1 at *
  have g0 : w1.heap[w.heap.size]? = some (.cells #[.slice a1 m.f.length cap1] 24 (0, 0)) := by
    rw [← hw1]
    have h1 := heap_alloc_new w (.cells #[.slice a1 m.f.length cap1] 24)
    exact ((al1 (w.alloc _) _).block w.heap.size (by simp)).trans h1
  have g1 : w1.heap[w.heap.size + 1]? = some (.cells #[.int .i64 0, .slice none 0 0, .slice none 0 0] 27 (0, 0)) := by
    rw [← hw1]
    have h1 := heap_alloc_new (w.alloc (.cells #[.slice a1 m.f.length cap1] 24)) (.cells #[.int .i64 0, .slice none 0 0, .slice none 0 0] 27)
    rw [show (w.alloc (.cells #[.slice a1 m.f.length cap1] 24)).heap.size = w.heap.size + 1 by simp] at h1
    exact h1
  clear hw1 b0
  have m0 : w1.cell? ⟨w.heap.size, 0, none⟩ = some (.slice a1 m.f.length cap1) := cell_of_row w1 w.heap.size 0 _ _ (0, 0) g0
  have z0 : w1.cell? ⟨w.heap.size + 1, 0, none⟩ = some (.int .i64 0) := cell_of_row w1 (w.heap.size + 1) 0 _ _ (0, 0) g1
  have z1 : w1.cell? ⟨w.heap.size + 1, 1, none⟩ = some (.slice none 0 0) := cell_of_row w1 (w.heap.size + 1) 1 _ _ (0, 0) g1
  have z2 : w1.cell? ⟨w.heap.size + 1, 2, none⟩ = some (.slice none 0 0) := cell_of_row w1 (w.heap.size + 1) 2 _ _ (0, 0) g1
  have f1 : ∀ o, w1.frozen? ⟨w.heap.size + 1, o, none⟩ = false := fun o => by simp [World.frozen?, g1]
  have ht : w1.there (w.heap.size + 1) 0 3 := fun j hj => ⟨by match j, hj with
    | 0, _ => rw [z0]; rfl
    | 1, _ => rw [z1]; rfl
    | 2, _ => rw [z2]; rfl, f1 _⟩
  have lt0 : w.heap.size < w1.heap.size := by have := HB.out.size; exact block_lt_of_cell m0
  go_loop [6] (fun v => ∃ i : Nat, i ≤ m.f.length ∧ v = .int .i64 i ∧ Hid (∀ j (hj : j < m.f.length), j < i → isNo no m.f[j] = false)) (fun v => m.f.length - (intOf v).toNat)
  case atStart => exact ⟨0, Nat.zero_le _, rfl, Lib.hid fun j hj h => absurd h (by omega)⟩
  case round =>
    obtain ⟨i, hi, rfl, HJ⟩ := hrel
    by_cases hlt : i < m.f.length
    · obtain ⟨bx, ox, c0, c1, c2, e1, -, p0', p1', p2', n0, n1, n2, rx⟩ := H4.out.get3 (rslot_three L 0 n) i hlt
      cases e1
      have p0 := (HB.out.cell (block_lt_of_cell p0')).trans p0'
      have p1 := (HB.out.cell (block_lt_of_cell p1')).trans p1'
      have p2 := (HB.out.cell (block_lt_of_cell p2')).trans p2'
      clear p0' p1' p2'
      have RX := Lib.hid rx
      have hc0 : c0 = .int .i64 m.f[i].no := by
        obtain ⟨c, d, e, -⟩ := rx
        simpa using congrArg (fun l => l.head?) e
      subst hc0
      clear rx
      by_cases hno : m.f[i].no = no
      · have d1 : ((m.f[i].no : Int) == no) = true := by simpa using hno
        have HS := Lib.hid (get_some hlt (show isNo no m.f[i] = true by simp [isNo, hno]) HJ.out)
        clear hno
        go_wp2_with fail
        refine bodyPost_ret (v := .tuple #[.agg #[.int .i64 m.f[i].no, c1, c2], .bool true]) (results_cell_slot rfl _ _ (w.heap.size + 1) 0 [_, _, _] _ _ rfl rfl (rangeAt_set3 _ _ 0 _ _ _ ht) Try.underlying27 rfl (by kernel_rfl)) rfl ⟨[_, _, _], by rw [HS.out.2], by rw [HS.out.1]; exact RSlot.below RX.out (((HB.out.setCell (p := ⟨w.heap.size + 1, 0, none⟩) (by simp) _).setCell (p := ⟨w.heap.size + 1, 1, none⟩) (by simp) _).setCell (p := ⟨w.heap.size + 1, 2, none⟩) (by simp) _), ?_⟩
        exact ((HB.out.setCell (p := ⟨w.heap.size + 1, 0, none⟩) (by simp) _).setCell (p := ⟨w.heap.size + 1, 1, none⟩) (by simp) _).setCell (p := ⟨w.heap.size + 1, 2, none⟩) (by simp) _
      · have d1 : ((m.f[i].no : Int) == no) = false := by simpa using hno
        have HJ2 := Lib.hid (show ∀ j (hj : j < m.f.length), j < i + 1 → isNo no m.f[j] = false from fun j hj h => by
          by_cases hji : j < i
          · exact HJ.out j hj hji
          · obtain rfl : j = i := by omega
            simp [isNo, hno])
        clear hno
        go_wp2_with fail
        go_round
        case rel => exact ⟨i + 1, by omega, by go_num, HJ2⟩
        case measure => simp [intOf]; omega
    · obtain rfl : i = m.f.length := by omega
      have HS := Lib.hid (get_none fun j hj => HJ.out j hj hj)
      go_wp2_with fail
      refine bodyPost_ret (v := .tuple #[.agg #[.int .i64 0, .slice none 0 0, .slice none 0 0], .bool false]) (results_cell_slot rfl _ _ (w.heap.size + 1) 0 [_, _, _] _ _ rfl rfl (rangeAt_set3 _ _ 0 _ _ _ ht) Try.underlying27 rfl (by kernel_rfl)) rfl ⟨[_, _, _], by rw [HS.out.2], by rw [HS.out.1]; exact rslot_zero _ _ _ _, ?_⟩
      exact ((HB.out.setCell (p := ⟨w.heap.size + 1, 0, none⟩) (by simp) _).setCell (p := ⟨w.heap.size + 1, 1, none⟩) (by simp) _).setCell (p := ⟨w.heap.size + 1, 2, none⟩) (by simp) _
end
end Go.Proofs.Ytogcnodgpgiacaa
