/- Contract of trufflelaw09.awake: true. -/
import Derived.Test.YtogcnodgpgiacaaSet
import Derived.Test.YtogcnodgpgiacaaSize
import Derived.Test.YtogcnodgpgiacaaRefSame
namespace Go.Tr
def oneVal (x : Int) : Val := ⟨x, ⟨#[]⟩, []⟩
def awakeSlot : Slot := ⟨3, [], [oneVal 1, oneVal 2]⟩
theorem rowNil {α : Type} (L B : Nat) (w : World) (k : Nat) (R : List Value → α → Prop) : RowOf L B w k R (.slice none 0 0) ([] : List α) := ⟨none, 0, rfl, by simp, by simp, by simp, by simp, by simp⟩
end Go.Tr
namespace Go.Proofs.Ytogcnodgpgiacaa
open Go.RowKit Go.Tr
set_option linter.unusedVariables false
set_option linter.unusedSimpArgs false
theorem awake_set : setSlot (.mk []) awakeSlot = .mk [awakeSlot] := by
  unfold setSlot; rw [if_neg (by simp [awakeSlot])]; rfl
theorem awake_get : getSlot (.mk [awakeSlot]) 3 = awakeSlot ∧ hasSlot (.mk [awakeSlot]) 3 = true := by
  constructor <;> simp [getSlot, hasSlot, isNo, awakeSlot, Msg.f]
theorem awake_subs : (Msg.mk [awakeSlot]).subs = [] := rfl
theorem awake_deep : (Msg.mk [awakeSlot]).deep = 1 := by rw [Msg.deep_eq, awake_subs]; rfl
theorem awake_size : (Msg.mk [awakeSlot]).size = 2 := by rw [Msg.size_eq, awake_subs]; rfl
theorem awake_slot_at (w : World) (b : Nat) (hb : w.heap[b]? = some (.cells #[.int .i64 1, .string ⟨#[]⟩, .slice none 0 0, .int .i64 2, .string ⟨#[]⟩, .slice none 0 0] 38 (0, 0))) :
    RSlot 10 0 w (RMsg 10 0 w 0) [.int .i64 3, .slice none 0 0, .slice (some ⟨b, 0, none⟩) 2 2] awakeSlot := by
  refine ⟨_, _, rfl, by decide, by decide, rowNil _ _ _ _ _, ⟨_, 2, rfl, by decide, by decide, by decide, by simp, fun _ => ⟨b, 0, rfl, by omega, fun i hi => ?_⟩⟩⟩
  have hc : ∀ j, w.cell? ⟨b, j, none⟩ = (#[.int .i64 1, .string ⟨#[]⟩, .slice none 0 0, .int .i64 2, .string ⟨#[]⟩, .slice none 0 0] : Array Value)[j]? := fun j => cell_of_row w b j _ _ _ hb
  match i, hi with
  | 0, _ => exact ⟨[.int .i64 1, .string ⟨#[]⟩, .slice none 0 0], rfl, fun j u hu => by rw [hc]; match j, hu with
      | 0, hu => exact hu
      | 1, hu => exact hu
      | 2, hu => exact hu, ⟨_, rfl, (by show (-9223372036854775808 : Int) ≤ 1; omega), (by show (1 : Int) ≤ 9223372036854775807; omega), (by show 0 ≤ maxLen; omega), rowNil _ _ _ _ _⟩⟩
  | 1, _ => exact ⟨[.int .i64 2, .string ⟨#[]⟩, .slice none 0 0], rfl, fun j u hu => by rw [hc]; match j, hu with
      | 0, hu => exact hu
      | 1, hu => exact hu
      | 2, hu => exact hu, ⟨_, rfl, (by show (-9223372036854775808 : Int) ≤ 2; omega), (by show (2 : Int) ≤ 9223372036854775807; omega), (by show 0 ≤ maxLen; omega), rowNil _ _ _ _ _⟩⟩
section
attribute [local go_sem] run_store
set_option maxHeartbeats 4000000 in
theorem awake (w : World) : Calls Try.prog 10 #[] w fun e w' => e = .returned (.bool true) ∧ Below w.heap.size w w' := by
  go_enter Try.func10, Try.ntmps10
  go_wp2_with fail
  refine (value_set 10 0 (by omega) _ [.slice none 0 0] _ (.mk []) awakeSlot ⟨_, rfl, rowNil _ _ _ _ _⟩ (awake_slot_at _ w.heap.size (heap_alloc_new w _)) (by decide)).mono ?_
  rintro e w1 ⟨v1, rfl, r1, b1⟩
  rw [awake_set] at r1
  have R1 := Lib.hid r1
  have B1 := Lib.hid ((al1 w _).nx b1)
  obtain ⟨c, e, r1⟩ := r1
  simp only [List.cons.injEq, and_true] at e
  subst e
  obtain ⟨a1, cap1, rfl, -⟩ := r1
  clear b1
  go_wp2_with fail
  refine (value_get 10 0 (by omega) 3 (by omega) (by omega) _ [_] (.mk [awakeSlot]) (RMsg.keep (Nat.zero_le _) (.of_below (al1 _ _)) 1 1 (Nat.le_refl _) R1.out)).mono ?_
  rintro e w2 ⟨ds, rfl, r2, b2⟩
  rw [awake_get.1] at r2
  rw [awake_get.2]
  obtain ⟨c, d, rfl, -, -, r3, r4⟩ := r2
  obtain ⟨a3, cap3, rfl, -⟩ := r3
  obtain ⟨a4, cap4, rfl, -⟩ := r4
  have x1 := (b2.cell (p := ⟨w1.heap.size, 0, none⟩) (by simp)).trans (al_new w1 _ _)
  have B2 := Lib.hid ((al1 w1 (.cells #[.slice a1 (Msg.mk [awakeSlot]).f.length cap1] 24)).nx b2)
  have hz2 := B2.out.size
  have hl2 := block_lt_of_cell x1
  clear b2
  go_wp2_with fail
  have e1 : (Msg.mk [awakeSlot]).f.length = 1 := rfl
  have e2 : awakeSlot.v.length = 2 := rfl
  have e3 : awakeSlot.k.length = 0 := rfl
  have e4 : awakeSlot.no = 3 := rfl
  rw [e1] at R1 x1 ⊢
  rw [e2, e3, e4]
  clear e1 e2 e3 e4
  have y1 := al_cell (o := .cells #[.int .i64 3, .slice a3 0 cap3, .slice a4 2 cap4] 27) x1
  have y2 : (w2.alloc (.cells #[.int .i64 3, .slice a3 0 cap3, .slice a4 2 cap4] 27)).cell? ⟨w2.heap.size, 2, none⟩ = some (.slice a4 2 cap4) := by simp [go_sem]
  have BW := Lib.hid ((B1.out.nx B2.out).nx (al1 w2 (.cells #[.int .i64 3, .slice a3 0 cap3, .slice a4 2 cap4] 27)))
  have RW := Lib.hid (RMsg.keep (Nat.zero_le _) (.of_below (B2.out.nx (al1 w2 (.cells #[.int .i64 3, .slice a3 0 cap3, .slice a4 2 cap4] 27)))) 1 1 (Nat.le_refl _) R1.out)
  have hlw2 : w2.heap.size < (w2.alloc (.cells #[.int .i64 3, .slice a3 0 cap3, .slice a4 2 cap4] 27)).heap.size := by simp
  have hlw1 := block_lt_of_cell y1
  generalize w2.alloc (.cells #[.int .i64 3, .slice a3 0 cap3, .slice a4 2 cap4] 27) = W at y1 y2 BW RW hlw2 hlw1 ⊢
  clear x1 B2 R1 B1
  have HD := Lib.hid fun w' (hb : Below W.heap.size W w') => (value_deep 10 (by omega) 1 w' _ _ (RMsg.below hb 1 RW.out) (by rw [awake_deep]; omega)).mono (R' := fun e w'' => e = .returned (.int .i64 1) ∧ Below w'.heap.size w' w'') (by rintro e w'' ⟨rfl, b⟩; exact ⟨by rw [awake_deep]; rfl, b⟩)
  have HS := Lib.hid fun w' (hb : Below W.heap.size W w') => (value_size 10 (by omega) 1 w' _ _ (RMsg.below hb 1 RW.out) (by rw [awake_size]; omega)).mono (R' := fun e w'' => e = .returned (.int .i64 2) ∧ Below w'.heap.size w' w'') (by rintro e w'' ⟨rfl, b⟩; exact ⟨by rw [awake_size]; rfl, b⟩)
  have HO := Lib.hid fun w' (hb : Below W.heap.size W w') => value_own 10 0 (by omega) 1 w' _ _ (RMsg.below hb 1 RW.out)
  have HM := Lib.hid fun w' c (hb : Below W.heap.size W w') (hc : RMsg 10 0 w' 1 [c] (.mk [awakeSlot])) => (value_same 10 0 (by unfold maxLen; omega) 1 w' _ _ _ _ (RMsg.below hb 1 RW.out) hc).mono (R' := fun e w'' => e = .returned (.bool true) ∧ Below w'.heap.size w' w'') (by rintro e w'' ⟨rfl, b⟩; exact ⟨by rw [same_yes rfl], b⟩)
  go_region_with (first
    | (go_at_call 20; (with_reducible refine (HD.out _ ?_).mono ?_); (exact (Below.refl _ _).drew); rintro e w3 ⟨rfl, b3⟩;
        (have B3 := Lib.hid ((Below.refl W.heap.size W).drew.trans b3)); (have c1 := (B3.out.cell hlw1).trans y1); (have c2 := (B3.out.cell (p := ⟨w2.heap.size, 2, none⟩) hlw2).trans y2); clear b3)
    | (go_at_call 19; (with_reducible refine (HS.out _ ?_).mono ?_); (exact B3.out); rintro e w4 ⟨rfl, b4⟩;
        (have B4 := Lib.hid (B3.out.nx b4)); (have c3 := (B4.out.cell hlw1).trans y1); (have c4 := (B4.out.cell (p := ⟨w2.heap.size, 2, none⟩) hlw2).trans y2); clear b4)
    | (go_at_call 17; (with_reducible refine (HO.out _ ?_).mono ?_); (exact B4.out); rintro e w5 ⟨ds, rfl, ro, b5⟩;
        (have B5 := Lib.hid (B4.out.nx b5)); (have c5 := (B5.out.cell hlw1).trans y1); (have c6 := (B5.out.cell (p := ⟨w2.heap.size, 2, none⟩) hlw2).trans y2);
        (have RO := Lib.hid (RMsg.keep (Nat.zero_le _) (Keeps.refl _ _) 1 1 (Nat.le_refl _) ro)); (obtain ⟨z5, rfl, o5⟩ := rmsg_one 10 _ 1 _ _ _ ro); clear b5 ro)
    | (go_at_call 15; (with_reducible refine (HM.out _ _ ?_ ?_).mono ?_); (exact B5.out); (exact RO.out); rintro e w6 ⟨rfl, b6⟩; (have B6 := Lib.hid (B5.out.nx b6)); clear b6))
  all_goals (
    go_wp2
    exact ⟨rfl, _, results_tmp (t := 0) rfl _ _ _, rfl, BW.out.nx B6.out⟩)
end
end Go.Proofs.Ytogcnodgpgiacaa
