/- What the laws of chapter 10 share: light messages, the law's few, the document's By. -/
import Derived.Test.YthikfifoomfjgaaGreatAwakeP10
import Derived.Test.YthikfifoomfjgaaGreatCountP
import Derived.Test.YthikfifoomfjgaaGreatOpenB
namespace Go.Tr
set_option linter.unusedVariables false
set_option linter.unusedSimpArgs false
theorem RSlot.shrink {L L' B n : Nat} {w : World} {cs : List Value} {s : Slot} (h : RSlot L B w (RMsg L B w n) cs s) (hw : (Msg.mk [s]).weight ≤ L') : RSlot L' B w (RMsg L' B w n) cs s := by
  have hs : s ∈ (Msg.mk [s]).f := by simp [Msg.f]
  refine h.gen ?_ (Nat.le_refl _) (Keeps.refl _ _) fun cs x hx h => RMsg.shrink n h ?_
  · obtain ⟨h1, h2, h3⟩ := weight_rows (Msg.mk [s]) hs
    exact ⟨by omega, by omega, fun x hx => by have := h3 x hx; omega⟩
  · obtain ⟨y, hy, hx⟩ := hx
    have := weight_sub (m := Msg.mk [s]) (x := x) (List.mem_flatMap.2 ⟨y, List.mem_flatMap.2 ⟨s, hs, List.mem_append.2 hy⟩, hx⟩)
    omega
theorem msg_one {L B n b : Nat} {w : World} {c0 c1 c2 : Value} {s : Slot} {t : TypeId} (hL : 1 ≤ L) (hb : B ≤ b) (h : w.heap[b]? = some (.cells #[c0, c1, c2] t (0, 0))) (hs : RSlot L B w (RMsg L B w n) [c0, c1, c2] s) :
    RMsg L B w (n + 1) [.slice (some ⟨b, 0, none⟩) 1 1] (.mk [s]) := by
  refine ⟨_, rfl, some ⟨b, 0, none⟩, 1, rfl, by simpa [Msg.f] using hL, by simp [Msg.f], by unfold maxLen; omega, by simp, fun _ => ⟨b, 0, rfl, hb, fun i hi => ?_⟩⟩
  have hi0 : i = 0 := by simp [Msg.f] at hi; omega
  subst hi0
  refine ⟨[c0, c1, c2], rfl, fun j u hu => ?_, hs⟩
  rw [cell_of_row w b (0 + 0 * 3 + j) _ _ _ h]
  simpa using hu
theorem msgs_row {L B n b : Nat} {w : World} {cs : List Value} {ms : List Msg} {t : TypeId} (hL : ms.length ≤ L) (hm : ms.length ≤ maxLen) (hb : B ≤ b) (h : w.heap[b]? = some (.cells cs.toArray t (0, 0))) (hl : cs.length = ms.length)
    (hs : ∀ i (h1 : i < cs.length) (h2 : i < ms.length), RMsg L B w n [cs[i]] ms[i]) : RowOf L B w 1 (RMsg L B w n) (.slice (some ⟨b, 0, none⟩) ms.length ms.length) ms := by
  refine ⟨_, _, rfl, hL, Nat.le_refl _, hm, by simp, fun _ => ⟨b, 0, rfl, hb, fun i hi => ?_⟩⟩
  refine ⟨[cs[i]'(by omega)], rfl, fun j u hu => ?_, hs i (by omega) hi⟩
  have hj : j = 0 := by have := (List.getElem?_eq_some_iff.1 hu).1; simp at this; omega
  subst hj
  rw [cell_of_row w b (0 + i * 1 + 0) _ _ _ h]
  simp at hu ⊢
  rw [← hu]
  simp [List.getElem?_eq_getElem (show i < cs.length by omega)]
/-- A value among those of a message that is light. -/
theorem RVal.shrinkIn {L L' B n : Nat} {w : World} {cs : List Value} {m : Msg} {x : Val} (h : RVal L B w (RMsg L B w n) cs x) (hx : x ∈ m.vals) (hw : m.weight ≤ L') : RVal L' B w (RMsg L' B w n) cs x := by
  obtain ⟨s, hs, hv⟩ := List.mem_flatMap.1 hx
  refine h.gen ?_ (Nat.le_refl _) (Keeps.refl _ _) fun cs y hy h => RMsg.shrink n h ?_
  · obtain ⟨h1, h2, h3⟩ := weight_rows m hs
    have := h3 x (List.mem_append.1 hv)
    omega
  · have := weight_sub (m := m) (x := y) (List.mem_flatMap.2 ⟨x, hx, hy⟩)
    omega
/-- One value's cells in a block, as a row. -/
theorem val_row {L n b : Nat} {w : World} {c0 c1 c2 : Value} {x : Val} {t : TypeId} (hL : 1 ≤ L) (h : w.heap[b]? = some (.cells #[c0, c1, c2] t (0, 0))) (hs : RVal L 0 w (RMsg L 0 w n) [c0, c1, c2] x) :
    RowOf L 0 w 3 (RVal L 0 w (RMsg L 0 w n)) (.slice (some ⟨b, 0, none⟩) 1 1) [x] := by
  refine ⟨some ⟨b, 0, none⟩, 1, rfl, hL, Nat.le_refl _, (by decide : (1 : Nat) ≤ maxLen), by simp, fun _ => ⟨b, 0, rfl, Nat.zero_le _, fun i hi => ?_⟩⟩
  have hi1 : i < 1 := hi
  have hi0 : i = 0 := by omega
  subst hi0
  refine ⟨[c0, c1, c2], rfl, fun j u hu => ?_, hs⟩
  rw [cell_of_row w b (0 + 0 * 3 + j) _ _ _ h]
  simpa using hu
end Go.Tr
namespace Go.Proofs.YthikfifoomfjgaaGreat
open Go.RowKit Go.Tr Go.WideMaps Go.Maps Go.Proofs.YthikfifoomfjgaaGreat.PA Go.Proofs.YthikfifoomfjgaaGreatW.PrintWords Go.Proofs.YthikfifoomfjgaaGreatW.PrintLast Go.Proofs.YthikfifoomfjgaaGreatW.PrintMore
set_option maxRecDepth 100000
set_option linter.unusedVariables false
set_option linter.unusedSimpArgs false
def Light10 (m : Msg) : Prop := m.weight ≤ 3000 ∧ (m.deep : Int) ≤ 80
set_option maxHeartbeats 2000000 in
theorem few10 (S : Sch) (L n : Nat) (hL : L ≤ 8796093022208) (w : World) (hS : S.At w) (cs : List Value) (x : Msg) (hx : RMsg L 0 w n cs x) :
    Calls Tryz.prog 10 #[.agg S.cells, .agg cs.toArray] w fun e w' => (∃ b : Bool, e = .returned (.bool b) ∧ (b = true → FewP S.M S.E ∧ Light10 x)) ∧ Below w.heap.size w w' := by
  obtain ⟨c, rfl, o1⟩ := rmsg_one L 0 n w cs x hx
  obtain ⟨r, hr, hp⟩ := few_tells S.M S.E
  have HS := Lib.hid fun w' (hb : Below w.heap.size w w') => truffleref08_Few.calls 200 S.A0 S.c0 S.M S.A1 S.c1 S.E r w' (hS.below hb).1 hS.2.1 (hS.below hb).2.2.1 hS.2.2.2 hr
  have HX := Lib.hid fun w' (hb : Below w.heap.size w w') => ref_few L n hL w' [c] x 80 (by omega) (by omega) (RMsg.below hb n hx)
  have HP := Lib.hid hp
  have HB := Lib.hid (al2 w (.cells #[.slice S.A0 S.M.length S.c0, .slice S.A1 S.E.length S.c1] 25) (.cells #[c] 28))
  clear hr hp hS hx
  unfold Sch.cells at *
  go_enter Tryz.func10, Tryz.ntmps10
  go_wp2_with fail
  refine (HS.out _ HB.out).mono ?_; rintro e w1 ⟨rfl, b1⟩
  have BN := b1
  have k1 : w1.cell? ⟨w.heap.size + 1, 0, none⟩ = some c := (BN.cell (p := ⟨w.heap.size + 1, 0, none⟩) (by simp)).trans (by simp [go_sem])
  have l1 := block_lt_of_cell k1
  have HB1 := Lib.hid (HB.out.nx BN)
  clear b1 BN
  cases r with
  | false =>
    go_wp2_with fail
    exact ⟨rfl, _, results_tmp (t := 4) rfl _ _ _, ⟨false, rfl, fun h => by cases h⟩, HB1.out⟩
  | true =>
    go_wp2_with (go_at_call 28; (with_reducible refine (HX.out _ HB1.out).mono ?_); rintro e w2 ⟨⟨b, rfl, hb⟩, b2⟩)
    exact ⟨rfl, _, results_tmp (t := 4) rfl _ _ _, ⟨b, rfl, fun h => ⟨(by first | exact HP.out rfl | exact HP.out trivial), hb h⟩⟩, HB1.out.nx b2⟩
theorem fields_max10 {S : Sch} {w : World} (q : S.At w) (m : Int) : (rd_T58 S.M m).f1.length ≤ 9223372036854775807 := by
  by_cases h : m.toNat < S.M.length
  · obtain ⟨ad, A1, c1, -, -, -, -, hC⟩ := at_T58 q.1 (m.toNat : Int) (by omega) (by omega)
    have e : rd_T58 S.M (m.toNat : Int) = rd_T58 S.M m := by
      unfold rd_T58
      rw [Int.toNat_natCast]
    rw [e] at hC
    exact Kd.C_max hC
  · have e : rd_T58 S.M m = z58 := by
      unfold rd_T58
      rw [List.getD_eq_getElem?_getD, List.getElem?_eq_none (by omega)]
      rfl
    rw [e]
    exact Nat.zero_le _
theorem Sch.by_ref (S : Sch) (w : World) (h : S.At w) (m no : Int) :
    Calls Tryz.prog 22 #[.agg S.cells, .int .i64 m, .int .i64 no] w fun e w' => (∃ r, r = fieldIs (S.fl m no) ∧ e = .returned (.tuple #[.agg #[.int .i64 r.1, .string r.2.1, .int .i64 r.2.2.1, .int .i64 r.2.2.2.1, .bool r.2.2.2.2.1, .int .i64 r.2.2.2.2.2.1, .int .i64 r.2.2.2.2.2.2.1], .bool r.2.2.2.2.2.2.2])) ∧ Below w.heap.size w w' := by
  obtain ⟨h1, h2, h3, h4⟩ := h
  refine (truffleref08_By.calls ((rd_T58 S.M m).f1.length + 5) S.A0 S.c0 S.M S.A1 S.c1 S.E m no _ _ _ _ _ _ _ _ w h1 h2 h3 h4 (show truffleref08_By.f ((rd_T58 S.M m).f1.length + 5) S.M S.E m no = some (fieldIs (S.fl m no)) from by_is S.M S.E m no (fields_max10 ⟨h1, h2, h3, h4⟩ m))).mono ?_
  rintro e w' ⟨rfl, b⟩
  exact ⟨⟨_, rfl, rfl⟩, b⟩
theorem Sch.of_ok {w : World} {A0 A1 : Option Addr} {c0 c1 : Nat} {M : List S58} {E : List S79} (h : OkSchema w A0 c0 M A1 c1 E) : Sch.At ⟨M, E, A0, A1, c0, c1⟩ w ∧ Sch.Ok ⟨M, E, A0, A1, c0, c1⟩ ∧ (FewP M E → okSchema M E = true) :=
  ⟨⟨h.2.1, h.1, h.2.2.2.1, h.2.2.1⟩, fun m hm f hf => (h.2.2.2.2.1 m hm).2 f hf, fun hf => few_ok hf h.2.2.2.2.1 h.2.2.2.2.2⟩
end Go.Proofs.YthikfifoomfjgaaGreat
