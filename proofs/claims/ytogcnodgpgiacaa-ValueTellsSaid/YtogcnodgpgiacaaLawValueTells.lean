/- The statement ValueTells: for all trees, slots, values and numbers that are not too great, the program's answers are those of the document; no condition. -/
import Derived.Test.YtogcnodgpgiacaaRows
import Derived.WalkKit
import Derived.ProofKit
import Derived.OpenShut
import Derived.ShutString
import Derived.ChangeOld
import Derived.Below
import Derived.SizedLaws
import Derived.ChangeSlices
import Derived.Test.YtogcnodgpgiacaaFew9
import Derived.Test.YtogcnodgpgiacaaRise9
import Derived.Test.YtogcnodgpgiacaaRefSet9
import Derived.Test.YtogcnodgpgiacaaRefSame2
import Derived.Test.YtogcnodgpgiacaaRefGet9
import Derived.Test.YtogcnodgpgiacaaRefLess9
import Derived.Test.YtogcnodgpgiacaaAwake9
namespace Go.Proofs.Ytogcnodgpgiacaa.valueTells
open Go.ChangeShapes Go.WideShapes Go.ChangeAt Go.RowKit Go.Tr Go.Proofs.Ytogcnodgpgiacaa
open Go.ChangeMaps (open_string shut_string)
set_option linter.unusedVariables false
set_option linter.unusedSimpArgs false

theorem own : ownKnob Try.prog.godebug = none := by kernel_rfl
theorem laidOut : laidOutB Try.prog = true := by kernel_rfl
theorem five (w : World) (o0 o1 o2 o3 o4 : Obj) : (((((w.alloc o0).alloc o1).alloc o2).alloc o3).alloc o4).heap[w.heap.size]? = some o0 ∧ (((((w.alloc o0).alloc o1).alloc o2).alloc o3).alloc o4).heap[w.heap.size + 1]? = some o1 ∧
    (((((w.alloc o0).alloc o1).alloc o2).alloc o3).alloc o4).heap[w.heap.size + 2]? = some o2 ∧ (((((w.alloc o0).alloc o1).alloc o2).alloc o3).alloc o4).heap[w.heap.size + 3]? = some o3 ∧ (((((w.alloc o0).alloc o1).alloc o2).alloc o3).alloc o4).heap[w.heap.size + 4]? = some o4 := by
  obtain ⟨h0, h1, h2, h3⟩ := four w o0 o1 o2 o3
  have k := al1 ((((w.alloc o0).alloc o1).alloc o2).alloc o3) o4
  have h4 := heap_alloc_new ((((w.alloc o0).alloc o1).alloc o2).alloc o3) o4
  rw [show ((((w.alloc o0).alloc o1).alloc o2).alloc o3).heap.size = w.heap.size + 4 by simp] at h4
  exact ⟨(k.block _ (lt_blk h0)).trans h0, (k.block _ (lt_blk h1)).trans h1, (k.block _ (lt_blk h2)).trans h2, (k.block _ (lt_blk h3)).trans h3, h4⟩
theorem box1_of {k : Nat} {w : World} {v : Value} {t : TypeId} (h : w.heap[k]? = some (.cells #[v] t (0, 0))) : Box1 k w v := ⟨lt_blk h, cell_of_row w k 0 _ _ (0, 0) h⟩
theorem box3_of {k : Nat} {w : World} {v0 v1 v2 : Value} {t : TypeId} (h : w.heap[k]? = some (.cells #[v0, v1, v2] t (0, 0))) : Box3 k w v0 v1 v2 := ⟨lt_blk h, cell_of_row w k 0 _ _ (0, 0) h, cell_of_row w k 1 _ _ (0, 0) h, cell_of_row w k 2 _ _ (0, 0) h⟩
theorem row_two {α : Type} {L b : Nat} {w : World} {R : List Value → α → Prop} {a0 a1 a2 b0 b1 b2 : Value} {x y : α} {t : TypeId} (hL : 2 ≤ L) (h : w.heap[b]? = some (.cells #[a0, a1, a2, b0, b1, b2] t (0, 0))) (ra : R [a0, a1, a2] x) (rb : R [b0, b1, b2] y) : RowOf L 0 w 3 R (.slice (some ⟨b, 0, none⟩) 2 2) [x, y] := by
  refine ⟨_, 2, rfl, hL, Nat.le_refl _, by unfold maxLen; omega, by simp, fun _ => ⟨b, 0, rfl, Nat.zero_le _, fun i hi => ?_⟩⟩
  have hi2 : i < 2 := hi
  match i, hi2 with
  | 0, _ => exact ⟨[a0, a1, a2], rfl, fun j v hv => by
      have hj : j < 3 := by have := (List.getElem?_eq_some_iff.1 hv).1; simpa using this
      rw [cell_of_row _ b (0 + 0 * 3 + j) _ _ _ h]
      match j, hj with
      | 0, _ => simpa using hv
      | 1, _ => simpa using hv
      | 2, _ => simpa using hv, ra⟩
  | 1, _ => exact ⟨[b0, b1, b2], rfl, fun j v hv => by
      have hj : j < 3 := by have := (List.getElem?_eq_some_iff.1 hv).1; simpa using this
      rw [cell_of_row _ b (0 + 1 * 3 + j) _ _ _ h]
      match j, hj with
      | 0, _ => simpa using hv
      | 1, _ => simpa using hv
      | 2, _ => simpa using hv, rb⟩
theorem few_args3 {L n : Nat} {w w1 : World} {v0 v1 c0 c1 c2 d0 d1 d2 e0 e1 e2 : Value} {m m' : Msg} {s : Slot} {x y : Val} {t1 t2 t3 : TypeId} (hb : Below w.heap.size w w1) (h0 : RMsg L 0 w (n + 1) [v0] m) (h1 : RMsg L 0 w (n + 1) [v1] m') (hs : RSlot L 0 w (RMsg L 0 w n) [c0, c1, c2] s) (hx : RVal L 0 w (RMsg L 0 w n) [d0, d1, d2] x) (hy : RVal L 0 w (RMsg L 0 w n) [e0, e1, e2] y) (hL : 3 ≤ L) :
    RowOf L 0 (((w1.alloc (.cells #[d0, d1, d2, e0, e1, e2] t1)).alloc (.cells #[c0, c1, c2, .int .i64 0, .slice none 0 0, .slice (some ⟨w1.heap.size, 0, none⟩) 2 2] t2)).alloc (.cells #[v0, v1, .slice (some ⟨w1.heap.size + 1, 0, none⟩) 2 2] t3)) 1
      (RMsg L 0 (((w1.alloc (.cells #[d0, d1, d2, e0, e1, e2] t1)).alloc (.cells #[c0, c1, c2, .int .i64 0, .slice none 0 0, .slice (some ⟨w1.heap.size, 0, none⟩) 2 2] t2)).alloc (.cells #[v0, v1, .slice (some ⟨w1.heap.size + 1, 0, none⟩) 2 2] t3)) (n + 1))
      (.slice (some ⟨w1.heap.size + 2, 0, none⟩) 3 3) [m, m', .mk [s, ⟨0, [], [x, y]⟩]] := by
  obtain ⟨o0, ho0⟩ : ∃ o, o = (Obj.cells #[d0, d1, d2, e0, e1, e2] t1) := ⟨_, rfl⟩
  obtain ⟨o1, ho1⟩ : ∃ o, o = (Obj.cells #[c0, c1, c2, .int .i64 0, .slice none 0 0, .slice (some ⟨w1.heap.size, 0, none⟩) 2 2] t2) := ⟨_, rfl⟩
  obtain ⟨o2, ho2⟩ : ∃ o, o = (Obj.cells #[v0, v1, .slice (some ⟨w1.heap.size + 1, 0, none⟩) 2 2] t3) := ⟨_, rfl⟩
  rw [← ho0, ← ho1, ← ho2]
  have hA : Below w.heap.size w (((w1.alloc o0).alloc o1).alloc o2) := hb.nx (((al1 _ _).nx (al1 _ _)).nx (al1 _ _))
  have k1 := al1 (w1.alloc o0) o1
  have k2 := al1 ((w1.alloc o0).alloc o1) o2
  have g0 : (((w1.alloc o0).alloc o1).alloc o2).heap[w1.heap.size]? = some o0 := (k2.block _ (by simp; omega)).trans ((k1.block _ (by simp)).trans (heap_alloc_new w1 o0))
  have g1 : (((w1.alloc o0).alloc o1).alloc o2).heap[w1.heap.size + 1]? = some o1 := by
    have h := heap_alloc_new (w1.alloc o0) o1
    rw [show (w1.alloc o0).heap.size = w1.heap.size + 1 by simp] at h
    exact (k2.block _ (by simp)).trans h
  have g2 : (((w1.alloc o0).alloc o1).alloc o2).heap[w1.heap.size + 2]? = some o2 := by
    have h := heap_alloc_new ((w1.alloc o0).alloc o1) o2
    rw [show ((w1.alloc o0).alloc o1).heap.size = w1.heap.size + 2 by simp] at h
    exact h
  generalize (((w1.alloc o0).alloc o1).alloc o2) = W at *
  subst ho0 ho1 ho2
  refine msgs_row (b := w1.heap.size + 2) (cs := [v0, v1, .slice (some ⟨w1.heap.size + 1, 0, none⟩) 2 2]) (ms := [m, m', .mk [s, ⟨0, [], [x, y]⟩]]) (t := t3) hL (by show 3 ≤ maxLen; unfold maxLen; omega) (Nat.zero_le _) g2 rfl ?_
  intro i h1' h2'
  match i, h1' with
  | 0, _ => exact RMsg.below hA (n + 1) h0
  | 1, _ => exact RMsg.below hA (n + 1) h1
  | 2, _ => exact ⟨_, rfl, row_two (R := RSlot L 0 W (RMsg L 0 W n)) (by omega) g1 (hs.below hA) ⟨_, _, rfl, by simp, by simp, rowNil _ _ _ _ _, row_two (R := RVal L 0 W (RMsg L 0 W n)) (by omega) g0 (hx.below hA) (hy.below hA)⟩⟩
theorem keep2 {w w' : World} {p0 p1 : Addr} {v0 v1 : Value} {K : Nat} (b : Below K w w') (hK : K = w.heap.size) (h : w.cell? p0 = some v0 ∧ w.cell? p1 = some v1) : w'.cell? p0 = some v0 ∧ w'.cell? p1 = some v1 := by
  subst hK
  exact ⟨(b.cell (block_lt_of_cell h.1)).trans h.1, (b.cell (block_lt_of_cell h.2)).trans h.2⟩
theorem keep4 {w w' : World} {p0 p1 p2 p3 : Addr} {v0 v1 v2 v3 : Value} {K : Nat} (b : Below K w w') (hK : K = w.heap.size) (h : w.cell? p0 = some v0 ∧ w.cell? p1 = some v1 ∧ w.cell? p2 = some v2 ∧ w.cell? p3 = some v3) : w'.cell? p0 = some v0 ∧ w'.cell? p1 = some v1 ∧ w'.cell? p2 = some v2 ∧ w'.cell? p3 = some v3 :=
  ⟨(keep2 b hK ⟨h.1, h.2.1⟩).1, (keep2 b hK ⟨h.1, h.2.1⟩).2, keep2 b hK h.2.2⟩
theorem keep8 {w w' : World} {p0 p1 p2 p3 p4 p5 p6 p7 : Addr} {v0 v1 v2 v3 v4 v5 v6 v7 : Value} {K : Nat} (b : Below K w w') (hK : K = w.heap.size) (h : w.cell? p0 = some v0 ∧ w.cell? p1 = some v1 ∧ w.cell? p2 = some v2 ∧ w.cell? p3 = some v3 ∧ w.cell? p4 = some v4 ∧ w.cell? p5 = some v5 ∧ w.cell? p6 = some v6 ∧ w.cell? p7 = some v7) :
    w'.cell? p0 = some v0 ∧ w'.cell? p1 = some v1 ∧ w'.cell? p2 = some v2 ∧ w'.cell? p3 = some v3 ∧ w'.cell? p4 = some v4 ∧ w'.cell? p5 = some v5 ∧ w'.cell? p6 = some v6 ∧ w'.cell? p7 = some v7 := by
  obtain ⟨h0, h1, h2, h3, h4⟩ := h
  have a := keep4 b hK ⟨h0, h1, h2, h3⟩
  exact ⟨a.1, a.2.1, a.2.2.1, a.2.2.2, keep4 b hK h4⟩
/-- A message that is one's own. -/
def OwnOut (n : Nat) (m : Msg) (w : World) (e : Ending) (w' : World) : Prop :=
  ∃ a cap, e = .returned (.agg #[.slice a m.f.length cap]) ∧ RMsg 10000 0 w' (n + 1) [.slice a m.f.length cap] m ∧ Below w.heap.size w w'
theorem own_out (n : Nat) (w : World) (a : Option Addr) (cap : Nat) (m : Msg) (h : RMsg 10000 0 w (n + 1) [.slice a m.f.length cap] m) :
    Calls Try.prog 17 #[.agg #[.slice a m.f.length cap]] w (OwnOut n m w) := by
  refine (value_own 10000 0 (by omega) (n + 1) w [_] m h).mono ?_
  rintro e w' ⟨ds, rfl, r, b⟩
  have r0 := RMsg.keep (Nat.zero_le _) (Keeps.refl _ _) _ _ (Nat.le_refl _) r
  obtain ⟨c, rfl, -⟩ := r
  obtain ⟨a', cap', rfl⟩ := rmsg_slice r0
  exact ⟨a', cap', rfl, r0, b⟩
theorem rown_out (n : Nat) (w : World) (a : Option Addr) (cap : Nat) (m : Msg) (h : RMsg 10000 0 w (n + 1) [.slice a m.f.length cap] m) :
    Calls Try.prog 16 #[.agg #[.slice a m.f.length cap]] w (OwnOut n m w) := by
  refine (ref_own 10000 (by omega) (n + 1) w [_] m h).mono ?_
  rintro e w' ⟨ds, rfl, r, b⟩
  have r0 := RMsg.keep (Nat.zero_le _) (Keeps.refl _ _) _ _ (Nat.le_refl _) r
  obtain ⟨c, rfl, -⟩ := r
  obtain ⟨a', cap', rfl⟩ := rmsg_slice r0
  exact ⟨a', cap', rfl, r0, b⟩
theorem set_out0 (n : Nat) (w : World) (c d0 d1 d2 : Value) (m : Msg) (s : Slot) (hx : RMsg 10000 0 w (n + 1) [c] m) (hs : RSlot 10000 0 w (RMsg 10000 0 w n) [d0, d1, d2] s) (hl : m.f.length + 1 ≤ 10000) :
    Calls Try.prog 12 #[.agg #[c], .agg #[d0, d1, d2]] w (OwnOut n (setSlot m s) w) := by
  refine (value_set 10000 n (by omega) w [c] [d0, d1, d2] m s hx hs hl).mono ?_
  rintro e w' ⟨v, rfl, r, b⟩
  have r0 := RMsg.keep (Nat.zero_le _) (Keeps.refl _ _) _ _ (Nat.le_refl _) r
  obtain ⟨a, cap, rfl⟩ := rmsg_slice r0
  exact ⟨a, cap, rfl, r0, b⟩
theorem rset_out (n : Nat) (w : World) (c d0 d1 d2 : Value) (m : Msg) (s : Slot) (hx : RMsg 10000 0 w (n + 1) [c] m) (hs : RSlot 10000 0 w (RMsg 10000 0 w n) [d0, d1, d2] s) (hl : m.f.length + 1 ≤ 10000) :
    Calls Try.prog 23 #[.agg #[c], .agg #[d0, d1, d2]] w (OwnOut n (setSlot m s) w) := by
  refine (ref_set 10000 n (by omega) w [c] [d0, d1, d2] m s hx hs hl).mono ?_
  rintro e w' ⟨v, rfl, r, b⟩
  have r0 := RMsg.keep (Nat.zero_le _) (Keeps.refl _ _) _ _ (Nat.le_refl _) r
  obtain ⟨a, cap, rfl⟩ := rmsg_slice r0
  exact ⟨a, cap, rfl, r0, b⟩
theorem ref_one {n : Nat} (w : World) (a a' : Option Addr) (cap cap' : Nat) (m : Msg) (r : RMsg 10000 0 w (n + 1) [.slice a m.f.length cap] m) (r' : RMsg 10000 0 w (n + 1) [.slice a' m.f.length cap'] m) :
    Calls Try.prog 14 #[.agg #[.slice a m.f.length cap], .agg #[.slice a' m.f.length cap']] w fun e w' => e = .returned (.bool true) ∧ Below w.heap.size w w' :=
  (ref_same 10000 0 (by unfold maxLen; omega) (n + 1) w [_] [_] m m r r').mono (by rintro e w' ⟨rfl, b⟩; exact ⟨by rw [same_yes rfl], b⟩)
theorem ref_two {n : Nat} {t t' : TypeId} (w0 W : World) (b b' : Nat) (g0 g1 g2 s0 s1 s2 : Value) (s : Slot) (hb : Below w0.heap.size w0 W) (hg : W.heap[b]? = some (.cells #[g0, g1, g2] t (0, 0))) (hs : W.heap[b']? = some (.cells #[s0, s1, s2] t' (0, 0)))
    (rg : RSlot 10000 0 w0 (RMsg 10000 0 w0 n) [g0, g1, g2] s) (rs : RSlot 10000 0 w0 (RMsg 10000 0 w0 n) [s0, s1, s2] s) :
    Calls Try.prog 14 #[.agg #[.slice (some ⟨b, 0, none⟩) 1 1], .agg #[.slice (some ⟨b', 0, none⟩) 1 1]] W fun e w' => e = .returned (.bool true) ∧ Below w0.heap.size w0 w' :=
  (ref_same 10000 0 (by unfold maxLen; omega) (n + 1) W [_] [_] (.mk [s]) (.mk [s]) (msg_one (by omega) (Nat.zero_le _) hg (rg.below hb)) (msg_one (by omega) (Nat.zero_le _) hs (rs.below hb))).mono (by
    rintro e w' ⟨rfl, b⟩; exact ⟨by rw [same_yes rfl], hb.nx b⟩)
theorem blk1 (w : World) (a b : Obj) : ((w.alloc a).alloc b).heap[w.heap.size]? = some a := by
  have h1 := heap_alloc_new w a
  exact ((al1 (w.alloc a) b).block w.heap.size (by simp)).trans h1
theorem blk2 (w : World) (a b : Obj) : ((w.alloc a).alloc b).heap[w.heap.size + 1]? = some b := by
  have h1 := heap_alloc_new (w.alloc a) b
  have h2 : (w.alloc a).heap.size = w.heap.size + 1 := by simp
  rw [h2] at h1; exact h1
theorem blk_s1 (w : World) (a b c : Obj) : (((w.alloc a).alloc b).alloc c).heap[w.heap.size + 1]? = some b := by
  have h := blk1 (w.alloc a) b c
  rw [show (w.alloc a).heap.size = w.heap.size + 1 by simp] at h; exact h
theorem blk_s2 (w : World) (a b c : Obj) : (((w.alloc a).alloc b).alloc c).heap[w.heap.size + 1 + 1]? = some c := by
  have h := blk2 (w.alloc a) b c
  rw [show (w.alloc a).heap.size = w.heap.size + 1 by simp] at h; exact h
def GetOut (n : Nat) (m : Msg) (no : Int) (w : World) (e : Ending) (w' : World) : Prop :=
  ∃ e1 c1 e2 c2, e = .returned (.tuple #[.agg #[.int .i64 (getSlot m no).no, .slice e1 (getSlot m no).k.length c1, .slice e2 (getSlot m no).v.length c2], .bool (hasSlot m no)]) ∧
      RSlot 10000 0 w' (RMsg 10000 0 w' n) [.int .i64 (getSlot m no).no, .slice e1 (getSlot m no).k.length c1, .slice e2 (getSlot m no).v.length c2] (getSlot m no) ∧ Below w.heap.size w w'
theorem get_out (n : Nat) (w : World) (a : Option Addr) (cap : Nat) (m : Msg) (no : Int) (h1 : -9223372036854775808 ≤ no) (h2 : no ≤ 9223372036854775807) (r : RMsg 10000 0 w (n + 1) [.slice a m.f.length cap] m) :
    Calls Try.prog 13 #[.agg #[.slice a m.f.length cap], .int .i64 no] w (GetOut n m no w) := by
  refine (value_get 10000 n (by omega) no h1 h2 w [_] m r).mono ?_
  rintro e w' ⟨ds, rfl, rg, b⟩
  have RG := RSlot.keep (B' := 0) (Nat.zero_le _) (Nat.le_refl n) rg (Keeps.refl _ _)
  obtain ⟨c, d, rfl, -, -, rk, rv⟩ := rg
  obtain ⟨e1, ec1, rfl, -⟩ := rk
  obtain ⟨e2, ec2, rfl, -⟩ := rv
  exact ⟨e1, ec1, e2, ec2, rfl, RG, b⟩
theorem rget_out (n : Nat) (w : World) (a : Option Addr) (cap : Nat) (m : Msg) (no : Int) (r : RMsg 10000 0 w (n + 1) [.slice a m.f.length cap] m) :
    Calls Try.prog 22 #[.agg #[.slice a m.f.length cap], .int .i64 no] w (GetOut n m no w) := by
  refine (ref_get 10000 n no w [_] m r).mono ?_
  rintro e w' ⟨ds, rfl, rg, b⟩
  have RG := RSlot.keep (B' := 0) (Nat.zero_le _) (Nat.le_refl n) rg (Keeps.refl _ _)
  obtain ⟨c, d, rfl, -, -, rk, rv⟩ := rg
  obtain ⟨e1, ec1, rfl, -⟩ := rk
  obtain ⟨e2, ec2, rfl, -⟩ := rv
  exact ⟨e1, ec1, e2, ec2, rfl, RG, b⟩
/-! THE WALK -/
set_option maxHeartbeats 8000000 in
set_option maxRecDepth 100000 in
theorem walk (n : Nat) (w : World) (cs0 : List Value) (x0 : Msg) (h0 : RMsg Great 0 w n cs0 x0) (cs1 : List Value) (x1 : Msg) (h1 : RMsg Great 0 w n cs1 x1) (a2 : Int) (w2 : -9223372036854775808 ≤ a2 ∧ a2 ≤ 9223372036854775807) (cs3 : List Value) (x3 : Slot) (h3 : RSlot Great 0 w (RMsg Great 0 w n) cs3 x3) (cs4 : List Value) (x4 : Val) (h4 : RVal Great 0 w (RMsg Great 0 w n) cs4 x4) (cs5 : List Value) (x5 : Val) (h5 : RVal Great 0 w (RMsg Great 0 w n) cs5 x5) :
    Calls Try.prog 8 #[.agg cs0.toArray, .agg cs1.toArray, .int .i64 a2, .agg cs3.toArray, .agg cs4.toArray, .agg cs5.toArray] w fun e w' => e = .returned (.bool true) ∧ Below w.heap.size w w' := by
  have hno := w2
  clear w2
  have HA := Lib.hid fun w' => Go.Proofs.Ytogcnodgpgiacaa.awake w'
  have H0 := Lib.hid (RMsg.keep (Nat.le_refl 0) (Keeps.refl 0 w) n (n + 1) (by omega) h0)
  have H1 := Lib.hid (RMsg.keep (Nat.le_refl 0) (Keeps.refl 0 w) n (n + 1) (by omega) h1)
  have H3 := Lib.hid h3
  have H4 := Lib.hid h4
  have H5 := Lib.hid h5
  obtain ⟨v0, rfl, o0⟩ := rmsg_one Great 0 n w _ _ h0
  obtain ⟨a0, cap0, rfl⟩ := rmsg_slice H0.out
  obtain ⟨v1, rfl, o1⟩ := rmsg_one Great 0 n w _ _ h1
  obtain ⟨a1, cap1, rfl⟩ := rmsg_slice H1.out
  obtain ⟨c, d, rfl, hn1, hn2, r1, r2⟩ := h3
  obtain ⟨p1, pc1, rfl, -⟩ := r1
  obtain ⟨p2, pc2, rfl, -⟩ := r2
  obtain ⟨c, rfl, hx1, hx2, hx3, r1⟩ := h4
  obtain ⟨p4, pc4, rfl, -⟩ := r1
  obtain ⟨c, rfl, hy1, hy2, hy3, r1⟩ := h5
  obtain ⟨p5, pc5, rfl, -⟩ := r1
  clear h0 o0 h1 o1
  go_enter Try.func8, Try.ntmps8
  go_wp2_with fail
  refine (HA.out _).mono ?_; rintro e w1 ⟨rfl, b1⟩
  obtain ⟨f0, f1, f2, f3, f4⟩ := five w (.cells #[.slice a0 x0.f.length cap0] 24) (.cells #[.slice a1 x1.f.length cap1] 24) (.cells #[.int .i64 x3.no, .slice p1 x3.k.length pc1, .slice p2 x3.v.length pc2] 27) (.cells #[.int .i64 x4.n, .string x4.s, .slice p4 x4.m.length pc4] 38) (.cells #[.int .i64 x5.n, .string x5.s, .slice p5 x5.m.length pc5] 38)
  have Q0 := Lib.hid ((box1_of f0).below b1)
  have Q1 := Lib.hid ((box1_of f1).below b1)
  have Q3 := Lib.hid ((box3_of f2).below b1)
  have Q4 := Lib.hid ((box3_of f3).below b1)
  have Q5 := Lib.hid ((box3_of f4).below b1)
  have B1 := Lib.hid ((((((al1 _ _).nx (al1 _ _)).nx (al1 _ _)).nx (al1 _ _)).nx (al1 _ _)).nx b1)
  clear b1 f0 f1 f2 f3 f4
  obtain ⟨l0, s0⟩ := Q0.out
  obtain ⟨l1, s1⟩ := Q1.out
  obtain ⟨l3, t0, t1, t2⟩ := Q3.out
  obtain ⟨l4, u0, u1, u2⟩ := Q4.out
  obtain ⟨l5, z0, z1, z2⟩ := Q5.out
  go_wp2_with fail
  refine (law_few Great (n + 1) (by decide) _ _ _ (few_args3 B1.out H0.out H1.out H3.out H4.out H5.out (by decide))).mono ?_; rintro e w2 ⟨⟨b, rfl, hb⟩, b2⟩
  have b2' := ((al1 _ _).nx (al1 _ _)).nx ((al1 _ _).nx b2)
  have R0 := Lib.hid (Q0.out.below b2')
  have R1 := Lib.hid (Q1.out.below b2')
  have R3 := Lib.hid (Q3.out.below b2')
  have R4 := Lib.hid (Q4.out.below b2')
  have R5 := Lib.hid (Q5.out.below b2')
  have B2 := Lib.hid (B1.out.nx b2')
  clear b2 b2' l0 s0 l1 s1 l3 t0 t1 t2 l4 u0 u1 u2 l5 z0 z1 z2 Q0 Q1 Q3 Q4 Q5 B1
  cases b with
  | false =>
    go_wp2_with fail
    exact ⟨rfl, _, results_tmp (t := 12) rfl _ _ _, rfl, B2.out⟩
  | true =>
    have hl0 := hb rfl x0 (by simp)
    have hl1 := hb rfl x1 (by simp)
    have hl3 := hb rfl (.mk [x3, ⟨0, [], [x4, x5]⟩]) (by simp)
    clear hb
    have hm0 := size_le_weight hl0
    have M0 := Lib.hid (H0.out.shrink (L' := 10000) (n + 1) (by have := hl0.1; omega))
    have M1 := Lib.hid (H1.out.shrink (L' := 10000) (n + 1) (by have := hl1.1; omega))
    have M3 := Lib.hid (RSlot.shrinkIn (L' := 10000) (m := .mk [x3, ⟨0, [], [x4, x5]⟩]) H3.out (by simp [Msg.f]) (by have := hl3.1; omega))
    clear hl0 hl1 hl3 H0 H1 H3
    obtain ⟨l0, s0⟩ := R0.out
    go_wp2_with fail
    refine (rown_out n _ _ _ x0 (RMsg.below B2.out (n + 1) M0.out)).mono ?_; rintro e w3 ⟨aw, capw, rfl, rw3, b3⟩
    have R0' := Lib.hid (R0.out.below b3)
    have R1' := Lib.hid (R1.out.below b3)
    have R3' := Lib.hid (R3.out.below b3)
    have R4' := Lib.hid (R4.out.below b3)
    have R5' := Lib.hid (R5.out.below b3)
    have B3 := Lib.hid (B2.out.nx b3)
    have MW := Lib.hid rw3
    clear b3 rw3 l0 s0 R0 R1 R3 R4 R5
    obtain ⟨l0, s0⟩ := R0'.out
    go_wp2_with fail
    refine (get_out n _ _ _ x0 a2 hno.1 hno.2 (RMsg.below (B3.out.nx (al1 _ _)) (n + 1) M0.out)).mono ?_; rintro e w4 ⟨e1, ec1, e2, ec2, rfl, rg, b4⟩
    have W4 := Lib.hid ((Box1.new w3 (.slice aw x0.f.length capw) 24).below b4)
    have b4' := (al1 w3 (.cells #[.slice aw x0.f.length capw] 24)).nx b4
    have S0 := Lib.hid (R0'.out.below b4')
    have S1 := Lib.hid (R1'.out.below b4')
    have S3 := Lib.hid (R3'.out.below b4')
    have S4 := Lib.hid (R4'.out.below b4')
    have S5 := Lib.hid (R5'.out.below b4')
    have B4 := Lib.hid (B3.out.nx b4')
    have MW4 := Lib.hid (RMsg.below b4' (n + 1) MW.out)
    have RG := Lib.hid rg
    clear b4 b4' rg MW l0 s0 R0' R1' R3' R4' R5'
    generalize hgs : getSlot x0 a2 = g at *
    generalize hhs : hasSlot x0 a2 = q at *
    obtain ⟨l0, s0⟩ := S0.out
    go_wp2_with fail
    refine (rget_out n _ _ _ x0 a2 (RMsg.below (B4.out.nx (al1 _ _)) (n + 1) M0.out)).mono ?_; rintro e w5 ⟨f1, fc1, f2, fc2, rfl, rf, b5⟩
    rw [hgs] at rf ⊢
    rw [hhs]
    have b5' := (al1 w4 (.cells #[.int .i64 g.no, .slice e1 g.k.length ec1, .slice e2 g.v.length ec2] 27)).nx b5
    have G5 := Lib.hid ((Box3.new w4 (.int .i64 g.no) (.slice e1 g.k.length ec1) (.slice e2 g.v.length ec2) 27).below b5)
    have T0 := Lib.hid (S0.out.below b5')
    have T1 := Lib.hid (S1.out.below b5')
    have T3 := Lib.hid (S3.out.below b5')
    have T4 := Lib.hid (S4.out.below b5')
    have T5 := Lib.hid (S5.out.below b5')
    have TW := Lib.hid (W4.out.below b5')
    have B5 := Lib.hid (B4.out.nx b5')
    have MW5 := Lib.hid (RMsg.below b5' (n + 1) MW4.out)
    have RG5 := Lib.hid (RG.out.below b5')
    have RF5 := Lib.hid rf
    clear b5 b5' rf RG MW4 l0 s0 S0 S1 S3 S4 S5 W4
    have hqq : (q == q) = true := by simp
    obtain ⟨l6, c60, c61, c62⟩ := G5.out
    go_wp2_with fail
    refine (ref_two (n := n) (t := 27) (t' := 27) w5 _ _ _ _ _ _ _ _ _ g (((al1 _ _).nx (al1 _ _)).nx (al1 _ _)) (blk_s1 _ _ _ _) (blk_s2 _ _ _ _) RG5.out RF5.out).mono ?_; rintro e w6 ⟨rfl, b6⟩
    have U0 := Lib.hid (T0.out.below b6)
    have U1 := Lib.hid (T1.out.below b6)
    have U3 := Lib.hid (T3.out.below b6)
    have U4 := Lib.hid (T4.out.below b6)
    have U5 := Lib.hid (T5.out.below b6)
    have UW := Lib.hid (TW.out.below b6)
    clear T0 T1 T3 T4 T5 TW
    have B6 := Lib.hid (B5.out.nx b6)
    have MW6 := Lib.hid (RMsg.below b6 (n + 1) MW5.out)
    clear b6 G5 RG5 RF5 MW5 l6 c60 c61 c62
    obtain ⟨l0, s0⟩ := U0.out
    obtain ⟨l3, t0, t1, t2⟩ := U3.out
    have MA : Hid (∀ w' (hb : Below w6.heap.size w6 w'), Calls Try.prog 12 #[.agg #[.slice a0 x0.f.length cap0], .agg #[.int .i64 x3.no, .slice p1 x3.k.length pc1, .slice p2 x3.v.length pc2]] w' (OwnOut n (setSlot x0 x3) w')) :=
      fun w' hb => set_out0 n w' _ _ _ _ x0 x3 (RMsg.below (B6.out.nx hb) (n + 1) M0.out) (M3.out.below (B6.out.nx hb)) (by omega)
    have MR : Hid (∀ w' (hb : Below w6.heap.size w6 w'), Calls Try.prog 23 #[.agg #[.slice a0 x0.f.length cap0], .agg #[.int .i64 x3.no, .slice p1 x3.k.length pc1, .slice p2 x3.v.length pc2]] w' (OwnOut n (setSlot x0 x3) w')) :=
      fun w' hb => rset_out n w' _ _ _ _ x0 x3 (RMsg.below (B6.out.nx hb) (n + 1) M0.out) (M3.out.below (B6.out.nx hb)) (by omega)
    generalize setSlot x0 x3 = ma at *
    go_upto_region 9 with fail
    go_cut [21] from 68 to 74 (fun o wc => o = .bool true ∧ Hid (Below w6.heap.size w6 wc))
    case first =>
      have hs0 := And.intro s0 (And.intro t0 (And.intro t1 t2))
      have hk := hs0
      go_region_held3 (fun w' => w'.cell? ⟨w.heap.size, 0, none⟩ = some (.slice a0 x0.f.length cap0) ∧ w'.cell? ⟨w.heap.size + 2, 0, none⟩ = some (.int .i64 x3.no) ∧ w'.cell? ⟨w.heap.size + 2, 1, none⟩ = some (.slice p1 x3.k.length pc1) ∧ w'.cell? ⟨w.heap.size + 2, 2, none⟩ = some (.slice p2 x3.v.length pc2))
        (first | exact hk | (go_keep; done))
        (first
          | (go_at_call 12; (with_reducible refine (MA.out _ ?_).mono ?_); (exact (Below.refl _ _).drew); rintro e y1 ⟨a7, cap7, rfl, r7, g1⟩; (have D1 := Lib.hid ((Below.refl w6.heap.size w6).drew.nx g1)); (have R7 := Lib.hid r7); clear hk; (have hk := keep4 D1.out rfl hs0); clear g1 r7)
          | (go_at_call 23; (with_reducible refine (MR.out _ ?_).mono ?_); (exact D1.out); rintro e y2 ⟨a8, cap8, rfl, r8, g2⟩; (have D2 := Lib.hid (D1.out.nx g2)); (have R8 := Lib.hid r8); (have R7' := Lib.hid (RMsg.below g2 (n + 1) R7.out)); clear hk; (have hk := keep4 D2.out rfl hs0); clear g2 r8)
          | (go_at_call 14; (with_reducible refine (ref_one (n := n) _ _ _ _ _ _ ?_ ?_).mono ?_); (exact R7'.out); (exact R8.out); rintro e y3 ⟨rfl, g3⟩; (have D3 := Lib.hid (D2.out.nx g3)); clear hk; (have hk := keep4 D3.out rfl hs0); clear g3))
      all_goals (go_wp2_with fail; go_meet)
      all_goals exact ⟨rfl, D3.out⟩
    case rest =>
      obtain ⟨rfl, b7⟩ := hcut
      have V0 := Lib.hid (U0.out.below b7.out)
      have V1 := Lib.hid (U1.out.below b7.out)
      have V4 := Lib.hid (U4.out.below b7.out)
      have V5 := Lib.hid (U5.out.below b7.out)
      have VW := Lib.hid (UW.out.below b7.out)
      have B7 := Lib.hid (B6.out.nx b7.out)
      have MW7 := Lib.hid (RMsg.below b7.out (n + 1) MW6.out)
      clear b7 MA MR MW6 B6 U0 U1 U3 U4 U5 UW l0 s0 l3 t0 t1 t2
      rename World => W0
      have VS : Hid (∀ w' (hb : Below W0.heap.size W0 w'), Calls Try.prog 15 #[.agg #[.slice a0 x0.f.length cap0], .agg #[.slice a1 x1.f.length cap1]] w' fun e w'' => e = .returned (.bool (same x0 x1)) ∧ Below w'.heap.size w' w'') :=
        fun w' hb => value_same 10000 0 (by unfold maxLen; omega) (n + 1) w' [_] [_] x0 x1 (RMsg.below (B7.out.nx hb) (n + 1) M0.out) (RMsg.below (B7.out.nx hb) (n + 1) M1.out)
      have RS : Hid (∀ w' (hb : Below W0.heap.size W0 w'), Calls Try.prog 14 #[.agg #[.slice a0 x0.f.length cap0], .agg #[.slice a1 x1.f.length cap1]] w' fun e w'' => e = .returned (.bool (same x0 x1)) ∧ Below w'.heap.size w' w'') :=
        fun w' hb => ref_same 10000 0 (by unfold maxLen; omega) (n + 1) w' [_] [_] x0 x1 (RMsg.below (B7.out.nx hb) (n + 1) M0.out) (RMsg.below (B7.out.nx hb) (n + 1) M1.out)
      have VO : Hid (∀ w' (hb : Below W0.heap.size W0 w'), Calls Try.prog 17 #[.agg #[.slice a0 x0.f.length cap0]] w' (OwnOut n x0 w')) := fun w' hb => own_out n w' _ _ _ (RMsg.below (B7.out.nx hb) (n + 1) M0.out)
      have RO : Hid (∀ w' a cap (hb : Below W0.heap.size W0 w'), RMsg 10000 0 w' (n + 1) [.slice a x0.f.length cap] x0 → Calls Try.prog 14 #[.agg #[.slice a x0.f.length cap], .agg #[.slice a0 x0.f.length cap0]] w' fun e w'' => e = .returned (.bool true) ∧ Below w'.heap.size w' w'') := fun w' a cap hb r => ref_one w' _ _ _ _ _ r (RMsg.below (B7.out.nx hb) (n + 1) M0.out)
      have RT : Hid (∀ w' (hb : Below W0.heap.size W0 w'), Calls Try.prog 14 #[.agg #[.slice a0 x0.f.length cap0], .agg #[.slice aw x0.f.length capw]] w' fun e w'' => e = .returned (.bool true) ∧ Below w'.heap.size w' w'') := fun w' hb => ref_one w' _ _ _ _ _ (RMsg.below (B7.out.nx hb) (n + 1) M0.out) (RMsg.below hb (n + 1) MW7.out)
      have VD : Hid (∀ w' (hb : Below W0.heap.size W0 w'), Calls Try.prog 20 #[.agg #[.slice a0 x0.f.length cap0]] w' fun e w'' => e = .returned (.int .i64 x0.deep) ∧ Below w'.heap.size w' w'') := fun w' hb => value_deep 10000 (by omega) (n + 1) w' [_] x0 (RMsg.below (B7.out.nx hb) (n + 1) M0.out) (by omega)
      have RD : Hid (∀ w' (hb : Below W0.heap.size W0 w'), Calls Try.prog 24 #[.agg #[.slice a0 x0.f.length cap0]] w' fun e w'' => e = .returned (.int .i64 x0.deep) ∧ Below w'.heap.size w' w'') := fun w' hb => ref_deep 10000 (by omega) (n + 1) w' [_] x0 (RMsg.below (B7.out.nx hb) (n + 1) M0.out) (by omega)
      have VZ : Hid (∀ w' (hb : Below W0.heap.size W0 w'), Calls Try.prog 19 #[.agg #[.slice a0 x0.f.length cap0]] w' fun e w'' => e = .returned (.int .i64 x0.size) ∧ Below w'.heap.size w' w'') := fun w' hb => value_size 10000 (by omega) (n + 1) w' [_] x0 (RMsg.below (B7.out.nx hb) (n + 1) M0.out) (by omega)
      have RZ : Hid (∀ w' (hb : Below W0.heap.size W0 w'), Calls Try.prog 25 #[.agg #[.slice a0 x0.f.length cap0]] w' fun e w'' => e = .returned (.int .i64 x0.size) ∧ Below w'.heap.size w' w'') := fun w' hb => ref_size 10000 (by omega) (n + 1) w' [_] x0 (RMsg.below (B7.out.nx hb) (n + 1) M0.out) (by omega)
      have VL : Hid (∀ w' : World, Calls Try.prog 26 #[.agg #[.int .i64 x4.n, .string x4.s, .slice p4 x4.m.length pc4], .agg #[.int .i64 x5.n, .string x5.s, .slice p5 x5.m.length pc5]] w' fun e w'' => e = .returned (.bool (lessVal x4 x5)) ∧ Below w'.heap.size w' w'') := fun w' => value_less _ Great 0 w' w [_, _, _] [_, _, _] x4 x5 H4.out H5.out
      have RL : Hid (∀ w' : World, Calls Try.prog 27 #[.agg #[.int .i64 x4.n, .string x4.s, .slice p4 x4.m.length pc4], .agg #[.int .i64 x5.n, .string x5.s, .slice p5 x5.m.length pc5]] w' fun e w'' => e = .returned (.bool (lessVal x4 x5)) ∧ Below w'.heap.size w' w'') := fun w' => ref_less9 _ Great 0 w' w [_, _, _] [_, _, _] x4 x5 H4.out H5.out
      clear hm0 H4 H5 M0 M1 M3 MW7
      generalize same x0 x1 = qs at *
      generalize (x0.deep : Int) = dp at *
      generalize (x0.size : Int) = sz at *
      generalize lessVal x4 x5 = ql at *
      have hq1 : (qs == qs) = true := by simp
      have hq2 : (dp == dp) = true := by simp
      have hq3 : (sz == sz) = true := by simp
      have hq4 : (ql == ql) = true := by simp
      obtain ⟨l0, s0⟩ := V0.out
      obtain ⟨l1, s1⟩ := V1.out
      go_upto_region 10 with fail
      go_cut [22] from 75 to 101 (fun o wc => o = .bool true ∧ Hid (Below W0.heap.size W0 wc))
      case first =>
        have hs0 := And.intro s0 s1
        have hk := hs0
        go_region_held3 (fun w' => w'.cell? ⟨w.heap.size, 0, none⟩ = some (.slice a0 x0.f.length cap0) ∧ w'.cell? ⟨w.heap.size + 1, 0, none⟩ = some (.slice a1 x1.f.length cap1))
          (first | exact hk | (go_keep; done))
          (first
            | (go_at_call 15; (with_reducible refine (VS.out _ ?_).mono ?_); (exact (Below.refl _ _).drew); rintro e y1 ⟨rfl, g1⟩; (have D1 := Lib.hid ((Below.refl W0.heap.size W0).drew.nx g1)); clear hk; (have hk := keep2 D1.out rfl hs0); clear g1)
            | (go_at_call 14; (with_reducible refine (RS.out _ ?_).mono ?_); (exact D1.out); rintro e y2 ⟨rfl, g2⟩; (have D2 := Lib.hid (D1.out.nx g2)); clear hk; (have hk := keep2 D2.out rfl hs0); clear g2)
            | (go_at_call 17; (with_reducible refine (VO.out _ ?_).mono ?_); (exact D2.out); rintro e y3 ⟨a8, cap8, rfl, r8, g3⟩; (have D3 := Lib.hid (D2.out.nx g3)); (have R8 := Lib.hid r8); clear r8; clear hk; (have hk := keep2 D3.out rfl hs0); clear g3)
            | (go_at_call 14; (with_reducible refine (RO.out _ _ _ ?_ R8.out).mono ?_); (exact D3.out); rintro e y4 ⟨rfl, g4⟩; (have D4 := Lib.hid (D3.out.nx g4)); clear hk; (have hk := keep2 D4.out rfl hs0); clear g4)
            | (go_at_call 20; (with_reducible refine (VD.out _ ?_).mono ?_); (exact D4.out); rintro e y5 ⟨rfl, g5⟩; (have D5 := Lib.hid (D4.out.nx g5)); clear hk; (have hk := keep2 D5.out rfl hs0); clear g5)
            | (go_at_call 24; (with_reducible refine (RD.out _ ?_).mono ?_); (exact D5.out); rintro e y6 ⟨rfl, g6⟩; (have D6 := Lib.hid (D5.out.nx g6)); clear hk; (have hk := keep2 D6.out rfl hs0); clear g6)
            | (go_at_call 19; (with_reducible refine (VZ.out _ ?_).mono ?_); (exact D6.out); rintro e y7 ⟨rfl, g7⟩; (have D7 := Lib.hid (D6.out.nx g7)); clear hk; (have hk := keep2 D7.out rfl hs0); clear g7)
            | (go_at_call 25; (with_reducible refine (RZ.out _ ?_).mono ?_); (exact D7.out); rintro e y8 ⟨rfl, g8⟩; (have D8 := Lib.hid (D7.out.nx g8)); clear hk; (have hk := keep2 D8.out rfl hs0); clear g8))
        all_goals (go_wp2_with fail; go_meet)
        all_goals exact ⟨rfl, D8.out⟩
      case rest =>
        obtain ⟨rfl, b8⟩ := hcut
        have Z0 := Lib.hid (V0.out.below b8.out)
        have Z4 := Lib.hid (V4.out.below b8.out)
        have Z5 := Lib.hid (V5.out.below b8.out)
        have ZW := Lib.hid (VW.out.below b8.out)
        have RT8 : Hid (∀ w' (hb : Below wc.heap.size wc w'), Calls Try.prog 14 #[.agg #[.slice a0 x0.f.length cap0], .agg #[.slice aw x0.f.length capw]] w' fun e w'' => e = .returned (.bool true) ∧ Below w'.heap.size w' w'') := fun w' hb => RT.out w' (b8.out.nx hb)
        have B8 := Lib.hid (B7.out.nx b8.out)
        clear b8 V0 V1 V4 V5 VW B7 VS RS VO RO RT VD RD VZ RZ l0 s0 l1 s1
        obtain ⟨l0, s0⟩ := Z0.out
        obtain ⟨l4, u0, u1, u2⟩ := Z4.out
        obtain ⟨l5, z0, z1, z2⟩ := Z5.out
        obtain ⟨lw, sw⟩ := ZW.out
        go_upto_region 11 with fail
        have hs0 := And.intro u0 (And.intro u1 (And.intro u2 (And.intro z0 (And.intro z1 (And.intro z2 (And.intro s0 sw))))))
        have hk := hs0
        go_region_held3 (fun w' => w'.cell? ⟨w.heap.size + 3, 0, none⟩ = some (.int .i64 x4.n) ∧ w'.cell? ⟨w.heap.size + 3, 1, none⟩ = some (.string x4.s) ∧ w'.cell? ⟨w.heap.size + 3, 2, none⟩ = some (.slice p4 x4.m.length pc4) ∧ w'.cell? ⟨w.heap.size + 4, 0, none⟩ = some (.int .i64 x5.n) ∧ w'.cell? ⟨w.heap.size + 4, 1, none⟩ = some (.string x5.s) ∧ w'.cell? ⟨w.heap.size + 4, 2, none⟩ = some (.slice p5 x5.m.length pc5) ∧ w'.cell? ⟨w.heap.size, 0, none⟩ = some (.slice a0 x0.f.length cap0) ∧ w'.cell? ⟨w3.heap.size, 0, none⟩ = some (.slice aw x0.f.length capw))
          (first | exact hk | (go_keep; done))
          (first
            | (go_at_call 26; (with_reducible refine (VL.out _).mono ?_); rintro e y1 ⟨rfl, g1⟩; (have D1 := Lib.hid ((Below.refl wc.heap.size wc).drew.nx g1)); clear hk; (have hk := keep8 D1.out rfl hs0); clear g1)
            | (go_at_call 27; (with_reducible refine (RL.out _).mono ?_); rintro e y2 ⟨rfl, g2⟩; (have D2 := Lib.hid (D1.out.nx g2)); clear hk; (have hk := keep8 D2.out rfl hs0); clear g2)
            | (go_at_call 14; (with_reducible refine (RT8.out _ ?_).mono ?_); (exact D2.out); rintro e y3 ⟨rfl, g3⟩; (have D3 := Lib.hid (D2.out.nx g3)); clear hk; (have hk := keep8 D3.out rfl hs0); clear g3))
        all_goals (
          go_wp2
          exact ⟨rfl, _, results_tmp (t := 12) rfl _ _ _, rfl, B8.out.nx D3.out⟩)

/-! THE ROW -/
set_option maxRecDepth 100000 in
theorem lifted (os : Os) (started : os.Started) (H : Type) (enc : TypeId × Value → H) :
    ReturnsInHanded {} Try.checked os 8 .any (Rows.valueTellsSpec.pre6 enc Try.prog Try.f8 Rows.valueTellsRow.domain false) (Rows.valueTellsSpec.post enc Try.prog Try.f8 false true false false) := by
  refine returnsInHanded_of_change_sized (C := Try.checked) own started (by kernel_rfl) Try.func8
    (ChangeSpec.witness6 (enc := enc) (C := Try.checked) false ⟨#[], #[.agg #[.slice none 0 0], .agg #[.slice none 0 0], .int .i64 0, .agg #[.int .i64 0, .slice none 0 0, .slice none 0 0], .agg #[.int .i64 0, .string ByteArray.empty, .slice none 0 0], .agg #[.int .i64 0, .string ByteArray.empty, .slice none 0 0]], []⟩ 8 (by kernel_rfl) (by kernel_rfl) (by kernel_rfl) (by kernel_rfl)) ?_
  intro W base args ds gs before hval0 hW hcnd hsz0 _
  have hsz : (DataW.weightsEach Try.prog (Try.f8.params.toList ++ Rows.valueTellsSpec.plain.varTypes Try.prog) (ds ++ gs)).all (· ≤ reachBytes) = true := hsz0
  have hval : ∀ (j : Nat) t v, Try.f8.params[j]? = some t → args[j]? = some v → Value.okWide Try.prog W .any base t v := hval0
  have hW' := hW
  obtain ⟨p, q, hA0, hV, rfl, hfz, hnd⟩ := hW
  have hA : DataW.TrodAll enc Try.prog W 0 (fun _ => true) true Try.f8.params.toList args.toList ds p := hA0
  rw [Try.params8] at hA hval hsz
  obtain ⟨v0, vs0, d0, ds0, p0, q0, hargs, rfl, rfl, h0, r0⟩ := trodAll_cons hA
  obtain ⟨v1, vs1, d1, ds1, p1, q1, rfl, rfl, rfl, h1, r1⟩ := trodAll_cons r0
  obtain ⟨v2, vs2, d2, ds2, p2, q2, rfl, rfl, rfl, h2, r2⟩ := trodAll_cons r1
  obtain ⟨v3, vs3, d3, ds3, p3, q3, rfl, rfl, rfl, h3, r3⟩ := trodAll_cons r2
  obtain ⟨v4, vs4, d4, ds4, p4, q4, rfl, rfl, rfl, h4, r4⟩ := trodAll_cons r3
  obtain ⟨v5, vs5, d5, ds5, p5, q5, rfl, rfl, rfl, h5, r5⟩ := trodAll_cons r4
  obtain ⟨rfl, rfl, rfl⟩ := trodAll_nil r5
  obtain rfl : args = #[v0, v1, v2, v3, v4, v5] := by cases args; simp_all
  obtain ⟨rfl, rfl⟩ := trodVars_none hV
  have k0 := h0
  have lt0 : ∀ x ∈ p0, x.block < W.heap.size := by obtain ⟨m, hm⟩ := k0; exact DataW.trod_lt m _ _ _ hm
  have hw0 : ∀ z ∈ d0.weights Try.prog 24, z ≤ reachBytes := fun z hz => by simpa using List.all_eq_true.1 hsz z (DataW.weights_mem_each (j := 0) rfl rfl z hz)
  obtain ⟨c0, rfl, -⟩ := okWide_struct Try.underlying24 (hval 0 24 v0 rfl rfl)
  obtain ⟨fuel0, hf0⟩ := h0
  obtain ⟨x0, g0⟩ : ∃ x, RMsg Great 0 W fuel0 c0.toList x := open_msg fuel0 _ _ hf0 hw0
  have k1 := h1
  have lt1 : ∀ x ∈ p1, x.block < W.heap.size := by obtain ⟨m, hm⟩ := k1; exact DataW.trod_lt m _ _ _ hm
  have hw1 : ∀ z ∈ d1.weights Try.prog 24, z ≤ reachBytes := fun z hz => by simpa using List.all_eq_true.1 hsz z (DataW.weights_mem_each (j := 1) rfl rfl z hz)
  obtain ⟨c1, rfl, -⟩ := okWide_struct Try.underlying24 (hval 1 24 v1 rfl rfl)
  obtain ⟨fuel1, hf1⟩ := h1
  obtain ⟨x1, g1⟩ : ∃ x, RMsg Great 0 W fuel1 c1.toList x := open_msg fuel1 _ _ hf1 hw1
  obtain ⟨a2, rfl, rfl, rfl, w2⟩ := open_int Try.underlying3 (hval 2 3 v2 rfl rfl) h2
  have k3 := h3
  have lt3 : ∀ x ∈ p3, x.block < W.heap.size := by obtain ⟨m, hm⟩ := k3; exact DataW.trod_lt m _ _ _ hm
  have hw3 : ∀ z ∈ d3.weights Try.prog 27, z ≤ reachBytes := fun z hz => by simpa using List.all_eq_true.1 hsz z (DataW.weights_mem_each (j := 3) rfl rfl z hz)
  obtain ⟨c3, rfl, -⟩ := okWide_struct Try.underlying27 (hval 3 27 v3 rfl rfl)
  obtain ⟨fuel3, hf3⟩ := h3
  obtain ⟨x3, g3⟩ : ∃ x, RSlot Great 0 W (RMsg Great 0 W fuel3) c3.toList x := open_slot (fun m _ => open_msg m) hf3 hw3
  have k4 := h4
  have lt4 : ∀ x ∈ p4, x.block < W.heap.size := by obtain ⟨m, hm⟩ := k4; exact DataW.trod_lt m _ _ _ hm
  have hw4 : ∀ z ∈ d4.weights Try.prog 38, z ≤ reachBytes := fun z hz => by simpa using List.all_eq_true.1 hsz z (DataW.weights_mem_each (j := 4) rfl rfl z hz)
  obtain ⟨c4, rfl, -⟩ := okWide_struct Try.underlying38 (hval 4 38 v4 rfl rfl)
  obtain ⟨fuel4, hf4⟩ := h4
  obtain ⟨x4, g4⟩ : ∃ x, RVal Great 0 W (RMsg Great 0 W fuel4) c4.toList x := open_val (fun m _ => open_msg m) hf4 hw4
  have k5 := h5
  have lt5 : ∀ x ∈ p5, x.block < W.heap.size := by obtain ⟨m, hm⟩ := k5; exact DataW.trod_lt m _ _ _ hm
  have hw5 : ∀ z ∈ d5.weights Try.prog 38, z ≤ reachBytes := fun z hz => by simpa using List.all_eq_true.1 hsz z (DataW.weights_mem_each (j := 5) rfl rfl z hz)
  obtain ⟨c5, rfl, -⟩ := okWide_struct Try.underlying38 (hval 5 38 v5 rfl rfl)
  obtain ⟨fuel5, hf5⟩ := h5
  obtain ⟨x5, g5⟩ : ∃ x, RVal Great 0 W (RMsg Great 0 W fuel5) c5.toList x := open_val (fun m _ => open_msg m) hf5 hw5
  clear hA0 hval0 hsz0 hsz
  refine (walk (fuel0 + fuel1 + fuel3 + fuel4 + fuel5) W c0.toList x0 (RMsg.keep (Nat.le_refl _) (Keeps.refl _ _) _ _ (by omega) g0) c1.toList x1 (RMsg.keep (Nat.le_refl _) (Keeps.refl _ _) _ _ (by omega) g1) a2 (int_wf w2) c3.toList x3 (g3.keep (Nat.le_refl _) (by omega) (Keeps.refl _ _)) c4.toList x4 (g4.keep (Nat.le_refl _) (by omega) (Keeps.refl _ _)) c5.toList x5 (g5.keep (Nat.le_refl _) (by omega) (Keeps.refl _ _))).mono fun e W' ⟨he, bel⟩ => ?_
  subst he
  exact ⟨_, rfl, _, _, _, [], _, [], hW', trodAll_mk1 (shut_bool Try.underlying4 _), (trodAll_cons_mk (Below.trod laidOut (by kernel_rfl) (of_decide_eq_true (by kernel_rfl)) k0 bel lt0) (trodAll_cons_mk (Below.trod laidOut (by kernel_rfl) (of_decide_eq_true (by kernel_rfl)) k1 bel lt1) (trodAll_cons_mk (shut_int Try.underlying3 w2) (trodAll_cons_mk (Below.trod laidOut (by kernel_rfl) (of_decide_eq_true (by kernel_rfl)) k3 bel lt3) (trodAll_cons_mk (Below.trod laidOut (by kernel_rfl) (of_decide_eq_true (by kernel_rfl)) k4 bel lt4) (trodAll_cons_mk (Below.trod laidOut (by kernel_rfl) (of_decide_eq_true (by kernel_rfl)) k5 bel lt5) trodAll_mk0)))))), rfl, bel.frame _, fun h => by cases h⟩

theorem over : Rows.valueTellsRow.holds Try.pinned (OpenSpec.ofChange Rows.valueTellsSpec) :=
  OpenClaim.holds_of_wide 8 Try.f8 rfl rfl rfl rfl rfl rfl rfl ⟨rfl, rfl, rfl, rfl, rfl⟩ rfl rfl rfl rfl rfl (by kernel_rfl) Try.func8 (by kernel_rfl)
    (of_decide_eq_true (by kernel_rfl)) (by unfold Func.isWrapper; first | (rw [if_pos (by decide +kernel)]; kernel_rfl) | (rw [if_neg (by decide +kernel)]; exact ⟨rfl, rfl⟩))
    (fun os started H enc _ => lifted os started H enc)

/-- THE STATEMENT -/
theorem proved : Rows.ValueTellsSaid := over
#print axioms proved
end Go.Proofs.Ytogcnodgpgiacaa.valueTells
