/- The statement ValueTwo: for every message and two slots that are not too great, slots of two numbers are set in either order, and of one number the last one stands; no condition. -/
import Derived.Test.YtogcnodgpgiacaaRows
import Derived.WalkKit
import Derived.ProofKit
import Derived.OpenShut
import Derived.ShutString
import Derived.ChangeOld
import Derived.Below
import Derived.SizedLaws
import Derived.ChangeSlices
import Derived.Test.YtogcnodgpgiacaaFew9
import Derived.Test.YtogcnodgpgiacaaRise9
namespace Go.Proofs.Ytogcnodgpgiacaa.valueTwo
open Go.ChangeShapes Go.WideShapes Go.ChangeAt Go.RowKit Go.Tr Go.Proofs.Ytogcnodgpgiacaa
open Go.ChangeMaps (open_string shut_string)
set_option linter.unusedVariables false
set_option linter.unusedSimpArgs false

theorem own : ownKnob Try.prog.godebug = none := by kernel_rfl
theorem laidOut : laidOutB Try.prog = true := by kernel_rfl
theorem keep7 {w w' : World} {p0 p1 p2 p3 p4 p5 p6 : Addr} {v0 v1 v2 v3 v4 v5 v6 : Value} {K : Nat} (b : Below K w w') (hK : K = w.heap.size) (h : w.cell? p0 = some v0 ∧ w.cell? p1 = some v1 ∧ w.cell? p2 = some v2 ∧ w.cell? p3 = some v3 ∧ w.cell? p4 = some v4 ∧ w.cell? p5 = some v5 ∧ w.cell? p6 = some v6) :
    w'.cell? p0 = some v0 ∧ w'.cell? p1 = some v1 ∧ w'.cell? p2 = some v2 ∧ w'.cell? p3 = some v3 ∧ w'.cell? p4 = some v4 ∧ w'.cell? p5 = some v5 ∧ w'.cell? p6 = some v6 := by
  subst hK
  obtain ⟨h0, h1, h2, h3, h4, h5, h6⟩ := h
  exact ⟨(b.cell (block_lt_of_cell h0)).trans h0, (b.cell (block_lt_of_cell h1)).trans h1, (b.cell (block_lt_of_cell h2)).trans h2, (b.cell (block_lt_of_cell h3)).trans h3, (b.cell (block_lt_of_cell h4)).trans h4, (b.cell (block_lt_of_cell h5)).trans h5, (b.cell (block_lt_of_cell h6)).trans h6⟩
theorem keep7set {w : World} {A K : Nat} {v : Value} {v0 v1 v2 v3 v4 v5 v6 : Value} (hlt : A + 2 < K) (h : w.cell? ⟨A, 0, none⟩ = some v0 ∧ w.cell? ⟨A + 1, 0, none⟩ = some v1 ∧ w.cell? ⟨A + 1, 1, none⟩ = some v2 ∧ w.cell? ⟨A + 1, 2, none⟩ = some v3 ∧ w.cell? ⟨A + 2, 0, none⟩ = some v4 ∧ w.cell? ⟨A + 2, 1, none⟩ = some v5 ∧ w.cell? ⟨A + 2, 2, none⟩ = some v6) :
    (w.setCell ⟨K, 0, none⟩ v).cell? ⟨A, 0, none⟩ = some v0 ∧ (w.setCell ⟨K, 0, none⟩ v).cell? ⟨A + 1, 0, none⟩ = some v1 ∧ (w.setCell ⟨K, 0, none⟩ v).cell? ⟨A + 1, 1, none⟩ = some v2 ∧ (w.setCell ⟨K, 0, none⟩ v).cell? ⟨A + 1, 2, none⟩ = some v3 ∧ (w.setCell ⟨K, 0, none⟩ v).cell? ⟨A + 2, 0, none⟩ = some v4 ∧ (w.setCell ⟨K, 0, none⟩ v).cell? ⟨A + 2, 1, none⟩ = some v5 ∧ (w.setCell ⟨K, 0, none⟩ v).cell? ⟨A + 2, 2, none⟩ = some v6 := by
  obtain ⟨h0, h1, h2, h3, h4, h5, h6⟩ := h
  refine ⟨?_, ?_, ?_, ?_, ?_, ?_, ?_⟩
  all_goals (rw [World.cell?_setCell_other _ _ _ _ (fun e => by simp at e <;> omega)]; assumption)
/-- What the cell of one set message holds, at the end of its region. -/
def Out2 (n : Nat) (w2 : World) (m : Msg) (o : Value) (wc : World) : Prop :=
  ∃ K a cap, o = .pointer (some ⟨K, 0, none⟩) ∧ Hid (Box1 K wc (.slice a m.f.length cap)) ∧ Hid (Below w2.heap.size w2 wc) ∧ Hid (RMsg 10000 0 wc (n + 1) [.slice a m.f.length cap] m)
theorem out_old {n : Nat} {w2 y : World} {m : Msg} {K B cap : Nat} {a : Option Addr} {u : Value} (hc : y.cell? ⟨K, 0, none⟩ = some u) (hK : w2.heap.size ≤ K) (hB : K < B) (D : Below w2.heap.size w2 y) (r : RMsg 10000 B y (n + 1) [.slice a m.f.length cap] m) :
    Out2 n w2 m (.pointer (some ⟨K, 0, none⟩)) (y.setCell ⟨K, 0, none⟩ (.slice a m.f.length cap)) := by
  refine ⟨K, a, cap, rfl, ⟨?_, World.cell?_setCell_same _ _ _ hc⟩, D.setCell (p := ⟨K, 0, none⟩) hK _, RMsg.keep (Nat.zero_le _) ?_ _ _ (Nat.le_refl _) r⟩
  · have := block_lt_of_cell hc; simpa using this
  · exact fun p v hp hv => (World.cell?_setCell_other _ _ _ _ (fun e => by subst e; simp only at hp; omega)).trans hv
theorem out_new {n : Nat} {w2 y : World} {m : Msg} {B cap : Nat} {a : Option Addr} {t : TypeId} (D : Below w2.heap.size w2 y) (r : RMsg 10000 B y (n + 1) [.slice a m.f.length cap] m) :
    Out2 n w2 m (.pointer (some ⟨y.heap.size, 0, none⟩)) (y.alloc (.cells #[.slice a m.f.length cap] t)) :=
  ⟨y.heap.size, a, cap, rfl, Box1.new _ _ _, D.nx (al1 _ _), RMsg.keep (Nat.zero_le _) (.of_below (al1 _ _)) _ _ (Nat.le_refl _) r⟩
theorem keep9 {w w' : World} {q0 q1 p0 p1 p2 p3 p4 p5 p6 : Addr} {u0 u1 v0 v1 v2 v3 v4 v5 v6 : Value} {K : Nat} (b : Below K w w') (hK : K = w.heap.size) (h : w.cell? q0 = some u0 ∧ w.cell? q1 = some u1 ∧ w.cell? p0 = some v0 ∧ w.cell? p1 = some v1 ∧ w.cell? p2 = some v2 ∧ w.cell? p3 = some v3 ∧ w.cell? p4 = some v4 ∧ w.cell? p5 = some v5 ∧ w.cell? p6 = some v6) :
    w'.cell? q0 = some u0 ∧ w'.cell? q1 = some u1 ∧ w'.cell? p0 = some v0 ∧ w'.cell? p1 = some v1 ∧ w'.cell? p2 = some v2 ∧ w'.cell? p3 = some v3 ∧ w'.cell? p4 = some v4 ∧ w'.cell? p5 = some v5 ∧ w'.cell? p6 = some v6 :=
  have b' : Below w.heap.size w w' := by rw [← hK]; exact b
  ⟨(b'.cell (block_lt_of_cell h.1)).trans h.1, (b'.cell (block_lt_of_cell h.2.1)).trans h.2.1, keep7 b hK h.2.2⟩
theorem same_one {n : Nat} (w : World) (a a' : Option Addr) (cap cap' : Nat) (m : Msg) (r : RMsg 10000 0 w (n + 1) [.slice a m.f.length cap] m) (r' : RMsg 10000 0 w (n + 1) [.slice a' m.f.length cap'] m) :
    Calls Try.prog 15 #[.agg #[.slice a m.f.length cap], .agg #[.slice a' m.f.length cap']] w fun e w' => e = .returned (.bool true) ∧ Below w.heap.size w w' :=
  (value_same 10000 0 (by unfold maxLen; omega) (n + 1) w [_] [_] m m r r').mono (by rintro e w' ⟨rfl, b⟩; exact ⟨by rw [same_yes rfl], b⟩)
/-! THE WALK -/
set_option maxHeartbeats 8000000 in
set_option maxRecDepth 100000 in
theorem walk (n : Nat) (w : World) (cs0 : List Value) (x0 : Msg) (h0 : RMsg Great 0 w n cs0 x0) (cs1 : List Value) (x1 : Slot) (h1 : RSlot Great 0 w (RMsg Great 0 w n) cs1 x1) (cs2 : List Value) (x2 : Slot) (h2 : RSlot Great 0 w (RMsg Great 0 w n) cs2 x2) :
    Calls Try.prog 6 #[.agg cs0.toArray, .agg cs1.toArray, .agg cs2.toArray] w fun e w' => e = .returned (.bool true) ∧ Below w.heap.size w w' := by
  have HA := Lib.hid fun w' => Go.Proofs.Ytogcnodgpgiacaa.awake w'
  have H0 := Lib.hid (RMsg.keep (Nat.le_refl 0) (Keeps.refl 0 w) n (n + 1) (by omega) h0)
  have H1 := Lib.hid h1
  have H2 := Lib.hid h2
  obtain ⟨v0, rfl, o0⟩ := rmsg_one Great 0 n w _ _ h0
  obtain ⟨a0, cap0, rfl⟩ := rmsg_slice H0.out
  obtain ⟨c, d, rfl, hn1, hn2, r1, r2⟩ := h1
  obtain ⟨a1, cap1, rfl, -⟩ := r1
  obtain ⟨a2, cap2, rfl, -⟩ := r2
  obtain ⟨c, d, rfl, hn3, hn4, r1, r2⟩ := h2
  obtain ⟨a3, cap3, rfl, -⟩ := r1
  obtain ⟨a4, cap4, rfl, -⟩ := r2
  clear h0 o0
  go_enter Try.func6, Try.ntmps6
  go_wp2_with fail
  refine (HA.out _).mono ?_; rintro e w1 ⟨rfl, b1⟩
  have Q0 : Hid (Box1 w.heap.size w1 (.slice a0 x0.f.length cap0)) := (((Box1.new w _ 24).below (al1 _ _)).below (al1 _ _)).below b1
  have Q1 : Hid (Box3 (w.heap.size + 1) w1 (.int .i64 x1.no) (.slice a1 x1.k.length cap1) (.slice a2 x1.v.length cap2)) := by
    have h := ((Box3.new (w.alloc (.cells #[.slice a0 x0.f.length cap0] 24)) (.int .i64 x1.no) (.slice a1 x1.k.length cap1) (.slice a2 x1.v.length cap2) 27).below (al1 _ _)).below b1
    rw [show (w.alloc (.cells #[.slice a0 x0.f.length cap0] 24)).heap.size = w.heap.size + 1 by simp] at h
    exact h
  have Q2 : Hid (Box3 (w.heap.size + 2) w1 (.int .i64 x2.no) (.slice a3 x2.k.length cap3) (.slice a4 x2.v.length cap4)) := by
    have h := (Box3.new ((w.alloc (.cells #[.slice a0 x0.f.length cap0] 24)).alloc (.cells #[.int .i64 x1.no, .slice a1 x1.k.length cap1, .slice a2 x1.v.length cap2] 27)) (.int .i64 x2.no) (.slice a3 x2.k.length cap3) (.slice a4 x2.v.length cap4) 27).below b1
    rw [show ((w.alloc (.cells #[.slice a0 x0.f.length cap0] 24)).alloc (.cells #[.int .i64 x1.no, .slice a1 x1.k.length cap1, .slice a2 x1.v.length cap2] 27)).heap.size = w.heap.size + 2 by simp] at h
    exact h
  have B1 := Lib.hid ((((al1 _ _).nx (al1 _ _)).nx (al1 _ _)).nx b1)
  clear b1
  obtain ⟨l0, s0⟩ := Q0.out
  obtain ⟨l1, t0, t1, t2⟩ := Q1.out
  obtain ⟨l2, u0, u1, u2⟩ := Q2.out
  go_wp2_with fail
  refine (law_few Great (n + 1) (by decide) _ _ _ (few_args2 B1.out H0.out H1.out H2.out (by decide))).mono ?_; rintro e w2 ⟨⟨b, rfl, hb⟩, b2⟩
  have R0 : Hid (Box1 w.heap.size w2 _) := ((Q0.out.below (al1 _ _)).below (al1 _ _)).below b2
  have R1 : Hid (Box3 (w.heap.size + 1) w2 _ _ _) := ((Q1.out.below (al1 _ _)).below (al1 _ _)).below b2
  have R2 : Hid (Box3 (w.heap.size + 2) w2 _ _ _) := ((Q2.out.below (al1 _ _)).below (al1 _ _)).below b2
  have B2 := Lib.hid (B1.out.nx (((al1 _ _).nx (al1 _ _)).nx b2))
  clear b2 l0 s0 l1 t0 t1 t2 l2 u0 u1 u2 Q0 Q1 Q2 B1
  obtain ⟨l0, s0⟩ := R0.out
  obtain ⟨l1, t0, t1, t2⟩ := R1.out
  obtain ⟨l2, u0, u1, u2⟩ := R2.out
  cases b with
  | false =>
    go_wp2_with fail
    exact ⟨rfl, _, results_tmp (t := 6) rfl _ _ _, rfl, B2.out⟩
  | true =>
    have hl0 := hb rfl x0 (by simp)
    have hl1 := hb rfl (.mk [x1, x2]) (by simp)
    clear hb
    have hm0 := size_le_weight hl0
    have M0 := Lib.hid (H0.out.shrink (L' := 10000) (n + 1) (by have := hl0.1; omega))
    have M1 := Lib.hid (RSlot.shrinkIn (L' := 10000) (m := .mk [x1, x2]) H1.out (by simp [Msg.f]) (by have := hl1.1; omega))
    have M2 := Lib.hid (RSlot.shrinkIn (L' := 10000) (m := .mk [x1, x2]) H2.out (by simp [Msg.f]) (by have := hl1.1; omega))
    clear hl0 hl1 H0 H1 H2
    have MA : Hid (∀ w' (hb : Below w2.heap.size w2 w'), Calls Try.prog 12 #[.agg #[.slice a0 x0.f.length cap0], .agg #[.int .i64 x1.no, .slice a1 x1.k.length cap1, .slice a2 x1.v.length cap2]] w' (SetOut n (setSlot x0 x1) w')) :=
      fun w' hb => set_out n w' _ _ _ _ x0 x1 (RMsg.below (B2.out.nx hb) (n + 1) M0.out) (M1.out.below (B2.out.nx hb)) (by omega)
    have MB : Hid (∀ w' (hb : Below w2.heap.size w2 w'), Calls Try.prog 12 #[.agg #[.slice a0 x0.f.length cap0], .agg #[.int .i64 x2.no, .slice a3 x2.k.length cap3, .slice a4 x2.v.length cap4]] w' (SetOut n (setSlot x0 x2) w')) :=
      fun w' hb => set_out n w' _ _ _ _ x0 x2 (RMsg.below (B2.out.nx hb) (n + 1) M0.out) (M2.out.below (B2.out.nx hb)) (by omega)
    have MAB : Hid (∀ w' a cap (hb : Below w2.heap.size w2 w'), RMsg 10000 0 w' (n + 1) [.slice a (setSlot x0 x1).f.length cap] (setSlot x0 x1) → Calls Try.prog 12 #[.agg #[.slice a (setSlot x0 x1).f.length cap], .agg #[.int .i64 x2.no, .slice a3 x2.k.length cap3, .slice a4 x2.v.length cap4]] w' (SetOut n (setSlot (setSlot x0 x1) x2) w')) :=
      fun w' a cap hb r => set_out n w' _ _ _ _ (setSlot x0 x1) x2 r (M2.out.below (B2.out.nx hb)) (by have := set_len x0 x1; omega)
    have MBA : Hid (∀ w' a cap (hb : Below w2.heap.size w2 w'), RMsg 10000 0 w' (n + 1) [.slice a (setSlot x0 x2).f.length cap] (setSlot x0 x2) → Calls Try.prog 12 #[.agg #[.slice a (setSlot x0 x2).f.length cap], .agg #[.int .i64 x1.no, .slice a1 x1.k.length cap1, .slice a2 x1.v.length cap2]] w' (SetOut n (setSlot (setSlot x0 x2) x1) w')) :=
      fun w' a cap hb r => set_out n w' _ _ _ _ (setSlot x0 x2) x1 r (M1.out.below (B2.out.nx hb)) (by have := set_len x0 x2; omega)
    have HOV := Lib.hid (fun h => set_over x0 x1 x2 h)
    have HVO := Lib.hid (fun h => set_over x0 x2 x1 h)
    have HSS := Lib.hid (fun h hn => set_set x0 x1 x2 h hn)
    generalize setSlot (setSlot x0 x1) x2 = mab at MAB HOV HSS
    generalize setSlot (setSlot x0 x2) x1 = mba at MBA HVO HSS
    generalize setSlot x0 x1 = ma at MA MAB HVO
    generalize setSlot x0 x2 = mb at MB MBA HOV
    go_upto_region 5 with fail
    go_cut [9] from 26 to 30 (fun o wc => Out2 n w2 mab o wc)
    case first =>
      have hs0 := And.intro s0 (And.intro t0 (And.intro t1 (And.intro t2 (And.intro u0 (And.intro u1 u2)))))
      have hk := hs0
      go_region_held3 (fun w' => w'.cell? ⟨w.heap.size, 0, none⟩ = some (.slice a0 x0.f.length cap0) ∧ w'.cell? ⟨w.heap.size + 1, 0, none⟩ = some (.int .i64 x1.no) ∧ w'.cell? ⟨w.heap.size + 1, 1, none⟩ = some (.slice a1 x1.k.length cap1) ∧ w'.cell? ⟨w.heap.size + 1, 2, none⟩ = some (.slice a2 x1.v.length cap2) ∧ w'.cell? ⟨w.heap.size + 2, 0, none⟩ = some (.int .i64 x2.no) ∧ w'.cell? ⟨w.heap.size + 2, 1, none⟩ = some (.slice a3 x2.k.length cap3) ∧ w'.cell? ⟨w.heap.size + 2, 2, none⟩ = some (.slice a4 x2.v.length cap4))
        (first
          | exact hk
          | exact keep7 (al1 _ _) rfl hk
          | exact keep7 (al1 _ _).drew rfl hk
          | ((with_reducible refine keep7set ?_ hk); omega)
          | ((with_reducible refine keep7set ?_ (keep7 (al1 _ _) rfl hk)); omega)
          | (go_keep; done))
        (first
          | (go_at_call 12; (with_reducible refine (MA.out _ ?_).mono ?_); (exact (Below.refl _ _).drew); rintro e y1 ⟨a5, cap5, rfl, r5, g1⟩; (have D1 := Lib.hid ((Below.refl w2.heap.size w2).drew.nx g1)); (have R5 := Lib.hid (RMsg.keep (Nat.zero_le _) (Keeps.refl _ _) _ _ (Nat.le_refl _) r5)); (have KB := Lib.hid (Kept.none ⟨w2.heap.size, 0, none⟩ y1)); clear hk; (have hk := keep7 D1.out rfl hs0); (have z1 := D1.out.size); clear g1 r5)
          | (go_at_call 12; (with_reducible refine (MA.out _ ?_).mono ?_); (exact (al1 w2 _).drew); rintro e y1 ⟨a5, cap5, rfl, r5, g1⟩; (have D1 := Lib.hid ((al1 w2 _).drew.nx g1)); (have R5 := Lib.hid (RMsg.keep (Nat.zero_le _) (Keeps.refl _ _) _ _ (Nat.le_refl _) r5)); (have KB := Lib.hid ((Kept.new w2 _ _).below ((Below.refl _ _).drew.nx g1))); clear hk; (have hk := keep7 D1.out rfl hs0); (have z1 := g1.size); clear g1 r5)
          | (go_at_call 12; (with_reducible refine (MA.out _ ?_).mono ?_); (exact (Below.refl _ _).drew.alloc (Nat.le_refl _) _); rintro e y1 ⟨a5, cap5, rfl, r5, g1⟩; (have D1 := Lib.hid (((Below.refl w2.heap.size w2).drew.alloc (Nat.le_refl _) _).nx g1)); (have R5 := Lib.hid (RMsg.keep (Nat.zero_le _) (Keeps.refl _ _) _ _ (Nat.le_refl _) r5)); (have KB := Lib.hid ((Kept.new w2.drew _ _).below g1)); clear hk; (have hk := keep7 D1.out rfl hs0); (have z1 := g1.size); clear g1 r5)
          | (go_at_call 12; (guard_hyp KB : Hid (Kept ⟨w2.heap.size, 0, none⟩ y1 (some (Value.slice none 0 0)))); (with_reducible refine (MAB.out _ _ _ ?_ R5.out).mono ?_); (exact D1.out); rintro e y2 ⟨a6, cap6, rfl, r6, g2⟩; (have D2 := Lib.hid (D1.out.nx g2)); (have R6 := Lib.hid r6); (obtain ⟨kc2, kf2⟩ := Kept.get (Kept.below KB.out g2)); clear hk; (have hk := keep7 D2.out rfl hs0); (have z2 := g2.size); clear g2 r6)
          | (go_at_call 12; (with_reducible refine (MAB.out _ _ _ ?_ R5.out).mono ?_); (exact D1.out); rintro e y2 ⟨a6, cap6, rfl, r6, g2⟩; (have D2 := Lib.hid (D1.out.nx g2)); (have R6 := Lib.hid r6); clear hk; (have hk := keep7 D2.out rfl hs0); (have z2 := g2.size); clear g2 r6)
          | (go_at_call 12; (with_reducible refine (MAB.out _ _ _ ?_ (RMsg.below (al1 _ _) (n + 1) R5.out)).mono ?_); (exact D1.out.nx (al1 _ _)); rintro e y2 ⟨a6, cap6, rfl, r6, g2⟩; (have D2 := Lib.hid ((D1.out.nx (al1 _ _)).nx g2)); (have R6 := Lib.hid r6); (obtain ⟨kc2, kf2⟩ := Kept.fresh y1 _ _ g2); clear hk; (have hk := keep7 D2.out rfl hs0); (have z2 := g2.size); clear g2 r6))
      all_goals (go_wp2_with fail; go_meet)
      all_goals (first
        | exact out_new D2.out R6.out
        | exact out_old kc2 z1 (by simp) D2.out R6.out
        | exact out_old kc2 (Nat.le_refl _) (by have h : (w2.alloc (.cells #[.slice none 0 0] 24)).heap.size ≤ y1.heap.size := z1; simp at h; omega) D2.out R6.out)
    case rest =>
      obtain ⟨K9, a9, cap9, rfl, bx9, b23, m9⟩ := hcut
      obtain ⟨hK9, x9⟩ := bx9.out
      have P0 : Hid (Box1 w.heap.size wc _) := R0.out.below b23.out
      have P1 : Hid (Box3 (w.heap.size + 1) wc _ _ _) := R1.out.below b23.out
      have P2 : Hid (Box3 (w.heap.size + 2) wc _ _ _) := R2.out.below b23.out
      have MB1 := Lib.hid (fun w' (hb : Below wc.heap.size wc w') => MB.out w' (b23.out.nx hb))
      have MBA1 := Lib.hid (fun w' a cap (hb : Below wc.heap.size wc w') r => MBA.out w' a cap (b23.out.nx hb) r)
      clear l0 s0 l1 t0 t1 t2 l2 u0 u1 u2 R0 R1 R2 MAB MBA
      obtain ⟨l0, s0⟩ := P0.out
      obtain ⟨l1, t0, t1, t2⟩ := P1.out
      obtain ⟨l2, u0, u1, u2⟩ := P2.out
      go_upto_region 6 with fail
      go_cut [10] from 31 to 35 (fun o wd => Out2 n wc mba o wd)
      case first =>
        have hs0 := And.intro s0 (And.intro t0 (And.intro t1 (And.intro t2 (And.intro u0 (And.intro u1 u2)))))
        have hk := hs0
        go_region_held3 (fun w' => w'.cell? ⟨w.heap.size, 0, none⟩ = some (.slice a0 x0.f.length cap0) ∧ w'.cell? ⟨w.heap.size + 1, 0, none⟩ = some (.int .i64 x1.no) ∧ w'.cell? ⟨w.heap.size + 1, 1, none⟩ = some (.slice a1 x1.k.length cap1) ∧ w'.cell? ⟨w.heap.size + 1, 2, none⟩ = some (.slice a2 x1.v.length cap2) ∧ w'.cell? ⟨w.heap.size + 2, 0, none⟩ = some (.int .i64 x2.no) ∧ w'.cell? ⟨w.heap.size + 2, 1, none⟩ = some (.slice a3 x2.k.length cap3) ∧ w'.cell? ⟨w.heap.size + 2, 2, none⟩ = some (.slice a4 x2.v.length cap4))
          (first
            | exact hk
            | exact keep7 (al1 _ _) rfl hk
            | exact keep7 (al1 _ _).drew rfl hk
            | ((with_reducible refine keep7set ?_ hk); omega)
            | ((with_reducible refine keep7set ?_ (keep7 (al1 _ _) rfl hk)); omega)
            | (go_keep; done))
          (first
            | (go_at_call 12; (with_reducible refine (MB1.out _ ?_).mono ?_); (exact (Below.refl _ _).drew); rintro e y1 ⟨a5, cap5, rfl, r5, g1⟩; (have D1 := Lib.hid ((Below.refl wc.heap.size wc).drew.nx g1)); (have R5 := Lib.hid (RMsg.keep (Nat.zero_le _) (Keeps.refl _ _) _ _ (Nat.le_refl _) r5)); (have KB := Lib.hid (Kept.none ⟨wc.heap.size, 0, none⟩ y1)); clear hk; (have hk := keep7 D1.out rfl hs0); (have z1 := D1.out.size); clear g1 r5)
            | (go_at_call 12; (with_reducible refine (MB1.out _ ?_).mono ?_); (exact (al1 wc _).drew); rintro e y1 ⟨a5, cap5, rfl, r5, g1⟩; (have D1 := Lib.hid ((al1 wc _).drew.nx g1)); (have R5 := Lib.hid (RMsg.keep (Nat.zero_le _) (Keeps.refl _ _) _ _ (Nat.le_refl _) r5)); (have KB := Lib.hid ((Kept.new wc _ _).below ((Below.refl _ _).drew.nx g1))); clear hk; (have hk := keep7 D1.out rfl hs0); (have z1 := g1.size); clear g1 r5)
            | (go_at_call 12; (with_reducible refine (MB1.out _ ?_).mono ?_); (exact (Below.refl _ _).drew.alloc (Nat.le_refl _) _); rintro e y1 ⟨a5, cap5, rfl, r5, g1⟩; (have D1 := Lib.hid (((Below.refl wc.heap.size wc).drew.alloc (Nat.le_refl _) _).nx g1)); (have R5 := Lib.hid (RMsg.keep (Nat.zero_le _) (Keeps.refl _ _) _ _ (Nat.le_refl _) r5)); (have KB := Lib.hid ((Kept.new wc.drew _ _).below g1)); clear hk; (have hk := keep7 D1.out rfl hs0); (have z1 := g1.size); clear g1 r5)
            | (go_at_call 12; (guard_hyp KB : Hid (Kept ⟨wc.heap.size, 0, none⟩ y1 (some (Value.slice none 0 0)))); (with_reducible refine (MBA1.out _ _ _ ?_ R5.out).mono ?_); (exact D1.out); rintro e y2 ⟨a6, cap6, rfl, r6, g2⟩; (have D2 := Lib.hid (D1.out.nx g2)); (have R6 := Lib.hid r6); (obtain ⟨kc2, kf2⟩ := Kept.get (Kept.below KB.out g2)); clear hk; (have hk := keep7 D2.out rfl hs0); (have z2 := g2.size); clear g2 r6)
            | (go_at_call 12; (with_reducible refine (MBA1.out _ _ _ ?_ R5.out).mono ?_); (exact D1.out); rintro e y2 ⟨a6, cap6, rfl, r6, g2⟩; (have D2 := Lib.hid (D1.out.nx g2)); (have R6 := Lib.hid r6); clear hk; (have hk := keep7 D2.out rfl hs0); (have z2 := g2.size); clear g2 r6)
            | (go_at_call 12; (with_reducible refine (MBA1.out _ _ _ ?_ (RMsg.below (al1 _ _) (n + 1) R5.out)).mono ?_); (exact D1.out.nx (al1 _ _)); rintro e y2 ⟨a6, cap6, rfl, r6, g2⟩; (have D2 := Lib.hid ((D1.out.nx (al1 _ _)).nx g2)); (have R6 := Lib.hid r6); (obtain ⟨kc2, kf2⟩ := Kept.fresh y1 _ _ g2); clear hk; (have hk := keep7 D2.out rfl hs0); (have z2 := g2.size); clear g2 r6))
        all_goals (go_wp2_with fail; go_meet)
        all_goals (first
          | exact out_new D2.out R6.out
          | exact out_old kc2 z1 (by simp) D2.out R6.out
          | exact out_old kc2 (Nat.le_refl _) (by have h : (wc.alloc (.cells #[.slice none 0 0] 24)).heap.size ≤ y1.heap.size := z1; simp at h; omega) D2.out R6.out)
      case rest =>
        obtain ⟨K10, a10, cap10, rfl, bx10, b34, m10⟩ := hcut
        obtain ⟨hK10, x10⟩ := bx10.out
        have V0 : Hid (Box1 w.heap.size wc _) := P0.out.below b34.out
        have V1 : Hid (Box3 (w.heap.size + 1) wc _ _ _) := P1.out.below b34.out
        have V2 : Hid (Box3 (w.heap.size + 2) wc _ _ _) := P2.out.below b34.out
        have V9 : Hid (Box1 K9 wc _) := bx9.out.below b34.out
        have B24 := Lib.hid (b23.out.nx b34.out)
        have M9 := Lib.hid (RMsg.below b34.out (n + 1) m9.out)
        clear l0 s0 l1 t0 t1 t2 l2 u0 u1 u2 P0 P1 P2 MB1 MBA1 hK9 x9 bx9 m9
        obtain ⟨l0, s0⟩ := V0.out
        obtain ⟨l1, t0, t1, t2⟩ := V1.out
        obtain ⟨l2, u0, u1, u2⟩ := V2.out
        obtain ⟨l9, x9⟩ := V9.out
        by_cases hx : x1.no = x2.no
        · have hq : ((x1.no : Int) == x2.no) = true := by simp [hx]
          have e1 := HOV.out hx
          have e2 := HVO.out hx.symm
          subst e1
          subst e2
          have HQ := Lib.hid hx
          clear hx HSS
          go_wp2_with fail
          have hs0 := And.intro x9 (And.intro x10 (And.intro s0 (And.intro t0 (And.intro t1 (And.intro t2 (And.intro u0 (And.intro u1 u2)))))))
          have hk := hs0
          go_region_held3 (fun w' => w'.cell? ⟨K9, 0, none⟩ = some (.slice a9 mab.f.length cap9) ∧ w'.cell? ⟨K10, 0, none⟩ = some (.slice a10 mba.f.length cap10) ∧ w'.cell? ⟨w.heap.size, 0, none⟩ = some (.slice a0 x0.f.length cap0) ∧ w'.cell? ⟨w.heap.size + 1, 0, none⟩ = some (.int .i64 x1.no) ∧ w'.cell? ⟨w.heap.size + 1, 1, none⟩ = some (.slice a1 x1.k.length cap1) ∧ w'.cell? ⟨w.heap.size + 1, 2, none⟩ = some (.slice a2 x1.v.length cap2) ∧ w'.cell? ⟨w.heap.size + 2, 0, none⟩ = some (.int .i64 x2.no) ∧ w'.cell? ⟨w.heap.size + 2, 1, none⟩ = some (.slice a3 x2.k.length cap3) ∧ w'.cell? ⟨w.heap.size + 2, 2, none⟩ = some (.slice a4 x2.v.length cap4))
            (first
              | exact hk
              | (go_keep; done))
            (first
              | (go_at_call 12; (with_reducible refine (MB.out _ ?_).mono ?_); (exact B24.out.drew); rintro e y1 ⟨a7, cap7, rfl, r7, g1⟩; (have D1 := Lib.hid ((Below.refl wc.heap.size wc).drew.nx g1)); (have R7 := Lib.hid (RMsg.keep (Nat.zero_le _) (Keeps.refl _ _) _ _ (Nat.le_refl _) r7)); clear hk; (have hk := keep9 D1.out rfl hs0); clear g1 r7)
              | (go_at_call 15; (with_reducible refine (same_one (n := n) _ _ _ _ _ _ ?_ ?_).mono ?_); (exact RMsg.below D1.out (n + 1) M9.out); (exact R7.out); rintro e y2 ⟨rfl, g2⟩; (have D2 := Lib.hid (D1.out.nx g2)); clear hk; (have hk := keep9 D2.out rfl hs0); clear g2)
              | (go_at_call 12; (with_reducible refine (MA.out _ ?_).mono ?_); (exact B24.out.nx D2.out); rintro e y3 ⟨a8, cap8, rfl, r8, g3⟩; (have D3 := Lib.hid (D2.out.nx g3)); (have R8 := Lib.hid (RMsg.keep (Nat.zero_le _) (Keeps.refl _ _) _ _ (Nat.le_refl _) r8)); clear hk; (have hk := keep9 D3.out rfl hs0); clear g3 r8)
              | (go_at_call 15; (with_reducible refine (same_one (n := n) _ _ _ _ _ _ ?_ ?_).mono ?_); (exact RMsg.below D3.out (n + 1) m10.out); (exact R8.out); rintro e y4 ⟨rfl, g4⟩; (have D4 := Lib.hid (D3.out.nx g4)); clear hk; (have hk := keep9 D4.out rfl hs0); clear g4))
          all_goals (
            go_wp2
            exact ⟨rfl, _, results_tmp (t := 6) rfl _ _ _, rfl, (B2.out.nx B24.out).nx D4.out⟩)
        · have hq : ((x1.no : Int) == x2.no) = false := by simp [hx]
          have HSS2 := Lib.hid fun h => HSS.out h hx
          clear hx HSS
          go_wp2_with fail
          refine (law_rising 10000 n (by decide) _ [_] x0 (RMsg.below (B2.out.nx B24.out) (n + 1) M0.out)).mono ?_; rintro e w5 ⟨⟨b, rfl, hb⟩, b5⟩
          have W9 : Hid (Box1 K9 w5 _) := V9.out.below b5
          have W10 : Hid (Box1 K10 w5 _) := bx10.out.below b5
          have N9 := Lib.hid (RMsg.below b5 (n + 1) M9.out)
          have N10 := Lib.hid (RMsg.below b5 (n + 1) m10.out)
          have B25 := Lib.hid ((B2.out.nx B24.out).nx b5)
          clear b5 l0 s0 l1 t0 t1 t2 l2 u0 u1 u2 l9 x9 hK10 x10
          cases b with
          | false =>
            go_wp2_with fail
            exact ⟨rfl, _, results_tmp (t := 6) rfl _ _ _, rfl, B25.out⟩
          | true =>
            have e1 := HSS2.out (hb rfl)
            clear hb HSS2
            subst e1
            obtain ⟨l9, x9⟩ := W9.out
            obtain ⟨l10, x10⟩ := W10.out
            go_wp2_with fail
            refine (same_one _ _ _ _ _ _ N9.out N10.out).mono ?_; rintro e w6 ⟨rfl, b6⟩
            go_wp2_with fail
            exact ⟨rfl, _, results_tmp (t := 6) rfl _ _ _, rfl, B25.out.nx b6⟩

/-! THE ROW -/
set_option maxRecDepth 100000 in
theorem lifted (os : Os) (started : os.Started) (H : Type) (enc : TypeId × Value → H) :
    ReturnsInHanded {} Try.checked os 6 .any (Rows.valueTwoSpec.pre6 enc Try.prog Try.f6 Rows.valueTwoRow.domain false) (Rows.valueTwoSpec.post enc Try.prog Try.f6 false true false false) := by
  refine returnsInHanded_of_change_sized (C := Try.checked) own started (by kernel_rfl) Try.func6
    (ChangeSpec.witness6 (enc := enc) (C := Try.checked) false ⟨#[], #[.agg #[.slice none 0 0], .agg #[.int .i64 0, .slice none 0 0, .slice none 0 0], .agg #[.int .i64 0, .slice none 0 0, .slice none 0 0]], []⟩ 8 (by kernel_rfl) (by kernel_rfl) (by kernel_rfl) (by kernel_rfl)) ?_
  intro W base args ds gs before hval0 hW hcnd hsz0 _
  have hsz : (DataW.weightsEach Try.prog (Try.f6.params.toList ++ Rows.valueTwoSpec.plain.varTypes Try.prog) (ds ++ gs)).all (· ≤ reachBytes) = true := hsz0
  have hval : ∀ (j : Nat) t v, Try.f6.params[j]? = some t → args[j]? = some v → Value.okWide Try.prog W .any base t v := hval0
  have hW' := hW
  obtain ⟨p, q, hA0, hV, rfl, hfz, hnd⟩ := hW
  have hA : DataW.TrodAll enc Try.prog W 0 (fun _ => true) true Try.f6.params.toList args.toList ds p := hA0
  rw [Try.params6] at hA hval hsz
  obtain ⟨v0, vs0, d0, ds0, p0, q0, hargs, rfl, rfl, h0, r0⟩ := trodAll_cons hA
  obtain ⟨v1, vs1, d1, ds1, p1, q1, rfl, rfl, rfl, h1, r1⟩ := trodAll_cons r0
  obtain ⟨v2, vs2, d2, ds2, p2, q2, rfl, rfl, rfl, h2, r2⟩ := trodAll_cons r1
  obtain ⟨rfl, rfl, rfl⟩ := trodAll_nil r2
  obtain rfl : args = #[v0, v1, v2] := by cases args; simp_all
  obtain ⟨rfl, rfl⟩ := trodVars_none hV
  have k0 := h0
  have lt0 : ∀ x ∈ p0, x.block < W.heap.size := by obtain ⟨m, hm⟩ := k0; exact DataW.trod_lt m _ _ _ hm
  have hw0 : ∀ z ∈ d0.weights Try.prog 24, z ≤ reachBytes := fun z hz => by simpa using List.all_eq_true.1 hsz z (DataW.weights_mem_each (j := 0) rfl rfl z hz)
  obtain ⟨c0, rfl, -⟩ := okWide_struct Try.underlying24 (hval 0 24 v0 rfl rfl)
  obtain ⟨fuel0, hf0⟩ := h0
  obtain ⟨x0, g0⟩ : ∃ x, RMsg Great 0 W fuel0 c0.toList x := open_msg fuel0 _ _ hf0 hw0
  have k1 := h1
  have lt1 : ∀ x ∈ p1, x.block < W.heap.size := by obtain ⟨m, hm⟩ := k1; exact DataW.trod_lt m _ _ _ hm
  have hw1 : ∀ z ∈ d1.weights Try.prog 27, z ≤ reachBytes := fun z hz => by simpa using List.all_eq_true.1 hsz z (DataW.weights_mem_each (j := 1) rfl rfl z hz)
  obtain ⟨c1, rfl, -⟩ := okWide_struct Try.underlying27 (hval 1 27 v1 rfl rfl)
  obtain ⟨fuel1, hf1⟩ := h1
  obtain ⟨x1, g1⟩ : ∃ x, RSlot Great 0 W (RMsg Great 0 W fuel1) c1.toList x := open_slot (fun m _ => open_msg m) hf1 hw1
  have k2 := h2
  have lt2 : ∀ x ∈ p2, x.block < W.heap.size := by obtain ⟨m, hm⟩ := k2; exact DataW.trod_lt m _ _ _ hm
  have hw2 : ∀ z ∈ d2.weights Try.prog 27, z ≤ reachBytes := fun z hz => by simpa using List.all_eq_true.1 hsz z (DataW.weights_mem_each (j := 2) rfl rfl z hz)
  obtain ⟨c2, rfl, -⟩ := okWide_struct Try.underlying27 (hval 2 27 v2 rfl rfl)
  obtain ⟨fuel2, hf2⟩ := h2
  obtain ⟨x2, g2⟩ : ∃ x, RSlot Great 0 W (RMsg Great 0 W fuel2) c2.toList x := open_slot (fun m _ => open_msg m) hf2 hw2
  clear hA0 hval0 hsz0 hsz
  refine (walk (fuel0 + fuel1 + fuel2) W c0.toList x0 (RMsg.keep (Nat.le_refl _) (Keeps.refl _ _) _ _ (by omega) g0) c1.toList x1 (g1.keep (Nat.le_refl _) (by omega) (Keeps.refl _ _)) c2.toList x2 (g2.keep (Nat.le_refl _) (by omega) (Keeps.refl _ _))).mono fun e W' ⟨he, bel⟩ => ?_
  subst he
  exact ⟨_, rfl, _, _, _, [], _, [], hW', trodAll_mk1 (shut_bool Try.underlying4 _), (trodAll_cons_mk (Below.trod laidOut (by kernel_rfl) (of_decide_eq_true (by kernel_rfl)) k0 bel lt0) (trodAll_cons_mk (Below.trod laidOut (by kernel_rfl) (of_decide_eq_true (by kernel_rfl)) k1 bel lt1) (trodAll_cons_mk (Below.trod laidOut (by kernel_rfl) (of_decide_eq_true (by kernel_rfl)) k2 bel lt2) trodAll_mk0))), rfl, bel.frame _, fun h => by cases h⟩

theorem over : Rows.valueTwoRow.holds Try.pinned (OpenSpec.ofChange Rows.valueTwoSpec) :=
  OpenClaim.holds_of_wide 6 Try.f6 rfl rfl rfl rfl rfl rfl rfl ⟨rfl, rfl, rfl, rfl, rfl⟩ rfl rfl rfl rfl rfl (by kernel_rfl) Try.func6 (by kernel_rfl)
    (of_decide_eq_true (by kernel_rfl)) (by unfold Func.isWrapper; first | (rw [if_pos (by decide +kernel)]; kernel_rfl) | (rw [if_neg (by decide +kernel)]; exact ⟨rfl, rfl⟩))
    (fun os started H enc _ => lifted os started H enc)

/-- THE STATEMENT -/
theorem proved : Rows.ValueTwoSaid := over
#print axioms proved
end Go.Proofs.Ytogcnodgpgiacaa.valueTwo
