/- Contracts of value.Deep and value.Size. -/
import Derived.Test.YthikfifoomfjgaaGreatValues
namespace Go.Tr
def maxTo (l : List Nat) : Nat := l.foldl max 0
theorem foldl_max (l : List Nat) (a : Nat) : l.foldl max a = max a (l.foldl max 0) := by
  induction l generalizing a with
  | nil => simp
  | cons x l ih => rw [List.foldl_cons, List.foldl_cons, ih (max a x), ih (max 0 x)]; omega
theorem foldl_max_app (l r : List Nat) : (l ++ r).foldl max 0 = max (l.foldl max 0) (r.foldl max 0) := by
  rw [List.foldl_append, foldl_max]
/-- The messages of the first i values. -/
def subsTo (l : List Val) (i : Nat) : List Msg := (l.take i).flatMap fun x => x.m
theorem subsTo_next (l : List Val) (i : Nat) (h : i < l.length) : subsTo l (i + 1) = subsTo l i ++ l[i].m := by
  unfold subsTo
  rw [List.take_succ_eq_append_getElem h, List.flatMap_append]
  simp [List.flatMap_cons]
theorem subsTo_end (m : Msg) : subsTo m.vals m.vals.length = m.subs := by
  unfold subsTo Msg.subs; rw [List.take_length]
end Go.Tr
namespace Go.Tr
theorem deep_pos (m : Msg) : 1 ≤ m.deep := by rw [Msg.deep_eq]; omega
theorem foldl_max_mem (l : List Nat) (x : Nat) (h : x ∈ l) : x ≤ l.foldl max 0 := by
  induction l with
  | nil => simp at h
  | cons y l ih =>
    rw [List.foldl_cons, foldl_max]
    rcases List.mem_cons.1 h with rfl | h
    · omega
    · have := ih h; omega
theorem deep_sub {m x : Msg} (h : x ∈ m.subs) : x.deep + 1 ≤ m.deep := by
  rw [Msg.deep_eq m]
  have := foldl_max_mem (m.subs.map Msg.deep) x.deep (List.mem_map_of_mem h)
  omega
/-- How deep are these at most? -/
def most (l : List Msg) : Nat := (l.map Msg.deep).foldl max 0
theorem most_app (l r : List Msg) : most (l ++ r) = max (most l) (most r) := by unfold most; rw [List.map_append, foldl_max_app]
theorem most_one (x : Msg) : most [x] = x.deep := by simp [most]
theorem most_le {l : List Msg} {d : Nat} (h : ∀ x ∈ l, x.deep ≤ d) : most l ≤ d := by
  unfold most
  induction l with
  | nil => simp
  | cons x l ih =>
    rw [List.map_cons, List.foldl_cons, foldl_max]
    have := ih fun y hy => h y (List.mem_cons_of_mem _ hy)
    have := h x List.mem_cons_self
    omega
theorem subsTo_mem {l : List Val} {i : Nat} {x : Msg} (h : x ∈ subsTo l i) : ∃ y ∈ l, x ∈ y.m := by
  unfold subsTo at h
  obtain ⟨y, hy, hx⟩ := List.mem_flatMap.1 h
  exact ⟨y, List.mem_of_mem_take hy, hx⟩
theorem mem_subs {m x : Msg} {y : Val} (hy : y ∈ m.vals) (hx : x ∈ y.m) : x ∈ m.subs := List.mem_flatMap.2 ⟨y, hy, hx⟩
end Go.Tr
namespace Go.Proofs.YthikfifoomfjgaaGreat
open Go.RowKit Go.Tr
set_option linter.unusedVariables false
set_option linter.unusedSimpArgs false
section
attribute [local go_sem] run_store
set_option maxHeartbeats 2000000 in
theorem deep_step (L n : Nat) (hL : L ≤ 1048576) (hm : ∀ w cs m, RMsg L 0 w n cs m → m.deep ≤ 1000000 → Calls Tryz.prog 24 #[.agg cs.toArray] w fun e w' => e = .returned (.int .i64 m.deep) ∧ Below w.heap.size w w')
    (w : World) (cs : List Value) (m : Msg) (hx : RMsg L 0 w (n + 1) cs m) (hd : m.deep ≤ 1000000) :
    Calls Tryz.prog 24 #[.agg cs.toArray] w fun e w' => e = .returned (.int .i64 m.deep) ∧ Below w.heap.size w w' := by
  have HV := Lib.hid fun w' (hb : Below w.heap.size w w') => value_values L n hL w' cs m (RMsg.below hb (n + 1) hx)
  have HM := Lib.hid hm
  clear hm
  obtain ⟨c, rfl, h4⟩ := hx
  obtain ⟨a1, cap1, rfl, -⟩ := h4
  have HD := Lib.hid hd
  go_enter Tryz.func24, Tryz.ntmps24
  go_wp2_with (go_at_call 48; (with_reducible refine (HV.out _ (al1 _ _)).mono ?_); rintro e w1 ⟨v1, rfl, r1, b1⟩; (have R1 := Lib.hid r1); (have B1 := Lib.hid ((al1 _ _).nx b1)); (obtain ⟨a2, cap2, rfl, x0, x1, x2, -, -⟩ := r1); clear b1)
  clear HV
  have hlv : m.vals.length ≤ L * (L + L) := R1.out.len
  have hLL : L * (L + L) ≤ 1048576 * 2097152 := Nat.mul_le_mul (by omega) (by omega)
  unfold maxLen at x2
  go_loopw [3, 11] (fun o i wr => ∃ k : Nat, k ≤ m.vals.length ∧ i = .int .i64 k ∧ o = .int .i64 (most (subsTo m.vals k)) ∧ Hid (Below w1.heap.size w1 wr)) (fun o i _ => m.vals.length - (intOf i).toNat)
  case atStart => exact ⟨0, by omega, rfl, rfl, Below.refl _ _⟩
  case round =>
    obtain ⟨k, hk, rfl, rfl, HB⟩ := hrel
    obtain ⟨wo, rfl⟩ : ∃ wo, wo = wr := ⟨_, rfl⟩
    by_cases hlt : k < m.vals.length
    · obtain ⟨bx, ox, c0, c1, c2, e1, -, m0, m1, m2, n0, n1, n2, rx⟩ := (R1.out.imp (R' := RVal L 0 wo (RMsg L 0 wo n)) HB.out fun _ _ _ h => h.below HB.out).get3 (rval_three L 0 n) k hlt
      cases e1
      have bl := block_lt_of_cell m0
      obtain ⟨c, e, -, -, -, r4⟩ := rx
      cases e
      have R4 := Lib.hid r4
      obtain ⟨a4, cap4, rfl, y0, y1, y2, -, -⟩ := r4
      unfold maxLen at y2
      go_wp2
      go_loopw [3, 18] (fun o j wr2 => ∃ i : Nat, i ≤ m.vals[k].m.length ∧ j = .int .i64 i ∧ o = .int .i64 (most (subsTo m.vals k ++ m.vals[k].m.take i)) ∧ Hid (Below wo.heap.size wo wr2)) (fun o j _ => m.vals[k].m.length - (intOf j).toNat)
      case atStart => exact ⟨0, by omega, rfl, by simp, al1 _ _⟩
      case round =>
        obtain ⟨i, hi, rfl, rfl, HC⟩ := hrel
        by_cases hlt2 : i < m.vals[k].m.length
        · obtain ⟨by', oy, d0, e2, -, p0, z0, ry⟩ := (R4.out.imp (R' := RMsg L 0 wr n) HC.out fun _ _ _ h => RMsg.below HC.out n h).get1 (rmsg_one L 0 n) i hlt2
          cases e2
          have bl2 := block_lt_of_cell p0
          have hmem : m.vals[k].m[i] ∈ m.subs := mem_subs (List.getElem_mem hlt) (List.getElem_mem hlt2)
          have hdp := deep_sub hmem
          have HI := Lib.hid fun w' (hb : Below wr.heap.size wr w') => HM.out w' _ _ (RMsg.below hb n ry) (by omega)
          clear ry hmem
          obtain ⟨q, hq⟩ : ∃ q, q = most (subsTo m.vals k ++ List.take i m.vals[k].m) := ⟨_, rfl⟩
          have HQ := Lib.hid hq
          rw [← hq]
          clear hq
          go_wp2_with (go_at_call 24; (with_reducible refine (HI.out _ (al1 _ _)).mono ?_); rintro e w2 ⟨rfl, b2⟩)
          refine ⟨⟨i + 1, by omega, rfl, ?_, HC.out.nx ((al1 _ _).nx b2)⟩, ?_⟩
          · rw [List.take_succ_eq_append_getElem hlt2, ← List.append_assoc, most_app, most_one, ← HQ.out]
            congr 1
            split <;> omega
          · simp only [intOf, Int.toNat_natCast]
            omega
        · have hil : i = m.vals[k].m.length := by omega
          subst hil
          have HE : subsTo m.vals k ++ List.take m.vals[k].m.length m.vals[k].m = subsTo m.vals (k + 1) := by rw [List.take_length, subsTo_next _ _ hlt]
          rw [HE]
          clear HE
          go_wp2
          refine ⟨⟨k + 1, by omega, rfl, rfl, HB.out.nx HC.out⟩, ?_⟩
          simp only [intOf, Int.toNat_natCast]
          omega
    · have hkl : k = m.vals.length := by omega
      subst hkl
      have hmd : m.deep = most (subsTo m.vals m.vals.length) + 1 := by rw [subsTo_end, Msg.deep_eq m]; rfl
      obtain ⟨q, hq⟩ : ∃ q, q = most (subsTo m.vals m.vals.length) := ⟨_, rfl⟩
      rw [← hq] at hmd ⊢
      have hqd : q + 1 ≤ 1000000 := by omega
      have HMD := Lib.hid hmd
      clear hmd hq
      go_wp2
      exact ⟨rfl, .int .i64 (q + 1), results_tmp (t := 2) rfl _ _ _, by rw [HMD.out]; rfl, B1.out.nx HB.out⟩
/-- value.Deep. -/
theorem value_deep (L : Nat) (hL : L ≤ 1048576) : ∀ (n : Nat) (w : World) (cs : List Value) (m : Msg), RMsg L 0 w n cs m → m.deep ≤ 1000000 →
    Calls Tryz.prog 24 #[.agg cs.toArray] w fun e w' => e = .returned (.int .i64 m.deep) ∧ Below w.heap.size w w'
  | 0, _, _, _, h, _ => h.elim
  | n + 1, w, cs, m, h, hd => deep_step L n hL (value_deep L hL n) w cs m h hd
end
end Go.Proofs.YthikfifoomfjgaaGreat
