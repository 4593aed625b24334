/- Contract of value.Size. -/
import Derived.Test.YthikfifoomfjgaaGreatDeep
namespace Go.Tr
/-- How many values have these? -/
def sizes (l : List Msg) : Nat := (l.map Msg.size).sum
theorem sizes_app (l r : List Msg) : sizes (l ++ r) = sizes l + sizes r := by simp [sizes]
theorem sizes_one (x : Msg) : sizes [x] = x.size := by simp [sizes]
theorem size_sizes (m : Msg) : m.size = m.vals.length + sizes m.subs := Msg.size_eq m
theorem sizes_mem {l : List Msg} {x : Msg} (h : x ∈ l) : x.size ≤ sizes l := by
  induction l with
  | nil => simp at h
  | cons y l ih =>
    rcases List.mem_cons.1 h with rfl | h
    · simp [sizes]
    · have := ih h; simp [sizes] at this ⊢; omega
theorem size_sub {m x : Msg} (h : x ∈ m.subs) : x.size ≤ m.size := by
  rw [size_sizes m]; have := sizes_mem h; omega
def sizesOn (v : Nat) (l : List Msg) : Nat := v + sizes l
theorem sizes_to (l : List Val) (k : Nat) (hk : k < l.length) (i : Nat) : sizes (subsTo l k ++ l[k].m.take i) ≤ sizes (subsTo l l.length) := by
  have h1 : subsTo l l.length = subsTo l (k + 1) ++ (l.drop (k + 1)).flatMap fun x => x.m := by
    unfold subsTo; rw [← List.flatMap_append, List.take_length, List.take_append_drop]
  rw [h1, subsTo_next l k hk, sizes_app, sizes_app, sizes_app]
  have h2 : sizes l[k].m = sizes (l[k].m.take i) + sizes (l[k].m.drop i) := by rw [← sizes_app, List.take_append_drop]
  omega
end Go.Tr
namespace Go.Proofs.YthikfifoomfjgaaGreat
open Go.RowKit Go.Tr
set_option linter.unusedVariables false
set_option linter.unusedSimpArgs false
section
attribute [local go_sem] run_store
set_option maxHeartbeats 2000000 in
theorem size_step (L n : Nat) (hL : L ≤ 1048576) (hm : ∀ w cs m, RMsg L 0 w n cs m → m.size ≤ 1000000 → Calls Tryz.prog 25 #[.agg cs.toArray] w fun e w' => e = .returned (.int .i64 m.size) ∧ Below w.heap.size w w')
    (w : World) (cs : List Value) (m : Msg) (hx : RMsg L 0 w (n + 1) cs m) (hd : m.size ≤ 1000000) :
    Calls Tryz.prog 25 #[.agg cs.toArray] w fun e w' => e = .returned (.int .i64 m.size) ∧ Below w.heap.size w w' := by
  have HV := Lib.hid fun w' (hb : Below w.heap.size w w') => value_values L n hL w' cs m (RMsg.below hb (n + 1) hx)
  have HM := Lib.hid hm
  clear hm
  obtain ⟨c, rfl, h4⟩ := hx
  obtain ⟨a1, cap1, rfl, -⟩ := h4
  have HD := Lib.hid hd
  go_enter Tryz.func25, Tryz.ntmps25
  go_wp2_with (go_at_call 48; (with_reducible refine (HV.out _ (al1 _ _)).mono ?_); rintro e w1 ⟨v1, rfl, r1, b1⟩; (have R1 := Lib.hid r1); (have B1 := Lib.hid ((al1 _ _).nx b1)); (obtain ⟨a2, cap2, rfl, x0, x1, x2, -, -⟩ := r1); clear b1)
  clear HV
  have hlv : m.vals.length ≤ L * (L + L) := R1.out.len
  have hLL : L * (L + L) ≤ 1048576 * 2097152 := Nat.mul_le_mul (by omega) (by omega)
  unfold maxLen at x2
  go_loopw [4, 15] (fun o i wr => ∃ k : Nat, k ≤ m.vals.length ∧ i = .int .i64 k ∧ o = .int .i64 (sizesOn m.vals.length (subsTo m.vals k)) ∧ Hid (Below w1.heap.size w1 wr)) (fun o i _ => m.vals.length - (intOf i).toNat)
  case atStart => exact ⟨0, by omega, rfl, rfl, Below.refl _ _⟩
  case round =>
    obtain ⟨k, hk, rfl, rfl, HB⟩ := hrel
    obtain ⟨wo, rfl⟩ : ∃ wo, wo = wr := ⟨_, rfl⟩
    by_cases hlt : k < m.vals.length
    · obtain ⟨bx, ox, c0, c1, c2, e1, -, m0, m1, m2, n0, n1, n2, rx⟩ := (R1.out.imp (R' := RVal L 0 wo (RMsg L 0 wo n)) HB.out fun _ _ _ h => h.below HB.out).get3 (rval_three L 0 n) k hlt
      cases e1
      have bl := block_lt_of_cell m0
      obtain ⟨c, e, -, -, -, r4⟩ := rx
      cases e
      have R4 := Lib.hid r4
      obtain ⟨a4, cap4, rfl, y0, y1, y2, -, -⟩ := r4
      unfold maxLen at y2
      go_wp2
      go_loopw [4, 22] (fun o j wr2 => ∃ i : Nat, i ≤ m.vals[k].m.length ∧ j = .int .i64 i ∧ o = .int .i64 (sizesOn m.vals.length (subsTo m.vals k ++ m.vals[k].m.take i)) ∧ Hid (Below wo.heap.size wo wr2)) (fun o j _ => m.vals[k].m.length - (intOf j).toNat)
      case atStart => exact ⟨0, by omega, rfl, by simp, al1 _ _⟩
      case round =>
        obtain ⟨i, hi, rfl, rfl, HC⟩ := hrel
        by_cases hlt2 : i < m.vals[k].m.length
        · obtain ⟨by', oy, d0, e2, -, p0, z0, ry⟩ := (R4.out.imp (R' := RMsg L 0 wr n) HC.out fun _ _ _ h => RMsg.below HC.out n h).get1 (rmsg_one L 0 n) i hlt2
          cases e2
          have bl2 := block_lt_of_cell p0
          have hmem : m.vals[k].m[i] ∈ m.subs := mem_subs (List.getElem_mem hlt) (List.getElem_mem hlt2)
          have hdp := size_sub hmem
          have hto : sizesOn m.vals.length (subsTo m.vals k ++ m.vals[k].m.take (i + 1)) ≤ 1000000 := by
            have h1 := sizes_to m.vals k hlt (i + 1)
            rw [subsTo_end] at h1
            have h2 := size_sizes m
            have h3 := HD.out
            unfold sizesOn; omega
          have hadd : sizesOn m.vals.length (subsTo m.vals k ++ m.vals[k].m.take (i + 1)) = sizesOn m.vals.length (subsTo m.vals k ++ List.take i m.vals[k].m) + m.vals[k].m[i].size := by
            unfold sizesOn
            rw [List.take_succ_eq_append_getElem hlt2, ← List.append_assoc, sizes_app _ [_], sizes_one]; omega
          have HA := Lib.hid hadd
          have hto' : sizesOn m.vals.length (subsTo m.vals k ++ List.take i m.vals[k].m) + m.vals[k].m[i].size ≤ 1000000 := by omega
          clear hto hadd
          have HI := Lib.hid fun w' (hb : Below wr.heap.size wr w') => HM.out w' _ _ (RMsg.below hb n ry) (by have := HD.out; omega)
          clear ry hmem
          obtain ⟨q, hq⟩ : ∃ q, q = sizesOn m.vals.length (subsTo m.vals k ++ List.take i m.vals[k].m) := ⟨_, rfl⟩
          have HQ := Lib.hid hq
          rw [← hq] at hto' ⊢
          clear hq
          go_wp2_with (go_at_call 25; (with_reducible refine (HI.out _ (al1 _ _)).mono ?_); rintro e w2 ⟨rfl, b2⟩)
          refine ⟨⟨i + 1, by omega, rfl, ?_, HC.out.nx ((al1 _ _).nx b2)⟩, ?_⟩
          · rw [HA.out, ← HQ.out]; rfl
          · simp only [intOf, Int.toNat_natCast]
            omega
        · have hil : i = m.vals[k].m.length := by omega
          subst hil
          have HE : subsTo m.vals k ++ List.take m.vals[k].m.length m.vals[k].m = subsTo m.vals (k + 1) := by rw [List.take_length, subsTo_next _ _ hlt]
          rw [HE]
          clear HE
          go_wp2
          refine ⟨⟨k + 1, by omega, rfl, rfl, HB.out.nx HC.out⟩, ?_⟩
          simp only [intOf, Int.toNat_natCast]
          omega
    · have hkl : k = m.vals.length := by omega
      subst hkl
      have hmd : m.size = sizesOn m.vals.length (subsTo m.vals m.vals.length) := by rw [subsTo_end, size_sizes m]; rfl
      obtain ⟨q, hq⟩ : ∃ q, q = sizesOn m.vals.length (subsTo m.vals m.vals.length) := ⟨_, rfl⟩
      rw [← hq] at hmd ⊢
      have hqd : q ≤ 1000000 := by omega
      have HMD := Lib.hid hmd
      clear hmd hq
      go_wp2
      exact ⟨rfl, .int .i64 q, results_tmp (t := 2) rfl _ _ _, by rw [HMD.out], B1.out.nx HB.out⟩
/-- value.Size. -/
theorem value_size (L : Nat) (hL : L ≤ 1048576) : ∀ (n : Nat) (w : World) (cs : List Value) (m : Msg), RMsg L 0 w n cs m → m.size ≤ 1000000 →
    Calls Tryz.prog 25 #[.agg cs.toArray] w fun e w' => e = .returned (.int .i64 m.size) ∧ Below w.heap.size w w'
  | 0, _, _, _, h, _ => h.elim
  | n + 1, w, cs, m, h, hd => size_step L n hL (value_size L hL n) w cs m h hd
end
end Go.Proofs.YthikfifoomfjgaaGreat
