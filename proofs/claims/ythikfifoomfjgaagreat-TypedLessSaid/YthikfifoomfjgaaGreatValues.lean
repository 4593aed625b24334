/- Contract of value.values: all values of a message, slot by slot, in a row of one's own. -/
import Derived.Test.YthikfifoomfjgaaGreatVals
import Derived.Deep.RegionLaw
namespace Go
/-- 'append(v, x...)' as a step of a region that draws its order; x nil too. -/
theorem step_append_src {P : Program} {w : World} {ops : Array Oper} {o : Oper} {a : Act} {K : Act → World → Prop} {Q : Exit → Act → World → Prop} {E : Prop} (hgd : o.guard = none) (s x : Operand) (t : TypeId)
    (ho : o.op = .call { callee := .builtin .append, args := #[s, x], argTypes := #[t, t] })
    (base : Nat) (e : TypeId) (i : TypeInfo) (z : Value) (size bytes : Nat) (ht : P.underlying t = some (.slice e)) (hi : P.info? e = some i) (hz : i.zero = some z)
    (hsize : i.size = size) (hby : i.bytes = bytes) (hzs : z.cells.size = size) (hsz : 0 < size)
    (v : Value) (n : Nat) (xs : List Value) (hs : a.eval s = v) (hown : w.ownsRow base e size v n xs)
    (ao : Option Addr) (m c : Nat) (news : List Value) (hx : a.eval x = .slice ao m c) (hl : news.length = m * size)
    (hao : (ao = none ∧ m = 0 ∧ c = 0) ∨ ∃ ad, ao = some ad ∧ ∀ j u, news[j]? = some u → w.cell? (ad.add j) = some u) (h1 : ∀ u ∈ news, u.oneCell' = true)
    (h63 : n + m ≤ maxLen) (hbytes : (n + m) * bytes ≤ 140737488355328) (hbase : base ≤ w.heap.size)
    (h : ∀ v' w', w'.ownsRow base e size v' (n + m) (xs ++ news) → w.grownBy w' v.ownBlock → K (a.put o.dst v') w') :
    if Region.wanted o (yielded ops a.tmps) = true then Oper.wp P o a w K Q else E := by
  have hw : Region.wanted o (yielded ops a.tmps) = true := by simp [Region.wanted, hgd]
  rw [if_pos hw]
  rcases hao with ⟨rfl, rfl, rfl⟩ | ⟨ad, rfl, hc⟩
  · have hn : news = [] := List.eq_nil_of_length_eq_zero (by simpa using hl)
    subst hn
    have hrun := run_append_owned_none (P := P) (w := w) base t o.type e i size ht hi v n xs hown
    unfold Oper.wp
    simp [execOp, ho, resolve, invoke, builtin, hs, hx, hrun, Result.andThen]
    exact h v w (by simpa using hown) (World.grownBy.refl _ _)
  · exact wp_append_own w s x t ho base e i z size bytes ht hi hz hsize hby hzs hsz v n xs hs hown ad m c news hx hl hc h1 h63 hbytes hbase fun v' w' a1 a2 _ => h v' w' a1 a2
end Go
namespace Go.Tr
def Slot.both (s : Slot) : List Val := s.k ++ s.v
def valsTo (m : Msg) (k : Nat) : List Val := (m.f.take k).flatMap Slot.both
theorem valsTo_zero (m : Msg) : valsTo m 0 = [] := rfl
theorem valsTo_next (m : Msg) (k : Nat) (h : k < m.f.length) : valsTo m (k + 1) = valsTo m k ++ Slot.both m.f[k] := by
  unfold valsTo
  rw [List.take_succ_eq_append_getElem h, List.flatMap_append]
  simp [List.flatMap_cons]
theorem valsTo_end (m : Msg) : valsTo m m.f.length = m.vals := by
  unfold valsTo Msg.vals
  rw [List.take_length]; rfl
theorem valsTo_len {L : Nat} (m : Msg) (h : ∀ s ∈ m.f, s.k.length ≤ L ∧ s.v.length ≤ L) (k : Nat) (hk : k ≤ m.f.length) : (valsTo m k).length ≤ k * (L + L) := by
  induction k with
  | zero => simp [valsTo]
  | succ k ih =>
    rw [valsTo_next m k hk, List.length_append, Nat.add_mul]
    have := ih (by omega)
    have := h m.f[k] (List.getElem_mem hk)
    simp [Slot.both]; omega
end Go.Tr
namespace Go.Proofs.YthikfifoomfjgaaGreat
open Go.RowKit Go.Tr
set_option linter.unusedVariables false
set_option linter.unusedSimpArgs false
set_option maxHeartbeats 1000000 in
theorem value_values (L n : Nat) (hL : L ≤ 1048576) (w : World) (cs : List Value) (m : Msg) (hx : RMsg L 0 w (n + 1) cs m) :
    Calls Tryz.prog 48 #[.agg cs.toArray] w fun e w' => ∃ v', e = .returned v' ∧ RowOf (L * (L + L)) 0 w' 3 (RVal L 0 w' (RMsg L 0 w' n)) v' m.vals ∧ Below w.heap.size w w' := by
  obtain ⟨c, rfl, h4⟩ := hx
  have hlen := h4.len
  have hrows : ∀ s ∈ m.f, s.k.length ≤ L ∧ s.v.length ≤ L := by
    intro s hs
    obtain ⟨i, hi, rfl⟩ := List.mem_iff_getElem.1 hs
    have h5 := h4
    obtain ⟨a, cap, rfl, -⟩ := h5
    obtain ⟨_, _, _, _, _, _, _, hr⟩ := h4.get i hi
    exact ⟨hr.rows.1, hr.rows.2.1⟩
  have HX := Lib.hid h4
  have HR := Lib.hid hrows
  clear hrows
  obtain ⟨a1, cap1, rfl, q0, q1, q2, -, -⟩ := h4
  unfold maxLen at q2
  go_enter Tryz.func48, Tryz.ntmps48
  obtain ⟨i3, hi3, hz3, hs3, hb3⟩ := info_parts (P := Tryz.prog) (e := 39) (z := .agg #[.int .i64 0, .string "".toUTF8, .slice none 0 0]) (size := 3) (bytes := 48) (by kernel_rfl)
  have z3 : (Value.agg #[.int .i64 0, .string "".toUTF8, .slice none 0 0]).cells.size = 3 := rfl
  go_wp2
  go_loopw [3, 9] (fun o i wr => ∃ (k : Nat) (ys : List Value), k ≤ m.f.length ∧ i = .int .i64 k ∧ Below w.heap.size w wr ∧ w.heap.size < wr.heap.size ∧ Hid (wr.ownsRow (w.heap.size + 1) 39 3 o (valsTo m k).length ys) ∧ Hid (Part 3 (RVal L 0 w (RMsg L 0 w n)) ys (valsTo m k) (valsTo m k).length)) (fun o i _ => m.f.length - (intOf i).toNat)
  case atStart => exact ⟨0, [], by omega, rfl, al1 _ _, by simp, World.ownsRow_nil _ _ _ _, Part.nil _ _⟩
  case round =>
    obtain ⟨k, ys, hk, rfl, hb, hsz, hown, hpart⟩ := hrel
    by_cases hlt : k < m.f.length
    · obtain ⟨bx, ox, c0, c1, c2, e1, -, m0, m1, m2, n0, n1, n2, rx⟩ := HX.out.get3 (rslot_three L 0 n) k hlt
      cases e1
      have hm0 := (hb.cell (block_lt_of_cell m0)).trans m0
      have hm1 := (hb.cell (block_lt_of_cell m1)).trans m1
      have hm2 := (hb.cell (block_lt_of_cell m2)).trans m2
      have bl := block_lt_of_cell hm0
      have hbs := hb.size
      have hrk := HR.out _ (List.getElem_mem hlt)
      have hvl := valsTo_len m HR.out k hk
      clear m0 m1 m2
      obtain ⟨c, d, e, -, -, r3, r4⟩ := rx
      cases e
      have S3 := Lib.hid r3
      have S4 := Lib.hid r4
      obtain ⟨a3, cap3, rfl, -⟩ := r3
      obtain ⟨a4, cap4, rfl, -⟩ := r4
      obtain ⟨-, news3, g1, g2, g3, g4⟩ := S3.out.src rval_cells
      obtain ⟨-, news4, p1, p2, p3, p4⟩ := S4.out.src rval_cells
      have G2 := Lib.hid g2
      have G3 := Lib.hid g3
      have G4 := Lib.hid g4
      have P2 := Lib.hid p2
      have P3 := Lib.hid p3
      have P4 := Lib.hid p4
      have HB := Lib.hid hb
      clear g2 g3 g4 p2 p3 p4 S3 S4 hb
      have hkk : k * (L + L) ≤ 1048576 * 2097152 := Nat.mul_le_mul (by omega) (by omega)
      go_wp2_with fail
      go_region_law (first
        | (refine step_append_src rfl (.tmp 13) (.tmp 15) 33 rfl (w.heap.size + 1) 39 i3 _ 3 48 Tryz.underlying33 hi3 hz3 hs3 hb3 z3 (by omega) _ (valsTo m k).length ys (by simp [Act.eval, Act.put]) (owns_below hown.out (al1 _ _).drew) a3 m.f[k].k.length cap3 news3 (by simp [Act.eval, Act.put]) g1 (src_below (HB.out.alloc (by omega) _).drew G2.out) G3.out (by unfold maxLen; omega) (by omega) (by simp; omega) ?_; rintro v1 w1 ho1 hg1;
            (have hm := hg1.cell (a := ⟨wr.heap.size, 2, none⟩) (v := .slice a4 m.f[k].v.length cap4) (by simp [go_sem]) (fun e => by have := (hown.out.lt _ e.symm).2; simp at this));
            (have b1 := (HB.out.alloc (o := .cells #[.int .i64 m.f[k].no, .slice a3 m.f[k].k.length cap3, .slice a4 m.f[k].v.length cap4] 35) (by omega)).drew.grown hg1 (by simp; omega) (fun k hk => by have := (hown.out.lt k hk).1; omega));
            (have hz1 := hg1.size); (have B1 := Lib.hid b1); (have O1 := Lib.hid ho1); clear ho1 hg1 b1)
        | (refine step_append_src rfl (.tmp 16) (.tmp 18) 33 rfl (w.heap.size + 1) 39 i3 _ 3 48 Tryz.underlying33 hi3 hz3 hs3 hb3 z3 (by omega) v1 ((valsTo m k).length + m.f[k].k.length) (ys ++ news3) (by simp [Act.eval, Act.put]) O1.out a4 m.f[k].v.length cap4 news4 (by simp [Act.eval, Act.put]) p1 (src_below B1.out P2.out) P3.out (by unfold maxLen; omega) (by omega) (by simp at hz1; omega) ?_; rintro v2 w2 ho2 hg2;
            (have b2 := B1.out.grown hg2 (by simp at hz1; omega) (fun k hk => by have := (O1.out.lt k hk).1; omega)); (have hz2 := hg2.size); (have B2 := Lib.hid b2); (have O2 := Lib.hid ho2); clear ho2 b2 hg2))
      all_goals (
        have HP : Hid (Part 3 (RVal L 0 w (RMsg L 0 w n)) ((ys ++ news3) ++ news4) (valsTo m (k + 1)) (valsTo m (k + 1)).length) := by
          rw [valsTo_next m k hlt, Slot.both, ← List.append_assoc]
          exact Part.app (by rw [List.length_append, hown.out.1, g1, List.length_append, Nat.add_mul]) (Part.app hown.out.1 hpart.out G4.out) P4.out
        have HO : Hid (w2.ownsRow (w.heap.size + 1) 39 3 v2 (valsTo m (k + 1)).length ((ys ++ news3) ++ news4)) := by
          have h := O2.out
          rw [valsTo_next m k hlt, Slot.both, List.length_append, List.length_append, ← Nat.add_assoc]
          exact h
        have hz3' : w.heap.size < w2.heap.size := by simp at hz1; omega
        clear O1 O2 hown hpart hz1 hz2 hm
        go_wp2
        refine ⟨⟨k + 1, _, by omega, rfl, B2.out, hz3', HO, HP⟩, ?_⟩
        simp only [intOf, Int.toNat_natCast]
        omega)
    · have hkl : k = m.f.length := by omega
      subst hkl
      have hvl := valsTo_len m HR.out _ (Nat.le_refl _)
      have hL2 : m.f.length * (L + L) ≤ L * (L + L) := Nat.mul_le_mul_right _ hlen
      rw [valsTo_end] at hown hpart hvl
      have hres : RowOf (L * (L + L)) 0 wr 3 (RVal L 0 wr (RMsg L 0 wr n)) u3 m.vals := Has.row (e := 39) (B := w.heap.size + 1) (R := RVal L 0 w (RMsg L 0 w n)) ⟨ys, hown.out, hpart.out⟩ (by omega) (by omega) (Keeps.refl _ _) (fun cs x _ h => h.below hb)
      have HRES := Lib.hid hres
      clear hres hown hpart hvl hL2
      go_wp2
      exact ⟨rfl, u3, results_tmp (t := 2) rfl _ _ _, u3, rfl, HRES.out, hb⟩
end Go.Proofs.YthikfifoomfjgaaGreat
