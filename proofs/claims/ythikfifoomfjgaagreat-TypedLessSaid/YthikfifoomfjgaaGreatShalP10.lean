/- Contracts of slices.IndexFunc and slices.ContainsFunc at values and at messages. Contracts of slices.Grow and slices.Concat at values: two rows, one behind the other, in a row of one's own. Contract of typed.shallow: is a message at most so deep? -/
import Derived.Test.YthikfifoomfjgaaGreatFunc
import Derived.Test.YthikfifoomfjgaaGreatRow
import Derived.Test.YthikfifoomfjgaaGreatDeep
import Derived.Test.YthikfifoomfjgaaGreatGet
namespace Go.Tr
theorem idx_any {α : Type} (p : α → Bool) (xs : List α) : decide (idxOf p xs ≥ 0) = xs.any p := by
  rcases idxOf_cases p xs with ⟨h, hb⟩ | ⟨k, hk, h, h1, -⟩
  · rw [h]
    have : xs.any p = false := by
      rw [List.any_eq_false]
      intro x hx
      obtain ⟨j, hj, rfl⟩ := List.mem_iff_getElem.1 hx
      simp [hb j hj]
    rw [this]; rfl
  · rw [h]
    have : xs.any p = true := List.any_eq_true.2 ⟨_, List.getElem_mem hk, h1⟩
    rw [this]; simp
end Go.Tr
namespace Go.Proofs.YthikfifoomfjgaaGreat
open Go.RowKit Go.Tr
set_option linter.unusedVariables false
set_option linter.unusedSimpArgs false
set_option maxHeartbeats 1000000 in
theorem indexFunc_val {α : Type} (L B : Nat) (hL : L ≤ maxLen) (R : World → List Value → α → Prop) (hR : Stands R) (h3 : Three R) (p : α → Bool) (g : Nat) (caps : Array Value) (eg : ∀ args w, (callFunc g args).run Tryz.prog w = .ok (.enter g args) w)
    (Ok : World → Prop) (hOk : ∀ w w', Ok w → Below w.heap.size w w' → Ok w')
    (hg : ∀ w cs x, Ok w → R w cs x → Calls Tryz.prog g (#[.agg cs.toArray] ++ caps) w fun e w' => e = .returned (.bool (p x)) ∧ Below w.heap.size w w')
    (w : World) (v : Value) (xs : List α) (hx : RowOf L B w 3 (R w) v xs) (hok : Ok w) :
    Calls Tryz.prog 154 #[v, .func (.func g) #[] caps] w fun e w' => e = .returned (.int .i64 (idxOf p xs)) ∧ Below w.heap.size w w' := by
  have HX := Lib.hid (fun wr (hb : Below w.heap.size w wr) => hx.imp hb fun cs x _ h => hR w wr cs x hb h)
  have HG := Lib.hid hg
  have HO := Lib.hid fun wr (hb : Below w.heap.size w wr) => hOk w wr hok hb
  clear hg
  obtain ⟨a1, cap1, rfl, q0, q1, q2, -, -⟩ := hx
  unfold maxLen at hL q2
  go_enter Tryz.func154, Tryz.ntmps154
  go_wp2
  go_loopw [8] (fun i wr => ∃ k : Nat, k ≤ xs.length ∧ i = .int .i64 k ∧ Below w.heap.size w wr ∧ Hid (∀ j (h1 : j < xs.length), j < k → p xs[j] = false)) (fun i _ => xs.length - (intOf i).toNat)
  case atStart => exact ⟨0, by omega, rfl, Below.refl _ _, (fun j h1 h => absurd h (by omega))⟩
  case round =>
    obtain ⟨k, hk, rfl, hb, hall⟩ := hrel
    by_cases hlt : k < xs.length
    · obtain ⟨b1, o1, c0, c1, c2, e1, -, m0, m1, m2, n0, n1, n2, rx⟩ := (HX.out wr hb).get3 h3 k hlt
      subst e1
      have HC := Lib.hid (fun w' (hb' : Below wr.heap.size wr w') => HG.out w' _ _ (hOk _ _ (HO.out wr hb) hb') (hR _ _ _ _ hb' rx))
      clear rx
      have bl := block_lt_of_cell m0
      cases hq : p xs[k] with
      | false =>
        have hnew : ∀ j (h1 : j < xs.length), j < k + 1 → p xs[j] = false := by
          intro j h1 hj
          rcases Nat.lt_or_ge j k with h | h
          · exact hall.out j h1 h
          · have : j = k := by omega
            subst this; exact hq
        have HN := Lib.hid hnew
        rw [hq] at HC
        clear hnew hq
        go_wp2
        refine (HC.out _ (Below.refl _ _)).mono ?_; rintro e w' ⟨rfl, b'⟩
        go_wp2
        refine ⟨⟨k + 1, by omega, rfl, hb.nx b', HN.out⟩, ?_⟩
        simp only [intOf, Int.toNat_natCast]
        omega
      | true =>
        have HN := Lib.hid (idxOf_at p xs k hlt hq hall.out)
        rw [hq] at HC
        clear hq
        go_wp2
        refine (HC.out _ (Below.refl _ _)).mono ?_; rintro e w' ⟨rfl, b'⟩
        go_wp2
        exact ⟨rfl, _, results_tmp (t := 4) rfl _ _ _, by rw [HN.out]; rfl, hb.nx b'⟩
    · have hkl : k = xs.length := by omega
      have HN := Lib.hid (idxOf_none p xs fun j h1 => hall.out j h1 (by omega))
      subst hkl
      go_wp2
      exact ⟨rfl, _, results_tmp (t := 4) rfl _ _ _, by rw [HN.out]; rfl, hb⟩
set_option maxHeartbeats 1000000 in
theorem indexFunc_msg {α : Type} (L B : Nat) (hL : L ≤ maxLen) (R : World → List Value → α → Prop) (hR : Stands R) (h1 : One R) (p : α → Bool) (g : Nat) (caps : Array Value) (eg : ∀ args w, (callFunc g args).run Tryz.prog w = .ok (.enter g args) w)
    (Ok : World → Prop) (hOk : ∀ w w', Ok w → Below w.heap.size w w' → Ok w')
    (hg : ∀ w cs x, Ok w → R w cs x → Calls Tryz.prog g (#[.agg cs.toArray] ++ caps) w fun e w' => e = .returned (.bool (p x)) ∧ Below w.heap.size w w')
    (w : World) (v : Value) (xs : List α) (hx : RowOf L B w 1 (R w) v xs) (hok : Ok w) :
    Calls Tryz.prog 81 #[v, .func (.func g) #[] caps] w fun e w' => e = .returned (.int .i64 (idxOf p xs)) ∧ Below w.heap.size w w' := by
  have HX := Lib.hid (fun wr (hb : Below w.heap.size w wr) => hx.imp hb fun cs x _ h => hR w wr cs x hb h)
  have HG := Lib.hid hg
  have HO := Lib.hid fun wr (hb : Below w.heap.size w wr) => hOk w wr hok hb
  clear hg
  obtain ⟨a1, cap1, rfl, q0, q1, q2, -, -⟩ := hx
  unfold maxLen at hL q2
  go_enter Tryz.func81, Tryz.ntmps81
  go_wp2
  go_loopw [8] (fun i wr => ∃ k : Nat, k ≤ xs.length ∧ i = .int .i64 k ∧ Below w.heap.size w wr ∧ Hid (∀ j (hj1 : j < xs.length), j < k → p xs[j] = false)) (fun i _ => xs.length - (intOf i).toNat)
  case atStart => exact ⟨0, by omega, rfl, Below.refl _ _, (fun j hj1 h => absurd h (by omega))⟩
  case round =>
    obtain ⟨k, hk, rfl, hb, hall⟩ := hrel
    by_cases hlt : k < xs.length
    · obtain ⟨b1, o1, c0, e1, -, m0, n0, rx⟩ := (HX.out wr hb).get1 h1 k hlt
      subst e1
      have HC := Lib.hid (fun w' (hb' : Below wr.heap.size wr w') => HG.out w' _ _ (hOk _ _ (HO.out wr hb) hb') (hR _ _ _ _ hb' rx))
      clear rx
      have bl := block_lt_of_cell m0
      cases hq : p xs[k] with
      | false =>
        have hnew : ∀ j (hj1 : j < xs.length), j < k + 1 → p xs[j] = false := by
          intro j hj1 hj
          rcases Nat.lt_or_ge j k with h | h
          · exact hall.out j hj1 h
          · have : j = k := by omega
            subst this; exact hq
        have HN := Lib.hid hnew
        rw [hq] at HC
        clear hnew hq
        go_wp2
        refine (HC.out _ (Below.refl _ _)).mono ?_; rintro e w' ⟨rfl, b'⟩
        go_wp2
        refine ⟨⟨k + 1, by omega, rfl, hb.nx b', HN.out⟩, ?_⟩
        simp only [intOf, Int.toNat_natCast]
        omega
      | true =>
        have HN := Lib.hid (idxOf_at p xs k hlt hq hall.out)
        rw [hq] at HC
        clear hq
        go_wp2
        refine (HC.out _ (Below.refl _ _)).mono ?_; rintro e w' ⟨rfl, b'⟩
        go_wp2
        exact ⟨rfl, _, results_tmp (t := 4) rfl _ _ _, by rw [HN.out]; rfl, hb.nx b'⟩
    · have hkl : k = xs.length := by omega
      have HN := Lib.hid (idxOf_none p xs fun j hj1 => hall.out j hj1 (by omega))
      subst hkl
      go_wp2
      exact ⟨rfl, _, results_tmp (t := 4) rfl _ _ _, by rw [HN.out]; rfl, hb⟩
theorem containsFunc_val {α : Type} (L B : Nat) (hL : L ≤ maxLen) (R : World → List Value → α → Prop) (hR : Stands R) (h3 : Three R) (p : α → Bool) (g : Nat) (caps : Array Value) (eg : ∀ args w, (callFunc g args).run Tryz.prog w = .ok (.enter g args) w)
    (Ok : World → Prop) (hOk : ∀ w w', Ok w → Below w.heap.size w w' → Ok w')
    (hg : ∀ w cs x, Ok w → R w cs x → Calls Tryz.prog g (#[.agg cs.toArray] ++ caps) w fun e w' => e = .returned (.bool (p x)) ∧ Below w.heap.size w w')
    (w : World) (v : Value) (xs : List α) (hx : RowOf L B w 3 (R w) v xs) (hok : Ok w) :
    Calls Tryz.prog 135 #[v, .func (.func g) #[] caps] w fun e w' => e = .returned (.bool (xs.any p)) ∧ Below w.heap.size w w' := by
  have HI := Lib.hid (indexFunc_val L B hL R hR h3 p g caps eg Ok hOk hg w v xs hx hok)
  obtain ⟨a1, cap1, rfl, -⟩ := hx
  have HN := Lib.hid (idx_any p xs)
  clear hg hok
  go_enter Tryz.func135, Tryz.ntmps135
  go_wp2_with (go_at_call 154; (with_reducible refine HI.out.mono ?_); rintro e w' ⟨rfl, b'⟩)
  exact ⟨rfl, _, results_tmp (t := 4) rfl _ _ _, by rw [← HN.out]; rfl, b'⟩
theorem containsFunc_msg {α : Type} (L B : Nat) (hL : L ≤ maxLen) (R : World → List Value → α → Prop) (hR : Stands R) (h1 : One R) (p : α → Bool) (g : Nat) (caps : Array Value) (eg : ∀ args w, (callFunc g args).run Tryz.prog w = .ok (.enter g args) w)
    (Ok : World → Prop) (hOk : ∀ w w', Ok w → Below w.heap.size w w' → Ok w')
    (hg : ∀ w cs x, Ok w → R w cs x → Calls Tryz.prog g (#[.agg cs.toArray] ++ caps) w fun e w' => e = .returned (.bool (p x)) ∧ Below w.heap.size w w')
    (w : World) (v : Value) (xs : List α) (hx : RowOf L B w 1 (R w) v xs) (hok : Ok w) :
    Calls Tryz.prog 41 #[v, .func (.func g) #[] caps] w fun e w' => e = .returned (.bool (xs.any p)) ∧ Below w.heap.size w w' := by
  have HI := Lib.hid (indexFunc_msg L B hL R hR h1 p g caps eg Ok hOk hg w v xs hx hok)
  obtain ⟨a1, cap1, rfl, -⟩ := hx
  have HN := Lib.hid (idx_any p xs)
  clear hg hok
  go_enter Tryz.func41, Tryz.ntmps41
  go_wp2_with (go_at_call 81; (with_reducible refine HI.out.mono ?_); rintro e w' ⟨rfl, b'⟩)
  exact ⟨rfl, _, results_tmp (t := 4) rfl _ _ _, by rw [← HN.out]; rfl, b'⟩
end Go.Proofs.YthikfifoomfjgaaGreat
namespace Go
variable {P : Program}
/-- 'append(nil, make([]T, k)...)': a row of one's own. -/
theorem run_append_make_nil (w : World) (base : Nat) (t tn ty e : TypeId) (i : TypeInfo) (z : Value) (kq kn : IntKind) (size bytes : Nat) (ht : P.underlying t = some (.slice e)) (htn : P.underlying tn = some (.int kn)) (hi : P.info? e = some i) (hz : i.zero = some z)
    (hsz : i.size = size) (hby : i.bytes = bytes) (hzs : z.cells.size = size) (h0s : 0 < size) (k : Nat) (h0 : 0 < k) (h63 : k ≤ maxLen) (h48 : k * bytes ≤ 140737488355328) (hbase : base ≤ w.heap.size) :
    ∃ v' w' zs cap, (Builtin.append_ #[t, tn] ty #[.slice none 0 0, .int kq k]).run P w = .ok v' w' ∧ w'.ownsRow base e size v' k zs ∧ RowKit.Below w.heap.size w w' ∧ v' = .slice (some ⟨w.heap.size, 0, none⟩) k cap ∧ k ≤ cap ∧ cap ≤ maxLen := by
  subst hsz hby
  have hnx : Builtin.nextslicecap (0 + k) 0 * i.bytes ≤ 2 * (0 + k) * i.bytes := Nat.mul_le_mul_right _ (nextslicecap_le (by omega))
  rw [Nat.mul_assoc] at hnx
  have hf : (Builtin.firstCells i.size 0 (.slice none 0 0)).run P w.drew = .ok ([] : List Value).toArray w.drew := by simp [Builtin.firstCells]
  have hr := Lib.run_append_grow_zeros (P := P) w t tn ty e i z kq kn ht htn hi hz none 0 0 [] hf k h0 h0s (by omega) (by unfold maxLen at h63; omega) (by omega) (by rw [Nat.zero_add] at hnx ⊢; omega)
  rw [Nat.zero_add] at hr
  refine ⟨_, _, (Builtin.zeroCells z.cells k).toList, _, hr, ⟨?_, .inr ⟨w.heap.size, _, _, rfl, hbase, heap_alloc_new w.drew _, grownCap_ge _ _ _ _, grownCap_le_maxLen _ _ _ _ h63, ?_, ?_⟩⟩, ?_, rfl, grownCap_ge _ _ _ _, grownCap_le_maxLen _ _ _ _ h63⟩
  · rw [Array.length_toList, size_zeroCells, hzs]
  · have hge := grownCap_ge w k 0 e
    simp only [Array.size_append, List.size_toArray, size_zeroCells, hzs, List.length_nil]
    rw [Nat.zero_add, ← Nat.add_mul]
    congr 1; omega
  · have hl2 : (Builtin.zeroCells z.cells k).toList.length = k * i.size := by rw [Array.length_toList, size_zeroCells, hzs]
    simp only [Array.toList_append, List.nil_append]
    rw [← hl2]; exact List.take_left
  · exact (RowKit.Below.refl _ _).drew.alloc (Nat.le_refl _) _
end Go
namespace Go.Proofs.YthikfifoomfjgaaGreat
open Go.RowKit Go.Tr
set_option maxRecDepth 100000
set_option linter.unusedVariables false
set_option linter.unusedSimpArgs false
/-- slices.Grow of nothing: no element yet, room for k. -/
theorem grow_val (base : Nat) (w : World) (k : Nat) (hk : k ≤ 2199023255552) (hbase : base ≤ w.heap.size) :
    Calls Tryz.prog 101 #[.slice none 0 0, .int .i64 k] w fun e w' => ∃ v', e = .returned v' ∧ w'.ownsRow base 39 3 v' 0 [] ∧ Below w.heap.size w w' := by
  obtain ⟨i3, hi3, hz3, hs3, hb3⟩ := info_parts (P := Tryz.prog) (e := 39) (z := .agg #[.int .i64 0, .string "".toUTF8, .slice none 0 0]) (size := 3) (bytes := 48) (by kernel_rfl)
  have z3 : (Value.agg #[.int .i64 0, .string "".toUTF8, .slice none 0 0]).cells.size = 3 := rfl
  by_cases h0 : k = 0
  · subst h0
    go_enter Tryz.func101, Tryz.ntmps101
    go_wp2
    exact ⟨rfl, _, results_tmp (t := 4) rfl _ _ _, _, rfl, World.ownsRow_nil _ _ _ _, Below.refl _ _⟩
  · have d0 : decide ((k : Int) < 0) = false := decide_eq_false (by omega)
    have d1 : decide ((k : Int) > 0) = true := decide_eq_true (by omega)
    have d2 : wrap64 ((k : Int) - 0) = k := by unfold wrap64; omega
    obtain ⟨v', w', zs, cap, hrun, hown, hb, rfl, hc1, hc2⟩ := run_append_make_nil (P := Tryz.prog) w base 33 3 33 39 i3 _ .i64 .i64 3 48 Tryz.underlying33 Tryz.underlying3 hi3 hz3 hs3 hb3 z3 (by omega) k (by omega) (by unfold maxLen; omega) (by omega) hbase
    have HO := Lib.hid (owns_prefix hown (m := 0) (by omega))
    have HB := Lib.hid hb
    clear hown hb
    go_enter Tryz.func101, Tryz.ntmps101
    go_wp2_with (at_builtin; (refine Lib.wpList_append_run _ rfl _ _ _ _ rfl _ _ rfl rfl _ _ hrun ?_))
    exact ⟨rfl, _, results_tmp (t := 4) rfl _ _ _, _, rfl, HO.out, HB.out⟩
def lst {α : Type} (xs ys : List α) : Nat → List α
  | 0 => []
  | 1 => xs
  | _ => xs ++ ys
/-- slices.Concat of two rows. -/
theorem concat_val (L n : Nat) (hL : L ≤ 1048576) (w : World) (b : Nat) (vk vv : Value) (xs ys : List Val) (m0 : w.cell? ⟨b, 0, none⟩ = some vk) (m1 : w.cell? ⟨b, 1, none⟩ = some vv) (hk : RowOf L 0 w 3 (RVal L 0 w (RMsg L 0 w n)) vk xs) (hv : RowOf L 0 w 3 (RVal L 0 w (RMsg L 0 w n)) vv ys) :
    Calls Tryz.prog 64 #[.slice (some ⟨b, 0, none⟩) 2 2] w fun e w' => ∃ v', e = .returned v' ∧ RowOf (L + L) 0 w' 3 (RVal L 0 w' (RMsg L 0 w' n)) v' (xs ++ ys) ∧ Below w.heap.size w w' := by
  have hl3 := hk.len
  have hl4 := hv.len
  have S3 := Lib.hid hk
  have S4 := Lib.hid hv
  obtain ⟨a1, cap1, rfl, -⟩ := hk
  obtain ⟨a2, cap2, rfl, -⟩ := hv
  obtain ⟨-, news3, g1, g2, g3, g4⟩ := S3.out.src rval_cells
  obtain ⟨-, news4, p1, p2, p3, p4⟩ := S4.out.src rval_cells
  have G2 := Lib.hid g2
  have G3 := Lib.hid g3
  have G4 := Lib.hid g4
  have P2 := Lib.hid p2
  have P3 := Lib.hid p3
  have P4 := Lib.hid p4
  have M0 := Lib.hid m0
  have M1 := Lib.hid m1
  clear g2 g3 g4 p2 p3 p4 S3 S4 m0 m1
  obtain ⟨i3, hi3, hz3, hs3, hb3⟩ := info_parts (P := Tryz.prog) (e := 39) (z := .agg #[.int .i64 0, .string "".toUTF8, .slice none 0 0]) (size := 3) (bytes := 48) (by kernel_rfl)
  have z3 : (Value.agg #[.int .i64 0, .string "".toUTF8, .slice none 0 0]).cells.size = 3 := rfl
  go_enter Tryz.func64, Tryz.ntmps64
  go_wp2
  go_loopw [3, 11] (fun s i wr => ∃ k : Nat, k ≤ 2 ∧ i = .int .i64 k ∧ s = .int .i64 (lst xs ys k).length ∧ Hid (Below w.heap.size w wr)) (fun s i _ => 2 - (intOf i).toNat)
  case atStart => exact ⟨0, by omega, rfl, rfl, Below.refl _ _⟩
  case round =>
    obtain ⟨k, hk, rfl, rfl, HB⟩ := hrel
    obtain ⟨wA, rfl⟩ : ∃ wA, wA = wr := ⟨_, rfl⟩
    have c0 := (HB.out.cell (block_lt_of_cell M0.out)).trans M0.out
    have c1 := (HB.out.cell (block_lt_of_cell M1.out)).trans M1.out
    have bl := block_lt_of_cell c0
    by_cases hlt : k < 2
    · match k, hlt with
      | 0, _ =>
        have d0 : decide ((xs.length : Int) < 0) = false := decide_eq_false (by omega)
        have hw : wrap64 (((lst xs ys 0).length : Int) + (xs.length : Int)) = (xs.length : Int) := by
          rw [show (lst xs ys 0).length = 0 from rfl]; unfold wrap64; omega
        go_wp2
        refine ⟨⟨1, by omega, rfl, by rw [hw]; rfl, HB⟩, ?_⟩
        decide
      | 1, _ =>
        obtain ⟨sz, hsz⟩ : ∃ sz : Nat, sz = xs.length + ys.length := ⟨_, rfl⟩
        have d0 : decide ((sz : Int) < 0) = false := decide_eq_false (by omega)
        have hw : wrap64 (((lst xs ys 1).length : Int) + (ys.length : Int)) = (sz : Int) := by
          rw [show (lst xs ys 1).length = xs.length from rfl]; unfold wrap64; omega
        go_wp2
        refine ⟨⟨2, by omega, rfl, by rw [hw, hsz]; simp [lst], HB⟩, ?_⟩
        decide
    · obtain rfl : k = 2 := by omega
      have hlz : (lst xs ys 2).length = xs.length + ys.length := by simp [lst]
      generalize (lst xs ys 2).length = sz at hlz ⊢
      have HG := Lib.hid (grow_val (w.heap.size) wA sz (by omega) HB.out.size)
      clear hlz
      go_wp2_with (go_at_call 101; (with_reducible refine HG.out.mono ?_); rintro e wB ⟨vB, rfl, ho, hb⟩; (have HO := Lib.hid ho); (have HB2 := Lib.hid (HB.out.nx hb)); clear ho hb)
      have M02 := Lib.hid ((HB2.out.cell (block_lt_of_cell M0.out)).trans M0.out)
      have M12 := Lib.hid ((HB2.out.cell (block_lt_of_cell M1.out)).trans M1.out)
      clear c0 c1 bl HG HB
      go_loopw [6, 27] (fun v i wr => ∃ (k : Nat) (zs : List Value), k ≤ 2 ∧ i = .int .i64 k ∧ Hid (Below w.heap.size w wr) ∧ Hid (wr.ownsRow w.heap.size 39 3 v (lst xs ys k).length zs) ∧ Hid (Part 3 (RVal L 0 w (RMsg L 0 w n)) zs (lst xs ys k) (lst xs ys k).length)) (fun v i _ => 2 - (intOf i).toNat)
      case atStart => exact ⟨0, [], by omega, rfl, HB2, HO, Part.nil _ _⟩
      case round =>
        clear HB2 HO M02 M12
        obtain ⟨k, zs, hk, rfl, HB, HO, HP⟩ := hrel
        obtain ⟨wC, rfl⟩ : ∃ wC, wC = wr := ⟨_, rfl⟩
        have c0 := (HB.out.cell (block_lt_of_cell M0.out)).trans M0.out
        have c1 := (HB.out.cell (block_lt_of_cell M1.out)).trans M1.out
        have bl := block_lt_of_cell c0
        have hbs := HB.out.size
        by_cases hlt : k < 2
        · match k, hlt with
          | 0, _ =>
            go_wp2_with (at_builtin; (refine wpList_append_src rfl _ _ 33 rfl w.heap.size 39 i3 _ 3 48 Tryz.underlying33 hi3 hz3 hs3 hb3 z3 (by omega) _ 0 zs (by simp [go_sem]) HO.out a1 xs.length cap1 news3 (by simp [go_sem]) g1 (src_below HB.out G2.out) G3.out (by unfold maxLen; omega) (by omega) hbs ?_); rintro v1 w1 ho1 hg1)
            refine ⟨⟨1, _, by omega, rfl, Lib.hid (HB.out.grown hg1 (by omega) (fun k hk => (HO.out.lt k hk).1)), Lib.hid (by simpa [lst] using ho1), Lib.hid ?_⟩, ?_⟩
            · exact Part.app HO.out.1 HP.out G4.out
            · decide
          | 1, _ =>
            go_wp2_with (at_builtin; (refine wpList_append_src rfl _ _ 33 rfl w.heap.size 39 i3 _ 3 48 Tryz.underlying33 hi3 hz3 hs3 hb3 z3 (by omega) _ xs.length zs (by simp [go_sem]) HO.out a2 ys.length cap2 news4 (by simp [go_sem]) p1 (src_below HB.out P2.out) P3.out (by unfold maxLen; omega) (by omega) hbs ?_); rintro v1 w1 ho1 hg1)
            refine ⟨⟨2, _, by omega, rfl, Lib.hid (HB.out.grown hg1 (by omega) (fun k hk => (HO.out.lt k hk).1)), Lib.hid (by simpa [lst] using ho1), Lib.hid ?_⟩, ?_⟩
            · exact Part.app HO.out.1 HP.out P4.out
            · decide
        · obtain rfl : k = 2 := by omega
          have HRES := Lib.hid (Has.row (L := L + L) (e := 39) (B := w.heap.size) (B' := 0) (R := RVal L 0 w (RMsg L 0 w n)) (R' := RVal L 0 wC (RMsg L 0 wC n)) ⟨zs, HO.out, HP.out⟩ (by simp [lst]; omega) (by omega) (Keeps.refl _ _) (fun cs x _ h => h.below HB.out))
          clear HO HP
          go_wp2
          exact ⟨rfl, _, results_tmp (t := 2) rfl _ _ _, _, rfl, HRES.out, HB.out⟩
end Go.Proofs.YthikfifoomfjgaaGreat
namespace Go.Tr
/-- The messages of these values are at most so deep, less one. -/
def Low (k : Int) (l : List Val) : Prop := ∀ y ∈ l, ∀ x ∈ y.m, (x.deep : Int) + 1 ≤ k
theorem Low.app {k : Int} {a b : List Val} (h : Low k a) (h' : Low k b) : Low k (a ++ b) := fun y hy x hx => by
  rcases List.mem_append.1 hy with hy | hy
  · exact h y hy x hx
  · exact h' y hy x hx
theorem Low.deep {k : Int} {m : Msg} (hk : 1 ≤ k) (h : Low k m.vals) : (m.deep : Int) ≤ k := by
  have hm : most m.subs ≤ (k - 1).toNat := most_le fun x hx => by
    obtain ⟨y, hy, hx⟩ := List.mem_flatMap.1 hx
    have := h y hy x hx
    omega
  have e : m.deep = most m.subs + 1 := by rw [Msg.deep_eq]; rfl
  omega
theorem Low.not {k : Int} {m x : Msg} {y : Val} (hy : y ∈ m.vals) (hx : x ∈ y.m) (h : ¬ ((x.deep : Int) ≤ k - 1)) : ¬ ((m.deep : Int) ≤ k) := by
  have := deep_sub (mem_subs hy hx)
  omega
theorem both_mem' {m : Msg} {k : Nat} (hk : k < m.f.length) {y : Val} (hy : y ∈ m.f[k].k ++ m.f[k].v) : y ∈ m.vals := List.mem_flatMap.2 ⟨_, List.getElem_mem hk, hy⟩
end Go.Tr
namespace Go.Proofs.YthikfifoomfjgaaGreat
open Go.RowKit Go.Tr
set_option maxRecDepth 100000
set_option linter.unusedVariables false
set_option linter.unusedSimpArgs false
section
attribute [local go_sem] run_store
def ShalOut (m : Msg) (k : Int) (w : World) (e : Ending) (w' : World) : Prop := e = .returned (.bool (decide ((m.deep : Int) ≤ k))) ∧ Below w.heap.size w w'
theorem shal_1 (L n : Nat) (hm : ∀ w cs m (k : Int), RMsg L 0 w n cs m → -1000 ≤ k → k ≤ 1000 → Calls Tryz.prog 34 #[.agg cs.toArray, .int .i64 k] w (ShalOut m k w)) (b : Nat) (k : Int) (h1 : -500 ≤ k) (h2 : k ≤ 1000)
    (w : World) (cs : List Value) (x : Msg) (hok : IntAt b k w) (hx : RMsg L 0 w n cs x) :
    Calls Tryz.prog 65 (#[.agg cs.toArray] ++ #[.pointer (some ⟨b, 0, none⟩)]) w fun e w' => e = .returned (.bool (!decide ((x.deep : Int) ≤ k - 1))) ∧ Below w.heap.size w w' := by
  obtain ⟨c, rfl, o⟩ := rmsg_one L 0 n w cs x hx
  have HM := Lib.hid (hm (w.alloc (.cells #[c] 28)) [c] x (k - 1) (RMsg.below (al1 _ _) n hx) (by omega) (by omega))
  unfold IntAt at hok
  have bl := block_lt_of_cell hok
  have hw : wrap64 (k - 1) = k - 1 := by unfold wrap64; omega
  clear hm hx
  go_enter Tryz.func65, Tryz.ntmps65
  go_wp2_with (go_at_call 34; (with_reducible refine HM.out.mono ?_); rintro e w' ⟨rfl, b'⟩)
  exact ⟨rfl, _, results_tmp (t := 3) rfl _ _ _, rfl, (al1 _ _).nx b'⟩
set_option maxHeartbeats 4000000 in
theorem shal_step (L n : Nat) (hL : L ≤ 1048576) (hm : ∀ w cs m (k : Int), RMsg L 0 w n cs m → -1000 ≤ k → k ≤ 1000 → Calls Tryz.prog 34 #[.agg cs.toArray, .int .i64 k] w (ShalOut m k w))
    (w : World) (cs : List Value) (m : Msg) (k : Int) (hx : RMsg L 0 w (n + 1) cs m) (h1 : -1000 ≤ k) (h2 : k ≤ 1000) :
    Calls Tryz.prog 34 #[.agg cs.toArray, .int .i64 k] w (ShalOut m k w) := by
  obtain ⟨c, rfl, h4⟩ := hx
  have H4 := Lib.hid h4
  obtain ⟨a1, cap1, rfl, q0, q1, q2, -, -⟩ := h4
  unfold maxLen at q2
  by_cases hk0 : k ≤ 0
  · have d0 : decide (k ≤ 0) = true := decide_eq_true hk0
    have hr : decide ((m.deep : Int) ≤ k) = false := decide_eq_false (by have := deep_pos m; omega)
    have HR := Lib.hid hr
    clear hm hr
    go_enter Tryz.func34, Tryz.ntmps34
    go_wp2
    exact ⟨rfl, _, results_tmp (t := 4) rfl _ _ _, by rw [HR.out]; rfl, al2 _ _ _⟩
  · have d0 : decide (k ≤ 0) = false := decide_eq_false hk0
    have HS := Lib.hid (fun b => containsFunc_msg L 0 (by unfold maxLen; omega) (fun w => RMsg L 0 w n) (rmsg_stands L 0 n) (rmsg_one L 0 n) (fun x => !decide ((x.deep : Int) ≤ k - 1)) 65 #[.pointer (some ⟨b, 0, none⟩)] (enters_of Tryz.func65 (by kernel_rfl) rfl)
      (IntAt b k) (intAt_below b k) (fun w cs x => shal_1 L n hm b k (by omega) h2 w cs x))
    clear hm
    go_enter Tryz.func34, Tryz.ntmps34
    go_wp2
    have HB0 := Lib.hid (al2 w (.cells #[.slice a1 m.f.length cap1] 28) (.cells #[.int .i64 k] 3))
    have HK0 := Lib.hid (show IntAt (w.heap.size + 1) k ((w.alloc (.cells #[.slice a1 m.f.length cap1] 28)).alloc (.cells #[.int .i64 k] 3)) by unfold IntAt; simp [go_sem])
    generalize (w.alloc (.cells #[.slice a1 m.f.length cap1] 28)).alloc (.cells #[.int .i64 k] 3) = w1 at *
    generalize w.heap.size + 1 = kb at *
    go_loopw [14] (fun iv wr => ∃ i : Nat, i ≤ m.f.length ∧ iv = .int .i64 i ∧ Hid (Low k (valsTo m i)) ∧ Hid (Below w1.heap.size w1 wr)) (fun iv _ => m.f.length - (intOf iv).toNat)
    case atStart => exact ⟨0, by omega, rfl, (fun y hy => by simp [valsTo] at hy), Below.refl _ _⟩
    case round =>
      obtain ⟨i, hi, rfl, HLo, HB⟩ := hrel
      obtain ⟨wA, rfl⟩ : ∃ wA, wA = wr := ⟨_, rfl⟩
      by_cases hlt : i < m.f.length
      · have HW := Lib.hid (HB0.out.nx HB.out)
        obtain ⟨bx, ox, c0, c1, c2, e1, -, m0, m1, m2, n0, n1, n2, rx⟩ := (H4.out.imp (R' := RSlot L 0 wA (RMsg L 0 wA n)) HW.out fun _ _ _ h => h.below HW.out).get3 (rslot_three L 0 n) i hlt
        cases e1
        have bl := block_lt_of_cell m0
        have hrs := rx.rows
        obtain ⟨d1, d2, e, -, -, r3, r4⟩ := rx
        cases e
        have HBM := Lib.hid (fun y hy => both_mem' hlt (y := y) hy)
        have hnext := valsTo_next m i hlt
        rw [Slot.both] at hnext
        have HNX := Lib.hid hnext
        clear hnext
        have R3 := Lib.hid r3
        have R4 := Lib.hid r4
        obtain ⟨a3, cap3, rfl, -⟩ := r3
        obtain ⟨a4, cap4, rfl, -⟩ := r4
        have HC := Lib.hid (concat_val L n hL ((wA.alloc (.cells #[.int .i64 m.f[i].no, .slice a3 m.f[i].k.length cap3, .slice a4 m.f[i].v.length cap4] 35)).alloc (.cells #[.slice a3 m.f[i].k.length cap3, .slice a4 m.f[i].v.length cap4] 33)) (wA.heap.size + 1) _ _ m.f[i].k m.f[i].v (by simp [go_sem]) (by simp [go_sem])
          (R3.out.imp (al2 _ _ _) fun _ _ _ h => h.below (al2 _ _ _)) (R4.out.imp (al2 _ _ _) fun _ _ _ h => h.below (al2 _ _ _)))
        generalize m.f[i].k ++ m.f[i].v = bs at *
        clear R3 R4
        go_wp2_with (go_at_call 64; (with_reducible refine HC.out.mono ?_); rintro e wB ⟨vB, rfl, rB, bB⟩; (have RB := Lib.hid rB); (have BB := Lib.hid ((al2 _ _ _).nx bB)); (obtain ⟨aB, capB, rfl, y0, y1, y2, -, -⟩ := rB); clear bB HC m0 m1 m2 bl)
        unfold maxLen at y2
        go_loopw [25] (fun jv wr => ∃ j : Nat, j ≤ bs.length ∧ jv = .int .i64 j ∧ Hid (Low k (bs.take j)) ∧ Hid (Below wB.heap.size wB wr)) (fun jv _ => bs.length - (intOf jv).toNat)
        case atStart => exact ⟨0, by omega, rfl, (fun y hy => by simp at hy), Below.refl _ _⟩
        case round =>
          obtain ⟨j, hj, rfl, HLj, HB2⟩ := hrel
          obtain ⟨wC, rfl⟩ : ∃ wC, wC = wr := ⟨_, rfl⟩
          by_cases hlt2 : j < bs.length
          · obtain ⟨bv, ov, f0, f1, f2, e2, -, s0, s1, s2, u0, u1, u2, rv⟩ := (RB.out.imp (R' := RVal L 0 wC (RMsg L 0 wC n)) HB2.out fun _ _ _ h => h.below HB2.out).get3 (rval_three L 0 n) j hlt2
            cases e2
            have bl := block_lt_of_cell s0
            obtain ⟨fm, e, -, -, -, rm⟩ := rv
            cases e
            have RM := Lib.hid rm
            obtain ⟨a5, cap5, rfl, -⟩ := rm
            have hok : IntAt kb k wC := intAt_below kb k _ _ HK0.out (HB.out.nx (BB.out.nx HB2.out))
            have HCF := Lib.hid (HS.out kb (wC.alloc (.cells #[.int .i64 bs[j].n, .string bs[j].s, .slice a5 bs[j].m.length cap5] 39)) _ bs[j].m (RM.out.imp (al1 _ _) fun _ _ _ h => RMsg.below (al1 _ _) n h) (intAt_below kb k _ _ hok (al1 _ _)))
            clear RM hok
            cases hany : (bs[j].m.any fun x => !decide ((x.deep : Int) ≤ k - 1)) with
            | true =>
              obtain ⟨x, hx, hxk⟩ := List.any_eq_true.1 hany
              have hnot := Low.not (HBM.out _ (List.getElem_mem hlt2)) hx (by simpa using hxk)
              have HR := Lib.hid (show decide ((m.deep : Int) ≤ k) = false from decide_eq_false hnot)
              rw [hany] at HCF
              clear hany hx hxk hnot
              go_wp2_with (go_at_call 41; (with_reducible refine HCF.out.mono ?_); rintro e wD ⟨rfl, bD⟩)
              exact ⟨rfl, _, results_tmp (t := 4) rfl _ _ _, by rw [HR.out]; rfl, HB0.out.nx (HB.out.nx (BB.out.nx (HB2.out.nx ((al1 _ _).nx bD))))⟩
            | false =>
              have hlow : Low k (bs.take (j + 1)) := by
                rw [List.take_succ_eq_append_getElem hlt2]
                refine HLj.out.app fun y hy x hx => ?_
                obtain rfl : y = bs[j] := by simpa using hy
                have := List.any_eq_false.1 hany x hx
                simp at this
                omega
              have HLN := Lib.hid hlow
              rw [hany] at HCF
              clear hany hlow
              go_wp2_with (go_at_call 41; (with_reducible refine HCF.out.mono ?_); rintro e wD ⟨rfl, bD⟩)
              refine ⟨⟨j + 1, by omega, rfl, HLN, Lib.hid (HB2.out.nx ((al1 _ _).nx bD))⟩, ?_⟩
              simp only [intOf, Int.toNat_natCast]
              omega
          · obtain rfl : j = bs.length := by omega
            have HLN := Lib.hid (show Low k (valsTo m (i + 1)) by
              rw [HNX.out]
              have h := HLj.out
              rw [List.take_length] at h
              exact HLo.out.app h)
            go_wp2
            refine ⟨⟨i + 1, by omega, rfl, HLN, Lib.hid (HB.out.nx (BB.out.nx HB2.out))⟩, ?_⟩
            simp only [intOf, Int.toNat_natCast]
            omega
      · obtain rfl : i = m.f.length := by omega
        have HR := Lib.hid (show decide ((m.deep : Int) ≤ k) = true from decide_eq_true (Low.deep (by omega) (by have h := HLo.out; rw [valsTo_end] at h; exact h)))
        go_wp2
        exact ⟨rfl, _, results_tmp (t := 4) rfl _ _ _, by rw [HR.out]; rfl, HB0.out.nx HB.out⟩
/-- typed.shallow. -/
theorem typed_shallow (L : Nat) (hL : L ≤ 1048576) : ∀ (n : Nat) (w : World) (cs : List Value) (m : Msg) (k : Int), RMsg L 0 w n cs m → -1000 ≤ k → k ≤ 1000 →
    Calls Tryz.prog 34 #[.agg cs.toArray, .int .i64 k] w (ShalOut m k w)
  | 0, _, _, _, _, h, _, _ => h.elim
  | n + 1, w, cs, m, k, h, h1, h2 => shal_step L n hL (fun w cs m k => typed_shallow L hL n w cs m k) w cs m k h h1 h2
end
end Go.Proofs.YthikfifoomfjgaaGreat
