/- The statement ValueDeep: for every list of at most 20 messages that are not too great, a message around them is one deeper than the deepest one and has all their values, and one for each; no condition. -/
import Derived.Test.YtogcnodgpgiacaaRows
import Derived.WalkKit
import Derived.ProofKit
import Derived.OpenShut
import Derived.ShutString
import Derived.ChangeOld
import Derived.Below
import Derived.SizedLaws
import Derived.ChangeSlices
import Derived.Test.YtogcnodgpgiacaaMk9
import Derived.Test.YtogcnodgpgiacaaFew9
import Derived.Test.YtogcnodgpgiacaaAwake9
namespace Go.Proofs.Ytogcnodgpgiacaa.valueDeep
open Go.ChangeShapes Go.WideShapes Go.ChangeAt Go.RowKit Go.Tr Go.Proofs.Ytogcnodgpgiacaa
open Go.ChangeMaps (open_string shut_string)
set_option linter.unusedVariables false
set_option linter.unusedSimpArgs false

theorem own : ownKnob Try.prog.godebug = none := by kernel_rfl
theorem laidOut : laidOutB Try.prog = true := by kernel_rfl
theorem below_abc (w : World) (A B C : Obj) : Below w.heap.size w (((w.drew.alloc A).alloc B).alloc C) :=
  (((Below.refl w.heap.size w).drew.alloc (Nat.le_refl _) A).alloc (by simp) B).alloc (by simp; omega) C
theorem blk_a (w : World) (A B C : Obj) : (((w.drew.alloc A).alloc B).alloc C).heap[w.heap.size]? = some A := by
  have h1 : (w.drew.alloc A).heap[w.heap.size]? = some A := heap_alloc_new w.drew A
  have h2 := (al1 (w.drew.alloc A) B).block w.heap.size (lt_blk h1)
  have h3 := (al1 ((w.drew.alloc A).alloc B) C).block w.heap.size (lt_blk (h2.trans h1))
  exact h3.trans (h2.trans h1)
theorem blk_b (w : World) (A B C : Obj) : (((w.drew.alloc A).alloc B).alloc C).heap[w.heap.size + 1]? = some B := by
  have h1 := heap_alloc_new (w.drew.alloc A) B
  rw [show (w.drew.alloc A).heap.size = w.heap.size + 1 by simp] at h1
  exact ((al1 ((w.drew.alloc A).alloc B) C).block (w.heap.size + 1) (lt_blk h1)).trans h1
theorem blk_c (w : World) (A B C : Obj) : (((w.drew.alloc A).alloc B).alloc C).heap[w.heap.size + 1 + 1]? = some C := by
  have h1 := heap_alloc_new ((w.drew.alloc A).alloc B) C
  rw [show ((w.drew.alloc A).alloc B).heap.size = w.heap.size + 1 + 1 by simp] at h1
  exact h1
theorem own_slice {w : World} {B e k n : Nat} {v : Value} {xs : List Value} (h : w.ownsRow B e k v n xs) : ∃ a m c, v = .slice a m c := by
  rcases h.2 with ⟨h, -⟩ | ⟨g, cap, cur, h, -⟩
  · exact ⟨_, _, _, h⟩
  · exact ⟨_, _, _, h⟩
theorem sum_le (l : List Msg) (h : ∀ x ∈ l, x.weight ≤ 3000 ∧ (x.deep : Int) ≤ 60) : sumOf l ≤ l.length * 3001 := by
  induction l with
  | nil => simp [sumOf]
  | cons x r ih =>
    have h1 := ih fun y hy => h y (by simp [hy])
    have h2 := (size_le_weight (d := 60) (m := x) (h x (by simp))).1
    have e : sumOf (x :: r) = x.size + 1 + sumOf r := by simp [sumOf]
    rw [e, List.length_cons, Nat.add_mul]
    omega
theorem most_le (l : List Msg) (h : ∀ x ∈ l, x.weight ≤ 3000 ∧ (x.deep : Int) ≤ 60) : mostOf l ≤ 60 := by
  induction l with
  | nil => decide
  | cons x r ih =>
    have h1 := ih fun y hy => h y (by simp [hy])
    have h2 := (h x (by simp)).2
    have e : mostOf (x :: r) = max x.deep (mostOf r) := by
      have := foldl_max (r.map Msg.deep) (max 0 x.deep)
      simp [mostOf] at this ⊢
      rw [this]
    rw [e]
    omega
/-! THE WALK -/
set_option maxHeartbeats 8000000 in
set_option maxRecDepth 100000 in
theorem walk (n : Nat) (w : World) (c0 : Value) (x0 : List Msg) (h0 : RowOf Great 0 w 1 (RMsg Great 0 w n) c0 x0) :
    Calls Try.prog 5 #[c0] w fun e w' => e = .returned (.bool true) ∧ Below w.heap.size w w' := by
  have HA := Lib.hid fun w' => Go.Proofs.Ytogcnodgpgiacaa.awake w'
  have H0 := Lib.hid h0
  obtain ⟨al, cap0, rfl, q0, q1, q2, q3, -⟩ := h0
  unfold maxLen at q2
  obtain ⟨i3, hi3, hz3, hs3, hb3⟩ := info_parts (P := Try.prog) (e := 27) (z := .agg #[.int .i64 0, .slice none 0 0, .slice none 0 0]) (size := 3) (bytes := 56) (by kernel_rfl)
  have z3 : (Value.agg #[.int .i64 0, .slice none 0 0, .slice none 0 0]).cells.size = 3 := rfl
  go_enter Try.func5, Try.ntmps5
  go_wp2_with fail
  refine (HA.out _).mono ?_; rintro e w1 ⟨rfl, b1⟩
  have B1 := Lib.hid b1
  clear b1
  by_cases hl : 20 < x0.length
  · have hd : decide ((x0.length : Int) > 20) = true := decide_eq_true (by omega)
    go_wp2_with fail
    exact ⟨rfl, _, results_tmp (t := 2) rfl _ _ _, rfl, B1.out⟩
  have hd : decide ((x0.length : Int) > 20) = false := decide_eq_false (by omega)
  go_wp2_with fail
  clear hd
  go_loopw [5, 6, 7] (fun v5 v6 v7 wr => ∃ (i : Nat) (vm : Value), i ≤ x0.length ∧ v7 = .int .i64 i ∧ v5 = .int .i64 (mostOf (x0.take i)) ∧ v6 = .int .i64 (sumOf (x0.take i)) ∧ Hid (Made9 10000 w wr w1.heap.size n vm (slots (x0.take i))) ∧ Hid (wr.heap[w1.heap.size]? = some (.cells #[vm] 24 (0, 0))) ∧ Hid (∀ x ∈ x0.take i, x.weight ≤ 3000 ∧ (x.deep : Int) ≤ 60) ∧ Hid (Below w.heap.size w wr)) (fun _ _ v7 _ => x0.length - (intOf v7).toNat)
  case atStart => exact ⟨0, .slice none 0 0, Nat.zero_le _, rfl, rfl, rfl, Lib.hid (Made9.nil _ _ _ _ _), Lib.hid (heap_alloc_new w1 _), Lib.hid (by simp), Lib.hid (B1.out.nx (al1 _ _))⟩
  case round =>
    rename World => wA
    obtain ⟨i, vm, hi, rfl, rfl, rfl, HM, HX, HL, HB⟩ := hrel
    have qb : wA.cell? ⟨w1.heap.size, 0, none⟩ = some vm := cell_of_row wA w1.heap.size 0 #[vm] 24 (0, 0) HX.out
    have qf : wA.frozen? ⟨w1.heap.size, 0, none⟩ = false := by simp [World.frozen?, HX.out]
    have ltb := lt_blk HX.out
    have hsum := sum_le _ HL.out
    have hmost := most_le _ HL.out
    rw [List.length_take] at hsum
    by_cases hlt : i < x0.length
    · obtain ⟨b3', o3, f0, e3, -, s0, t0, rz⟩ := H0.out.get1 (rmsg_one Great 0 n) i hlt
      cases e3
      have hf0 : ∃ a cap, f0 = .slice a x0[i].f.length cap := by
        cases n with
        | zero => exact rz.elim
        | succ n => exact rmsg_slice rz
      obtain ⟨aF, capF, rfl⟩ := hf0
      have s1 := (HB.out.cell (block_lt_of_cell s0)).trans s0
      have S0 := Lib.hid s0
      have ltf := block_lt_of_cell s0
      have HT := Lib.hid (List.take_succ_eq_append_getElem hlt)
      have hmn : min i x0.length = i := by omega
      rw [hmn] at hsum
      generalize x0[i] = x at *
      have HF := Lib.hid (ref_few Great n (by decide) wA [.slice aF x.f.length capF] x 60 (by omega) (by omega) (RMsg.below HB.out n rz))
      go_wp2_with fail
      refine HF.out.mono ?_; rintro e w3 ⟨⟨b, rfl, hbt⟩, b3⟩
      cases b with
      | false =>
        go_wp2_with fail
        exact ⟨rfl, _, results_tmp (t := 2) rfl _ _ _, rfl, HB.out.nx b3⟩
      | true =>
        obtain ⟨hw1, hw2⟩ := hbt rfl
        have MX := Lib.hid (RMsg.shrink (L' := 10000) n rz (by omega))
        obtain ⟨ys, hown0, hpart0⟩ := HM.out.below b3
        have hown := Lib.hid hown0
        have hpart := Lib.hid hpart0
        have HX3 := Lib.hid ((b3.block _ ltb).trans HX.out)
        have HB3 := Lib.hid (HB.out.nx b3)
        have s3 : w3.cell? ⟨b3', o3 + i, none⟩ = some (.slice aF x.f.length capF) := (b3.cell (block_lt_of_cell s1)).trans s1
        have ltf3 := block_lt_of_cell s3
        have qb3 : w3.cell? ⟨w1.heap.size, 0, none⟩ = some vm := cell_of_row w3 w1.heap.size 0 #[vm] 24 (0, 0) HX3.out
        have ltb3 := lt_blk HX3.out
        have ltb4 : w1.heap.size < w3.heap.size + 1 := by omega
        have ltb5 : w1.heap.size < w3.heap.size + 1 + 1 := by omega
        have ltf4 : b3' < w3.heap.size + 1 := by have h : b3' < w3.heap.size := ltf3; omega
        have ltf5 : b3' < w3.heap.size + 1 + 1 := by omega
        have HLN := Lib.hid (show ∀ y ∈ x0.take (i + 1), y.weight ≤ 3000 ∧ (y.deep : Int) ≤ 60 from fun y hy => by
          rw [HT.out] at hy
          rcases List.mem_append.1 hy with h | h
          · exact HL.out y h
          · rw [List.mem_singleton.1 h]; exact ⟨hw1, hw2⟩)
        have HSL := Lib.hid (show slots (x0.take (i + 1)) = slots (x0.take i) ++ [slotOf i x] by
          rw [HT.out, slots_snoc, List.length_take, hmn])
        have hsl : (slots (x0.take i)).length = i := by rw [slots_len, List.length_take, hmn]
        have hbase : w1.heap.size + 1 ≤ w3.heap.size := by omega
        have hBB := Lib.hid B1.out.size
        clear hbt hown0 hpart0 HM HX qb qf ltb s0 s1 ltf rz
        go_upto_region 12 with fail
        go_cut [41] from 17 to 62 (fun _ wc => ∃ v', Hid (Made9 10000 w wc w1.heap.size n v' (slots (x0.take (i + 1)))) ∧ Hid (wc.heap[w1.heap.size]? = some (.cells #[v'] 24 (0, 0))) ∧ Hid (Below w.heap.size w wc) ∧ Hid (Below w3.heap.size w3 wc ∨ True))
        case first =>
          go_region_law (first
            | (refine step_append_src rfl (.tmp 30) (.tmp 40) 22 rfl (w1.heap.size + 1) 27 i3 _ 3 56 Try.underlying22 hi3 hz3 hs3 hb3 z3 (by omega) _ (slots (x0.take i)).length ys (by simp [Act.eval, Act.put]) (owns_below hown.out (below_abc w3 (.cells #[.slice aF x.f.length capF] 24) (.cells #[.int .i64 0, .string ByteArray.empty, .slice (some ⟨w3.heap.size, 0, none⟩) 1 1] 38) (.cells #[.int .i64 i, .slice none 0 0, .slice (some ⟨w3.heap.size + 1, 0, none⟩) 1 1] 27))) (some ⟨w3.heap.size + 1 + 1, 0, none⟩) 1 1 [.int .i64 i, .slice none 0 0, .slice (some ⟨w3.heap.size + 1, 0, none⟩) 1 1] (by simp [Act.eval, Act.put]) rfl (.inr ⟨_, rfl, block_src (blk_c w3 (.cells #[.slice aF x.f.length capF] 24) (.cells #[.int .i64 0, .string ByteArray.empty, .slice (some ⟨w3.heap.size, 0, none⟩) 1 1] 38) (.cells #[.int .i64 i, .slice none 0 0, .slice (some ⟨w3.heap.size + 1, 0, none⟩) 1 1] 27))⟩) (by simp [Value.oneCell']) (by unfold maxLen; omega) (by omega) (by simp; omega) ?_; rintro v9 w9 ho9 hg9;
                (obtain ⟨a9, n9, c9, rfl⟩ := own_slice ho9);
                (have hw9 := owns_below hown.out (below_abc w3 (.cells #[.slice aF x.f.length capF] 24) (.cells #[.int .i64 0, .string ByteArray.empty, .slice (some ⟨w3.heap.size, 0, none⟩) 1 1] 38) (.cells #[.int .i64 i, .slice none 0 0, .slice (some ⟨w3.heap.size + 1, 0, none⟩) 1 1] 27)));
                (have hkb : some w1.heap.size ≠ vm.ownBlock := fun e => by have := (hw9.lt _ e.symm).1; omega);
                (have X9 := Lib.hid ((hg9.block w1.heap.size (Nat.lt_of_lt_of_le ltb3 (below_abc w3 (.cells #[.slice aF x.f.length capF] 24) (.cells #[.int .i64 0, .string ByteArray.empty, .slice (some ⟨w3.heap.size, 0, none⟩) 1 1] 38) (.cells #[.int .i64 i, .slice none 0 0, .slice (some ⟨w3.heap.size + 1, 0, none⟩) 1 1] 27)).size) hkb).trans (((below_abc w3 (.cells #[.slice aF x.f.length capF] 24) (.cells #[.int .i64 0, .string ByteArray.empty, .slice (some ⟨w3.heap.size, 0, none⟩) 1 1] 38) (.cells #[.int .i64 i, .slice none 0 0, .slice (some ⟨w3.heap.size + 1, 0, none⟩) 1 1] 27)).block _ ltb3).trans HX3.out)));
                (have q9 : w9.cell? ⟨w1.heap.size, 0, none⟩ = some vm := cell_of_row w9 w1.heap.size 0 #[vm] 24 (0, 0) X9.out);
                (have qf9 : w9.frozen? ⟨w1.heap.size, 0, none⟩ = false := by simp [World.frozen?, X9.out]);
                (have M9 := Lib.hid (Made9.app hw9 (Part.imp9 hpart.out fun cs s hs => hs.imp fun b _ c t hg _ => ((below_abc w3 (.cells #[.slice aF x.f.length capF] 24) (.cells #[.int .i64 0, .string ByteArray.empty, .slice (some ⟨w3.heap.size, 0, none⟩) 1 1] 38) (.cells #[.int .i64 i, .slice none 0 0, .slice (some ⟨w3.heap.size + 1, 0, none⟩) 1 1] 27)).block b (lt_blk hg)).trans hg) ⟨(i : Int), x, w3.heap.size + 1, w3.heap.size, aF, capF, rfl, by omega, by omega, rfl, by omega, by omega, blk_b w3 _ _ _, blk_a w3 _ _ _, MX.out⟩ ho9 hg9));
                (have B9 := Lib.hid ((HB3.out.nx (below_abc w3 (.cells #[.slice aF x.f.length capF] 24) (.cells #[.int .i64 0, .string ByteArray.empty, .slice (some ⟨w3.heap.size, 0, none⟩) 1 1] 38) (.cells #[.int .i64 i, .slice none 0 0, .slice (some ⟨w3.heap.size + 1, 0, none⟩) 1 1] 27))).grown hg9 (Nat.le_trans HB3.out.size (below_abc w3 (.cells #[.slice aF x.f.length capF] 24) (.cells #[.int .i64 0, .string ByteArray.empty, .slice (some ⟨w3.heap.size, 0, none⟩) 1 1] 38) (.cells #[.int .i64 i, .slice none 0 0, .slice (some ⟨w3.heap.size + 1, 0, none⟩) 1 1] 27)).size) (fun k hk => by have h1 := (hw9.lt k hk).1; have h2 := hBB.out; omega)));
                (have z9 := lt_blk X9.out); clear ho9 hg9 hw9 hkb)
            | fail)
          all_goals (go_wp2_with fail; go_meet)
          all_goals exact ⟨_, Lib.hid (by rw [HSL.out]; exact M9.out.set _), Lib.hid (heap_setCell_same w9 w1.heap.size 0 #[vm] 24 _ X9.out), Lib.hid (B9.out.setCell (p := ⟨w1.heap.size, 0, none⟩) hBB.out _), Lib.hid (Or.inr trivial)⟩
        case rest =>
          obtain ⟨vn, HMN, HXN, HBN, -⟩ := hcut
          have sc := (HBN.out.cell (block_lt_of_cell S0.out)).trans S0.out
          have ltc := block_lt_of_cell sc
          have hxs := (size_le_weight (d := 60) (m := x) ⟨hw1, hw2⟩).1
          have HSZ := Lib.hid (fun w' (hb : Below w.heap.size w w') => value_size 10000 (by omega) n w' [.slice aF x.f.length capF] x (RMsg.below hb n MX.out) (by omega))
          have HDP := Lib.hid (fun w' (hb : Below w.heap.size w w') => value_deep 10000 (by omega) n w' [.slice aF x.f.length capF] x (RMsg.below hb n MX.out) (by omega))
          have HS6 := Lib.hid (show sumOf (x0.take (i + 1)) = sumOf (x0.take i) + (x.size + 1) by rw [HT.out, sumOf_snoc])
          have HM6 := Lib.hid (show mostOf (x0.take (i + 1)) = max (mostOf (x0.take i)) x.deep by rw [HT.out, mostOf_snoc])
          generalize sumOf (x0.take i) = zz at *
          generalize mostOf (x0.take i) = dd at *
          have hzz : zz ≤ 70000 := by omega
          clear s3 ltf3 qb3 ltb3 ltb4 ltb5 ltf4 ltf5 hbase hown hpart HX3 hsl
          go_wp2_with fail
          refine (HSZ.out _ HBN.out).mono ?_; rintro e w5 ⟨rfl, b5⟩
          have HB5 := Lib.hid (HBN.out.nx b5)
          have M5 := Lib.hid (HMN.out.below b5)
          have X5 := Lib.hid ((b5.block _ (lt_blk HXN.out)).trans HXN.out)
          clear b5 sc ltc
          have sc := (HB5.out.cell (block_lt_of_cell S0.out)).trans S0.out
          have ltc := block_lt_of_cell sc
          go_wp2_with fail
          refine (HDP.out _ HB5.out).mono ?_; rintro e w6 ⟨rfl, b6⟩
          have HB6 := Lib.hid (HB5.out.nx b6)
          have M6 := Lib.hid (M5.out.below b6)
          have X6 := Lib.hid ((b6.block _ (lt_blk X5.out)).trans X5.out)
          clear b6 sc ltc
          have sc := (HB6.out.cell (block_lt_of_cell S0.out)).trans S0.out
          have ltc := block_lt_of_cell sc
          by_cases hgt : dd < x.deep
          · have hd9 : decide ((x.deep : Int) > (dd : Int)) = true := decide_eq_true (by omega)
            go_wp2_with fail
            refine (HDP.out _ HB6.out).mono ?_; rintro e w7 ⟨rfl, b7⟩
            go_wp2_with fail
            go_roundw
            case rel => exact ⟨i + 1, vn, by omega, by go_num, by rw [HM6.out, Nat.max_eq_right (by omega)], by rw [HS6.out]; congr 1, Lib.hid (M6.out.below b7), Lib.hid ((b7.block _ (lt_blk X6.out)).trans X6.out), HLN, Lib.hid (HB6.out.nx b7)⟩
            case measure => simp [intOf]; omega
          · have hd9 : decide ((x.deep : Int) > (dd : Int)) = false := decide_eq_false (by omega)
            go_wp2_with fail
            go_roundw
            case rel => exact ⟨i + 1, vn, by omega, by go_num, by rw [HM6.out, Nat.max_eq_left (by omega)], by rw [HS6.out]; congr 1, M6, X6, HLN, HB6⟩
            case measure => simp [intOf]; omega
    · obtain rfl : i = x0.length := by omega
      have HLL := HL.out
      rw [List.take_length] at HLL hsum hmost
      have HM' := Lib.hid (show Made9 10000 w wA w1.heap.size n vm (slots x0) by have := HM.out; rwa [List.take_length] at this)
      have hx9 : x0.length * 3001 ≤ 60020 := by omega
      have hmin : min x0.length x0.length = x0.length := Nat.min_self _
      rw [hmin] at hsum
      have HDP := Lib.hid (show Calls Try.prog 20 #[.agg #[vm]] wA fun e w' => e = .returned (.int .i64 ((mostOf x0 + 1 : Nat) : Int)) ∧ Below wA.heap.size wA w' by
        have h := value_deep 10000 (by omega) (n + 2) wA [vm] (.mk (slots x0)) (HM'.out.msg (by rw [slots_len]; omega) (by omega) HB.out) (by rw [slots_deep]; omega)
        rw [slots_deep] at h
        exact h)
      have HSZ := Lib.hid (fun w' (hb : Below wA.heap.size wA w') => show Calls Try.prog 19 #[.agg #[vm]] w' fun e w'' => e = .returned (.int .i64 (sumOf x0 : Int)) ∧ Below w'.heap.size w' w'' by
        have h := value_size 10000 (by omega) (n + 2) w' [vm] (.mk (slots x0)) ((HM'.out.below hb).msg (by rw [slots_len]; omega) (by omega) (HB.out.nx hb)) (by rw [slots_size]; omega)
        rw [slots_size] at h
        exact h)
      have e1 : mostOf (List.take x0.length x0) = mostOf x0 := by rw [List.take_length]
      have e2 : sumOf (List.take x0.length x0) = sumOf x0 := by rw [List.take_length]
      have X9 := HX
      clear HM HX HL HLL HM' hmin
      rw [e1, e2]
      clear e1 e2
      generalize sumOf x0 = zz at *
      generalize mostOf x0 = dd at *
      go_wp2_with fail
      refine HDP.out.mono ?_; rintro e w5 ⟨rfl, b5⟩
      have X5 := Lib.hid ((b5.block _ ltb).trans X9.out)
      have B5 := Lib.hid b5
      clear b5 qb qf ltb
      have qb : w5.cell? ⟨w1.heap.size, 0, none⟩ = some vm := cell_of_row w5 w1.heap.size 0 #[vm] 24 (0, 0) X5.out
      have ltb := lt_blk X5.out
      have hq : (((dd + 1 : Nat) : Int) == (dd : Int) + 1) = true := by simp
      go_wp2_with fail
      refine (HSZ.out _ B5.out).mono ?_; rintro e w6 ⟨rfl, b6⟩
      go_wp2_with fail
      exact ⟨rfl, _, results_tmp (t := 2) rfl _ _ _, rfl, HB.out.nx (B5.out.nx b6)⟩

/-! THE ROW -/
set_option maxRecDepth 100000 in
theorem lifted (os : Os) (started : os.Started) (H : Type) (enc : TypeId × Value → H) :
    ReturnsInHanded {} Try.checked os 5 .any (Rows.valueDeepSpec.pre6 enc Try.prog Try.f5 Rows.valueDeepRow.domain false) (Rows.valueDeepSpec.post enc Try.prog Try.f5 false true false false) := by
  refine returnsInHanded_of_change_sized (C := Try.checked) own started (by kernel_rfl) Try.func5
    (ChangeSpec.witness6 (enc := enc) (C := Try.checked) false ⟨#[], #[.slice none 0 0], []⟩ 8 (by kernel_rfl) (by kernel_rfl) (by kernel_rfl) (by kernel_rfl)) ?_
  intro W base args ds gs before hval0 hW hcnd hsz0 _
  have hsz : (DataW.weightsEach Try.prog (Try.f5.params.toList ++ Rows.valueDeepSpec.plain.varTypes Try.prog) (ds ++ gs)).all (· ≤ reachBytes) = true := hsz0
  have hval : ∀ (j : Nat) t v, Try.f5.params[j]? = some t → args[j]? = some v → Value.okWide Try.prog W .any base t v := hval0
  have hW' := hW
  obtain ⟨p, q, hA0, hV, rfl, hfz, hnd⟩ := hW
  have hA : DataW.TrodAll enc Try.prog W 0 (fun _ => true) true Try.f5.params.toList args.toList ds p := hA0
  rw [Try.params5] at hA hval hsz
  obtain ⟨v0, vs0, d0, ds0, p0, q0, hargs, rfl, rfl, h0, r0⟩ := trodAll_cons hA
  obtain ⟨rfl, rfl, rfl⟩ := trodAll_nil r0
  obtain rfl : args = #[v0] := by cases args; simp_all
  obtain ⟨rfl, rfl⟩ := trodVars_none hV
  have k0 := h0
  have lt0 : ∀ x ∈ p0, x.block < W.heap.size := by obtain ⟨m, hm⟩ := k0; exact DataW.trod_lt m _ _ _ hm
  have hw0 : ∀ z ∈ d0.weights Try.prog 36, z ≤ reachBytes := fun z hz => by simpa using List.all_eq_true.1 hsz z (DataW.weights_mem_each (j := 0) rfl rfl z hz)
  obtain ⟨a0, len0, cap0, rfl⟩ := okWide_slice Try.underlying36 (hval 0 36 v0 rfl rfl)
  obtain ⟨fuel0, hf0⟩ := h0
  obtain ⟨c0, x0, e0, g0⟩ := open_row (k := 1) (bytes := 24) (L := Great) Try.underlying36 (by kernel_rfl) (by omega) (by kernel_rfl) (by decide) (by omega) hf0 hw0 (RMsg Great 0 W fuel0) fun n' cs' y hn h3 h4 => by
    obtain ⟨m, hm⟩ := open_msg n' cs' y h3 h4
    exact ⟨m, RMsg.keep (Nat.le_refl _) (Keeps.refl _ _) n' fuel0 (by omega) hm⟩
  have e0' : c0 = .slice a0 len0 cap0 := by simpa [Value.cells] using e0.symm
  subst e0'
  clear hA0 hval0 hsz0 hsz
  refine (walk (fuel0) W _ x0 (g0.gen g0.len (Nat.le_refl _) (Keeps.refl _ _) fun _ _ _ h => RMsg.keep (Nat.le_refl _) (Keeps.refl _ _) _ _ (by omega) h)).mono fun e W' ⟨he, bel⟩ => ?_
  subst he
  exact ⟨_, rfl, _, _, _, [], _, [], hW', trodAll_mk1 (shut_bool Try.underlying4 _), (trodAll_cons_mk (Below.trod laidOut (by kernel_rfl) (of_decide_eq_true (by kernel_rfl)) k0 bel lt0) trodAll_mk0), rfl, bel.frame _, fun h => by cases h⟩

theorem over : Rows.valueDeepRow.holds Try.pinned (OpenSpec.ofChange Rows.valueDeepSpec) :=
  OpenClaim.holds_of_wide 5 Try.f5 rfl rfl rfl rfl rfl rfl rfl ⟨rfl, rfl, rfl, rfl, rfl⟩ rfl rfl rfl rfl rfl (by kernel_rfl) Try.func5 (by kernel_rfl)
    (of_decide_eq_true (by kernel_rfl)) (by unfold Func.isWrapper; first | (rw [if_pos (by decide +kernel)]; kernel_rfl) | (rw [if_neg (by decide +kernel)]; exact ⟨rfl, rfl⟩))
    (fun os started H enc _ => lifted os started H enc)

/-- THE STATEMENT -/
theorem proved : Rows.ValueDeepSaid := over
#print axioms proved
end Go.Proofs.Ytogcnodgpgiacaa.valueDeep
