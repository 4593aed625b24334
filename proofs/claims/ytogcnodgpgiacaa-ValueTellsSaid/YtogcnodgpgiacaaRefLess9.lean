/- Contracts of the reference's Less of chapters 4 and 9. -/
import Derived.Test.YtogcnodgpgiacaaFew9
namespace Go.Utf
open Go.Op
set_option linter.unusedVariables false
set_option linter.unusedSimpArgs false
theorem bytesLess_drop (a b : List UInt8) (k : Nat) (ha : k < a.length) (hb : k < b.length) (h : a[k] = b[k]) :
    bytesLess (a.drop k) (b.drop k) = bytesLess (a.drop (k + 1)) (b.drop (k + 1)) := by
  rw [List.drop_eq_getElem_cons ha, List.drop_eq_getElem_cons hb]
  simp [bytesLess, h]
theorem bytesLess_ne (a b : List UInt8) (k : Nat) (ha : k < a.length) (hb : k < b.length) (h : a[k] ≠ b[k]) :
    bytesLess (a.drop k) (b.drop k) = decide (a[k] < b[k]) := by
  rw [List.drop_eq_getElem_cons ha, List.drop_eq_getElem_cons hb]
  simp [bytesLess, h]
theorem bytesLess_end (a b : List UInt8) (k : Nat) (hk1 : k ≤ a.length) (hk2 : k ≤ b.length) (h : ¬ (k < a.length ∧ k < b.length)) :
    bytesLess (a.drop k) (b.drop k) = decide (a.length < b.length) := by
  by_cases h1 : k < a.length
  · have : b.drop k = [] := by simp; omega
    rw [this]
    simp [bytesLess]; omega
  · have : a.drop k = [] := by simp; omega
    rw [this]
    by_cases h2 : k < b.length
    · rw [List.drop_eq_getElem_cons h2]
      simp [bytesLess]; omega
    · have : b.drop k = [] := by simp; omega
      rw [this]
      simp [bytesLess]; omega
end Go.Utf
namespace Go.Proofs.Ytogcnodgpgiacaa
open Go.RowKit Go.Tr
set_option linter.unusedVariables false
set_option linter.unusedSimpArgs false
set_option maxHeartbeats 2000000 in
theorem ref_less (a b : ByteArray) (ha : a.size ≤ 9223372036854775807) (hb : b.size ≤ 9223372036854775807) (w : World) :
    Calls Try.prog 45 #[.string a, .string b] w fun e w' => e = .returned (.bool (Op.bytesLess a.toList b.toList)) ∧ ∃ n, w' = w.drewN n := by
  have la : a.data.toList.length = a.size := Array.length_toList
  have lb : b.data.toList.length = b.size := Array.length_toList
  have LA := Lib.hid la
  have LB := Lib.hid lb
  clear la lb
  go_enter Try.func45, Try.ntmps45
  go_wp2
  go_loopw [5] (fun i wr => ∃ k n : Nat, k ≤ a.size ∧ k ≤ b.size ∧ wr = w.drewN n ∧ Hid (Op.bytesLess a.toList b.toList = Op.bytesLess (a.data.toList.drop k) (b.data.toList.drop k)) ∧ i = .int .i64 k) (fun i _ => a.size - (intOf i).toNat)
  case atStart => exact ⟨0, 0, by omega, by omega, rfl, by show _ = _; rw [Lib.toList_data, Lib.toList_data]; rfl, rfl⟩
  case round =>
    obtain ⟨k, n, hk1, hk2, rfl, hf, rfl⟩ := hrel
    by_cases c1 : k < a.size
    · by_cases c2 : k < b.size
      · have d1 : decide ((k : Int) < (a.size : Int)) = true := by simpa using c1
        have d2 : decide ((k : Int) < (b.size : Int)) = true := by simpa using c2
        have ea : a[k] = a.data.toList[k]'(by rw [LA.out]; exact c1) := by simp [ByteArray.getElem_eq_getElem_data]
        have eb : b[k] = b.data.toList[k]'(by rw [LB.out]; exact c2) := by simp [ByteArray.getElem_eq_getElem_data]
        by_cases q : a[k] = b[k]
        · have hn := hf.out.trans (Utf.bytesLess_drop _ _ k (by rw [LA.out]; exact c1) (by rw [LB.out]; exact c2) (by rw [← ea, ← eb]; exact q))
          have HN := Lib.hid hn
          have e1 : ((a[k].toNat : Int) == (b[k].toNat : Int)) = true := by rw [q]; simp
          clear hn q ea eb
          go_wp2_with fail
          go_quiet (fail)
          go_wp2
          go_roundw
          case rel => exact ⟨k + 1, n + nq, by omega, by omega, by simp, HN.out, by go_num⟩
          case measure => simp [intOf]; omega
        · have hn := hf.out.trans (Utf.bytesLess_ne _ _ k (by rw [LA.out]; exact c1) (by rw [LB.out]; exact c2) (by rw [← ea, ← eb]; exact q))
          have hn2 : Op.bytesLess a.toList b.toList = decide (a[k].toNat < b[k].toNat) := by
            rw [hn, ← ea, ← eb]; simp [UInt8.lt_iff_toNat_lt]
          have HN := Lib.hid hn2
          have e1 : ((a[k].toNat : Int) == (b[k].toNat : Int)) = false := by
            simp; intro h; exact q (UInt8.toNat_inj.1 (by omega))
          clear hn hn2 q ea eb
          go_wp2_with fail
          go_quiet (fail)
          go_wp2_with fail
          go_quiet (fail)
          go_wp2
          go_ret
          exact ⟨by rw [HN.out]; rfl, _, World.drewN_drewN _ _ _⟩
      · have hn := hf.out.trans (Utf.bytesLess_end _ _ k (by rw [LA.out]; exact hk1) (by rw [LB.out]; exact hk2) (by rw [LA.out, LB.out]; omega))
        rw [LA.out, LB.out] at hn
        have HN := Lib.hid hn
        clear hn
        have d1 : decide ((k : Int) < (a.size : Int)) = true := by simpa using c1
        have d2 : decide ((k : Int) < (b.size : Int)) = false := by simpa using c2
        go_wp2_with fail
        go_quiet (fail)
        go_wp2
        go_ret
        exact ⟨by rw [HN.out]; simp, _, rfl⟩
    · have hn := hf.out.trans (Utf.bytesLess_end _ _ k (by rw [LA.out]; exact hk1) (by rw [LB.out]; exact hk2) (by rw [LA.out, LB.out]; omega))
      rw [LA.out, LB.out] at hn
      have HN := Lib.hid hn
      clear hn
      have d1 : decide ((k : Int) < (a.size : Int)) = false := by simpa using c1
      go_wp2_with fail
      go_quiet (fail)
      go_wp2
      go_ret
      exact ⟨by rw [HN.out]; simp, _, rfl⟩
set_option maxHeartbeats 2000000 in
theorem ref_less9 (R : List Value → Msg → Prop) (L B : Nat) (w w0 : World) (cs ds : List Value) (x y : Val) (hx : RVal L B w0 R cs x) (hy : RVal L B w0 R ds y) :
    Calls Try.prog 27 #[.agg cs.toArray, .agg ds.toArray] w fun e w' => e = .returned (.bool (lessVal x y)) ∧ Below w.heap.size w w' := by
  obtain ⟨c, rfl, -, -, h1, -⟩ := hx
  obtain ⟨d, rfl, -, -, h2, -⟩ := hy
  unfold maxLen at h1 h2
  have HL := Lib.hid fun w' => ref_less x.s y.s (by omega) (by omega) w'
  clear h1 h2
  go_enter Try.func27, Try.ntmps27
  go_wp2_with fail
  refine (HL.out _).mono ?_; rintro e w1 ⟨rfl, k, rfl⟩
  have hB := Lib.hid (((al1 w (.cells #[.int .i64 x.n, .string x.s, c] 38)).nx (al1 _ (.cells #[.int .i64 y.n, .string y.s, d] 38))).nx (below_drewN (Below.refl _ _) k))
  by_cases c1 : x.n < y.n
  · have d1 : decide (x.n < y.n) = true := by simpa using c1
    have HE := Lib.hid (show lessVal x y = true by unfold lessVal; rw [d1]; rfl)
    clear c1
    go_wp2_with fail
    exact ⟨rfl, _, results_tmp (t := 4) rfl _ _ _, by first | (rw [HE.out]; done) | (rw [HE.out]; rfl), hB.out⟩
  · have d1 : decide (x.n < y.n) = false := by simpa using c1
    by_cases c2 : x.n = y.n
    · have d2 : (x.n == y.n) = true := by simpa using c2
      have HE := Lib.hid (show lessVal x y = Op.bytesLess x.s.toList y.s.toList by unfold lessVal; rw [d1, decide_eq_true c2]; rfl)
      clear c1 c2
      go_wp2_with fail
      exact ⟨rfl, _, results_tmp (t := 4) rfl _ _ _, by first | (rw [HE.out]; done) | (rw [HE.out]; rfl), hB.out⟩
    · have d2 : (x.n == y.n) = false := by simpa using c2
      have HE := Lib.hid (show lessVal x y = false by unfold lessVal; rw [d1, decide_eq_false c2]; rfl)
      clear c1 c2
      go_wp2_with fail
      exact ⟨rfl, _, results_tmp (t := 4) rfl _ _ _, by first | (rw [HE.out]; done) | (rw [HE.out]; rfl), hB.out⟩
end Go.Proofs.Ytogcnodgpgiacaa
