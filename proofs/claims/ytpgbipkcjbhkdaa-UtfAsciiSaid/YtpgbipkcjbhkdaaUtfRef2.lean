/- Contracts of the reference's First, Fine and Less, of utf.Less, and of the statements' own test of chapter 4. -/
import Derived.Test.YtpgbipkcjbhkdaaUtfRef
namespace Go.Utf
open Go.Op
set_option linter.unusedVariables false
set_option linter.unusedSimpArgs false
theorem bytesLess_drop (a b : List UInt8) (k : Nat) (ha : k < a.length) (hb : k < b.length) (h : a[k] = b[k]) :
    bytesLess (a.drop k) (b.drop k) = bytesLess (a.drop (k + 1)) (b.drop (k + 1)) := by
  rw [List.drop_eq_getElem_cons ha, List.drop_eq_getElem_cons hb]
  simp [bytesLess, h]
theorem bytesLess_ne (a b : List UInt8) (k : Nat) (ha : k < a.length) (hb : k < b.length) (h : a[k] ≠ b[k]) :
    bytesLess (a.drop k) (b.drop k) = decide (a[k] < b[k]) := by
  rw [List.drop_eq_getElem_cons ha, List.drop_eq_getElem_cons hb]
  simp [bytesLess, h]
theorem bytesLess_end (a b : List UInt8) (k : Nat) (hk1 : k ≤ a.length) (hk2 : k ≤ b.length) (h : ¬ (k < a.length ∧ k < b.length)) :
    bytesLess (a.drop k) (b.drop k) = decide (a.length < b.length) := by
  by_cases h1 : k < a.length
  · have : b.drop k = [] := by simp; omega
    rw [this]
    simp [bytesLess]; omega
  · have : a.drop k = [] := by simp; omega
    rw [this]
    by_cases h2 : k < b.length
    · rw [List.drop_eq_getElem_cons h2]
      simp [bytesLess]; omega
    · have : b.drop k = [] := by simp; omega
      rw [this]
      simp [bytesLess]; omega
end Go.Utf
namespace Go.Proofs.Ytpgbipkcjbhkdaa
open Go.RowKit
set_option linter.unusedVariables false
set_option linter.unusedSimpArgs false
set_option maxHeartbeats 2000000 in
theorem ref_first (w : World) (v : Value) (l : List Int) (h : Bytes w v l) (hm : l.length ≤ 140737488355328) :
    Calls Try.prog 18 #[v] w fun e w' => e = .returned (.int .i64 (Utf.firstN l)) ∧ w = w' := by
  obtain ⟨a, cap, rfl, h1, h2, h3, h5, h4⟩ := h
  have hB := Lib.hid (fun p hp => ref_sign w a cap l p hp ⟨a, cap, rfl, h1, h2, h3, h5, h4⟩ hm)
  clear h2 h3 h4 h5
  go_enter Try.func18, Try.ntmps18
  go_wp2
  go_loop [3] (fun i => ∃ p : Nat, p ≤ l.length ∧ Hid (Utf.firstN l = p + Utf.firstN (l.drop p)) ∧ i = .int .i64 p) (fun i => l.length - (intOf i).toNat)
  case atStart => exact ⟨0, by omega, by show _ = _; simp, rfl⟩
  case round =>
    obtain ⟨p, hp, hf, rfl⟩ := hrel
    by_cases hlt : p < l.length
    · have hs := Lib.hid (hB.out p hlt)
      by_cases hz : Utf.sgn (l.drop p) = 0
      · have hfin : Utf.firstN l = p := by rw [hf.out, Utf.firstN_zero hz, Nat.add_zero]
        have HF := Lib.hid hfin
        unfold SignPost at hs
        rw [hz] at hs
        clear hfin hz
        go_wp2_with (go_at_call 30; refine (hs.out).mono ?_; rintro e w1 ⟨rfl, rfl⟩)
        go_ret
        exact ⟨by rw [HF.out]; rfl, rfl⟩
      · have hle := Utf.sgn_le (l.drop p)
        rw [List.length_drop] at hle
        have hnext : Utf.firstN l = (p + Utf.sgn (l.drop p) : Nat) + Utf.firstN (l.drop (p + Utf.sgn (l.drop p))) := by
          rw [hf.out, Utf.firstN_step (by omega), List.drop_drop]; omega
        have HN := Lib.hid hnext
        clear hnext
        have hz' : 0 < Utf.sgn (l.drop p) := by omega
        clear hz
        unfold SignPost at hs
        generalize Utf.sgn (l.drop p) = k at *
        go_wp2_with (go_at_call 30; refine (hs.out).mono ?_; rintro e w1 ⟨rfl, rfl⟩)
        go_round
        case rel => exact ⟨p + k, by omega, HN.out, by go_num⟩
        case measure => simp [intOf]; omega
    · have hpe : p = l.length := by omega
      subst hpe
      have hfin : Utf.firstN l = l.length := by rw [hf.out]; simp [Utf.firstN_nil]
      have HF := Lib.hid hfin
      clear hfin
      go_wp2
      go_ret
      exact ⟨by rw [HF.out]; rfl, rfl⟩
set_option maxHeartbeats 2000000 in
theorem ref_fine (w : World) (v : Value) (l : List Int) (i j : Int) (h : Bytes w v l) (hm : l.length ≤ 140737488355328)
    (i0 : -9223372036854775808 ≤ i) (i1 : i ≤ 9223372036854775807) (j0 : -9223372036854775808 ≤ j) (j1 : j ≤ 9223372036854775807) :
    Calls Try.prog 17 #[v, .int .i64 i, .int .i64 j] w fun e w' => e = .returned (.bool (Utf.fineB l i j)) ∧ Below w.heap.size w w' := by
  have hB := h
  obtain ⟨a, cap, rfl, -, -, -, -, -⟩ := h
  by_cases c1 : 0 ≤ i
  · by_cases c2 : i ≤ j
    · by_cases c3 : j ≤ l.length
      · obtain ⟨i, rfl⟩ := Int.eq_ofNat_of_zero_le c1
        obtain ⟨j, rfl⟩ := Int.eq_ofNat_of_zero_le (Int.le_trans c1 c2)
        obtain ⟨a', cap', hsl, hb'⟩ := hB.slice (P := Try.prog) i j (by omega) (by omega) Try.underlying22 Try.sizeOf5
        have hle := Utf.firstN_le ((l.take j).drop i)
        have hf := Lib.hid (ref_first w _ _ hb' (by simp; omega))
        clear hB hb'
        have e1 : Utf.fineB l i j = ((Utf.firstN ((l.take j).drop i) : Int) == (j : Int) - i) := by
          unfold Utf.fineB
          rw [Bool.eq_iff_iff]
          simp; omega
        have E1 := Lib.hid e1
        clear e1
        generalize Utf.firstN ((l.take j).drop i) = n at *
        go_enter Try.func17, Try.ntmps17
        go_wp2_with (go_at_call 18; refine (hf.out).mono ?_; rintro e w1 ⟨rfl, rfl⟩)
        go_ret
        exact ⟨ret_bool (by rw [E1.out]), Below.refl _ _⟩
      · have e1 : Utf.fineB l i j = false := by simp [Utf.fineB]; omega
        have E1 := Lib.hid e1
        clear e1 hB
        go_enter Try.func17, Try.ntmps17
        go_wp2
        go_ret
        exact ⟨ret_bool (by rw [E1.out]), Below.refl _ _⟩
    · have e1 : Utf.fineB l i j = false := by simp [Utf.fineB]; omega
      have E1 := Lib.hid e1
      clear e1 hB
      go_enter Try.func17, Try.ntmps17
      go_wp2
      go_ret
      exact ⟨ret_bool (by rw [E1.out]), Below.refl _ _⟩
  · have e1 : Utf.fineB l i j = false := by simp [Utf.fineB]; omega
    have E1 := Lib.hid e1
    clear e1 hB
    go_enter Try.func17, Try.ntmps17
    go_wp2
    go_ret
    exact ⟨ret_bool (by rw [E1.out]), Below.refl _ _⟩
theorem utf_less (a b : ByteArray) (w : World) : Calls Try.prog 19 #[.string a, .string b] w fun e w' => e = .returned (.bool (Op.bytesLess a.toList b.toList)) ∧ w = w' := by
  go_enter Try.func19, Try.ntmps19
  go_wp2
  go_ret
  exact ⟨rfl, rfl⟩
set_option maxHeartbeats 2000000 in
theorem ref_less (a b : ByteArray) (ha : a.size ≤ 140737488355328) (hb : b.size ≤ 140737488355328) (w : World) :
    Calls Try.prog 20 #[.string a, .string b] w fun e w' => e = .returned (.bool (Op.bytesLess a.toList b.toList)) ∧ ∃ n, w' = w.drewN n := by
  have la : a.data.toList.length = a.size := Array.length_toList
  have lb : b.data.toList.length = b.size := Array.length_toList
  have LA := Lib.hid la
  have LB := Lib.hid lb
  clear la lb
  go_enter Try.func20, Try.ntmps20
  go_wp2
  go_loopw [5] (fun i wr => ∃ k n : Nat, k ≤ a.size ∧ k ≤ b.size ∧ wr = w.drewN n ∧ Hid (Op.bytesLess a.toList b.toList = Op.bytesLess (a.data.toList.drop k) (b.data.toList.drop k)) ∧ i = .int .i64 k) (fun i _ => a.size - (intOf i).toNat)
  case atStart => exact ⟨0, 0, by omega, by omega, rfl, by show _ = _; rw [Lib.toList_data, Lib.toList_data]; rfl, rfl⟩
  case round =>
    obtain ⟨k, n, hk1, hk2, rfl, hf, rfl⟩ := hrel
    by_cases c1 : k < a.size
    · by_cases c2 : k < b.size
      · have d1 : decide ((k : Int) < (a.size : Int)) = true := by simpa using c1
        have d2 : decide ((k : Int) < (b.size : Int)) = true := by simpa using c2
        have ea : a[k] = a.data.toList[k]'(by rw [LA.out]; exact c1) := by simp [ByteArray.getElem_eq_getElem_data]
        have eb : b[k] = b.data.toList[k]'(by rw [LB.out]; exact c2) := by simp [ByteArray.getElem_eq_getElem_data]
        by_cases q : a[k] = b[k]
        · have hn := hf.out.trans (Utf.bytesLess_drop _ _ k (by rw [LA.out]; exact c1) (by rw [LB.out]; exact c2) (by rw [← ea, ← eb]; exact q))
          have HN := Lib.hid hn
          have e1 : ((a[k].toNat : Int) == (b[k].toNat : Int)) = true := by rw [q]; simp
          clear hn q ea eb
          go_wp2_with fail
          go_quiet (fail)
          go_wp2
          go_roundw
          case rel => exact ⟨k + 1, n + nq, by omega, by omega, by simp, HN.out, by go_num⟩
          case measure => simp [intOf]; omega
        · have hn := hf.out.trans (Utf.bytesLess_ne _ _ k (by rw [LA.out]; exact c1) (by rw [LB.out]; exact c2) (by rw [← ea, ← eb]; exact q))
          have hn2 : Op.bytesLess a.toList b.toList = decide (a[k].toNat < b[k].toNat) := by
            rw [hn, ← ea, ← eb]; simp [UInt8.lt_iff_toNat_lt]
          have HN := Lib.hid hn2
          have e1 : ((a[k].toNat : Int) == (b[k].toNat : Int)) = false := by
            simp; intro h; exact q (UInt8.toNat_inj.1 (by omega))
          clear hn hn2 q ea eb
          go_wp2_with fail
          go_quiet (fail)
          go_wp2_with fail
          go_quiet (fail)
          go_wp2
          go_ret
          exact ⟨by rw [HN.out]; rfl, _, World.drewN_drewN _ _ _⟩
      · have hn := hf.out.trans (Utf.bytesLess_end _ _ k (by rw [LA.out]; exact hk1) (by rw [LB.out]; exact hk2) (by rw [LA.out, LB.out]; omega))
        rw [LA.out, LB.out] at hn
        have HN := Lib.hid hn
        clear hn
        have d1 : decide ((k : Int) < (a.size : Int)) = true := by simpa using c1
        have d2 : decide ((k : Int) < (b.size : Int)) = false := by simpa using c2
        go_wp2_with fail
        go_quiet (fail)
        go_wp2
        go_ret
        exact ⟨by rw [HN.out]; simp, _, rfl⟩
    · have hn := hf.out.trans (Utf.bytesLess_end _ _ k (by rw [LA.out]; exact hk1) (by rw [LB.out]; exact hk2) (by rw [LA.out, LB.out]; omega))
      rw [LA.out, LB.out] at hn
      have HN := Lib.hid hn
      clear hn
      have d1 : decide ((k : Int) < (a.size : Int)) = false := by simpa using c1
      go_wp2_with fail
      go_quiet (fail)
      go_wp2
      go_ret
      exact ⟨by rw [HN.out]; simp, _, rfl⟩
/-- A row of bytes that was made just now reads as they do. -/
theorem bytes_new (w : World) (l : List Int) (t : TypeId) (hb : ∀ n ∈ l, 0 ≤ n ∧ n ≤ 255) (hl : l.length ≤ maxLen) :
    Bytes (w.alloc (.cells (l.map (Value.int .u8)).toArray t)) (.slice (some ⟨w.heap.size, 0, none⟩) l.length l.length) l := by
  refine ⟨_, _, rfl, Nat.le_refl _, hl, hb, by simp, fun _ => ⟨_, _, rfl, fun i hi => ?_⟩⟩
  rw [cell_of_row _ _ _ _ _ _ (heap_alloc_new w _)]
  simp [List.getD, hi]
set_option maxHeartbeats 1000000 in
theorem utf_awake (w : World) : Calls Try.prog 14 #[] w fun e w' => e = .returned (.bool true) ∧ Below w.heap.size w w' := by
  have f1 : Utf.fineB [195, 169] 0 2 = true := by
    have e1 : Utf.sgn [195, 169] = 2 := by decide
    have : Utf.firstN [195, 169] = 2 := by rw [Utf.firstN_step (by omega), e1]; simp [Utf.firstN_nil]
    simp [Utf.fineB, this]
  have f2 : Utf.fineB [195] 0 1 = false := by
    have e1 : Utf.sgn [195] = 0 := by decide
    have : Utf.firstN [195] = 0 := Utf.firstN_zero e1
    simp [Utf.fineB, this]
  have h1 := Lib.hid (fun w v h => f1 ▸ utf_fine w v [195, 169] 0 2 h (by decide) (by decide) (by decide) (by decide) (by decide))
  have h2 := Lib.hid (fun w v h => f2 ▸ utf_fine w v [195] 0 1 h (by decide) (by decide) (by decide) (by decide) (by decide))
  clear f1 f2
  go_enter Try.func14, Try.ntmps14
  go_wp2_with fail
  refine (h1.out _ _ (bytes_new w [195, 169] 5 (by decide) (by decide))).mono ?_
  rintro e w1 ⟨rfl, b1⟩
  go_wp2_with fail
  refine (h2.out _ _ (bytes_new w1 [195] 5 (by decide) (by decide))).mono ?_
  rintro e w2 ⟨rfl, b2⟩
  go_wp2_with fail
  go_ret
  exact ⟨rfl, (((Below.refl _ _).alloc (Nat.le_refl _) _).nx b1 |>.nx ((Below.refl _ _).alloc (Nat.le_refl _) _)).nx b2⟩
end Go.Proofs.Ytpgbipkcjbhkdaa
