/- Contracts of utf.First and utf.Fine, by the plain functions of UtfPlain. -/
import Derived.Test.YtpgbipkcjbhkdaaRows
import Derived.Test.YtpgbipkcjbhkdaaMem
import Derived.Test.YtpgbipkcjbhkdaaUtfDec
namespace Go.Proofs.Ytpgbipkcjbhkdaa
open Go.RowKit
set_option linter.unusedVariables false
set_option linter.unusedSimpArgs false
set_option maxHeartbeats 2000000 in
theorem utf_first (w : World) (v : Value) (l : List Int) (h : Bytes w v l) (hm : l.length ≤ 140737488355328) :
    Calls Try.prog 16 #[v] w fun e w' => e = .returned (.int .i64 (Utf.firstN l)) ∧ Below w.heap.size w w' := by
  have hcv := h.convert (P := Try.prog) Try.underlying22 Try.underlying5 Try.underlying9
  obtain ⟨a, cap, rfl, h1, h2, h3, h5, h4⟩ := h
  clear h4
  have hz := strOfNums_size l
  have hz1 : (strOfNums l).size ≤ l.length := by omega
  have hz2 : l.length ≤ (strOfNums l).size := by omega
  have HZ := Lib.hid hz
  clear h2 h5 hz
  have HR := Lib.hid (Utf.round_at l h3)
  have HE := Lib.hid (Utf.ext3 l h3)
  clear h3
  go_enter Try.func16, Try.ntmps16
  go_wp2; go_step3; go_wp2; go_step3; go_wp2
  clear hcv
  go_loopg [4] l.length (fun g n wr => ∃ p : Nat, p ≤ l.length ∧ wr = w.iter (strOfNums l) p ∧ Hid (Utf.firstN l = p + Utf.firstN (l.drop p)) ∧ n = .int .i64 l.length ∧ l.length - p ≤ g)
  case atStart => exact ⟨0, by omega, rfl, by show _ = _; simp, by rw [HZ.out], by omega⟩
  case round =>
    obtain ⟨p, hp, rfl, hf, rfl, hg⟩ := hrel
    by_cases hlt : p < l.length
    · obtain ⟨c, k, hd, hcase⟩ := HR.out p hlt
      have hnx := fun ty => run_next_sign (P := Try.prog) w (strOfNums l) p ty c k (by rw [HZ.out]; exact hlt) hd
      rcases hcase with ⟨hs, rfl, hno⟩ | ⟨hs, rfl, hyes⟩
      · have hfin : Utf.firstN l = p := by rw [hf.out, Utf.firstN_zero hs, Nat.add_zero]
        have HF := Lib.hid hfin
        clear hfin hs hd
        by_cases h3 : p + 3 ≤ l.length
        · have he : (((strOfNums l).extract p (p + 3)).toList == [239, 191, 189]) = false := by
            rw [HE.out p h3]; simp; intro q1 q2 q3; exact hno ⟨h3, q1, q2, q3⟩
          clear hno
          go_wp2
          try rw [Exit.noGoto_ret]
          go_ret
          exact ⟨by rw [HF.out]; rfl, ((Below.refl _ _).alloc (Nat.le_refl _) _)⟩
        · clear hno
          go_wp2
          try rw [Exit.noGoto_ret]
          go_ret
          exact ⟨by rw [HF.out]; rfl, ((Below.refl _ _).alloc (Nat.le_refl _) _)⟩
      · have hle := Utf.sgn_le (l.drop p)
        rw [List.length_drop] at hle
        have hnext : Utf.firstN l = (p + Utf.sgn (l.drop p) : Nat) + Utf.firstN (l.drop (p + Utf.sgn (l.drop p))) := by
          rw [hf.out, Utf.firstN_step hs, List.drop_drop]; omega
        have HN := Lib.hid hnext
        clear hnext hd
        by_cases hc : c = 65533
        · obtain ⟨h3, hq⟩ := hyes hc
          have he : (((strOfNums l).extract p (p + 3)).toList == [239, 191, 189]) = true := by
            rw [HE.out p h3]; simpa using hq
          clear hyes hq
          subst hc
          generalize Utf.sgn (l.drop p) = k at *
          go_wp2
          go_roundg (l.length - (p + k))
          case measure => omega
          case rel => exact ⟨p + k, by omega, rfl, HN.out, rfl, by omega⟩
        · clear hyes
          have hc1 : ((c : Int) == 65533) = false := by simp; omega
          clear hc
          generalize Utf.sgn (l.drop p) = k at *
          go_wp2
          go_roundg (l.length - (p + k))
          case measure => omega
          case rel => exact ⟨p + k, by omega, rfl, HN.out, rfl, by omega⟩
    · have hpe : p = l.length := by omega
      subst hpe
      have hfin : Utf.firstN l = l.length := by rw [hf.out]; simp [Utf.firstN_nil]
      have HF := Lib.hid hfin
      clear hfin
      have hnx := fun ty => run_next_end (P := Try.prog) w (strOfNums l) l.length ty (by rw [HZ.out]; omega)
      go_wp2
      try rw [Exit.noGoto_ret]
      go_ret
      exact ⟨by rw [HF.out]; rfl, ((Below.refl _ _).alloc (Nat.le_refl _) _)⟩
end Go.Proofs.Ytpgbipkcjbhkdaa
