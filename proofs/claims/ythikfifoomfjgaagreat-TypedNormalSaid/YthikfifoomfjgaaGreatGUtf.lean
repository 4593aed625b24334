/- Contract of utf.Fine, as the other texts ask for it. -/
import Derived.Test.YthikfifoomfjgaaGreatPAx0
import Derived.Test.YthikfifoomfjgaaGreatMem
import Derived.Test.YthikfifoomfjgaaGreatUtfDec
namespace Go.Utf
/-- Are the bytes from one place to another one UTF-8? -/
def fineB (l : List Int) (at_ upto : Int) : Bool :=
  decide (0 ≤ at_) && decide (at_ ≤ upto) && decide (upto ≤ l.length) && decide (firstN ((l.take upto.toNat).drop at_.toNat) = (upto - at_).toNat)
end Go.Utf
namespace Go.Proofs.YthikfifoomfjgaaGreat.PA
open Go.RowKit Go.Proofs.YthikfifoomfjgaaGreatW.PrintWords Go.Proofs.YthikfifoomfjgaaGreatW.PrintLast Go.Proofs.YthikfifoomfjgaaGreatW.PrintMore
set_option linter.unusedVariables false
set_option linter.unusedSimpArgs false
set_option maxHeartbeats 2000000 in
theorem utf_first (w : World) (A : Option Addr) (cap : Nat) (l : List Int) (h : (Kd.int .u8).C w A l.length l) (h3 : ∀ n ∈ l, 0 ≤ n ∧ n ≤ 255) (hm : l.length ≤ 140737488355328) :
    Calls Tryz.prog 113 #[.slice A l.length cap] w fun e w' => e = .returned (.int .i64 (Utf.firstN l)) ∧ Below w.heap.size w w' := by
  have hcv := Kd.C_string (P := Tryz.prog) (c := cap) Tryz.underlying107 Tryz.underlying5 Tryz.underlying9 h
  have hz := strOfNums_size l
  have hz1 : (strOfNums l).size ≤ l.length := by omega
  have hz2 : l.length ≤ (strOfNums l).size := by omega
  have HZ := Lib.hid hz
  clear hz
  have HR := Lib.hid (Utf.round_at l h3)
  have HE := Lib.hid (Utf.ext3 l h3)
  clear h3
  go_enter Tryz.func113, Tryz.ntmps113
  go_wp2; go_step3; go_wp2; go_step3; go_wp2
  clear hcv
  go_loopg [4] l.length (fun g n wr => ∃ p : Nat, p ≤ l.length ∧ wr = w.iter (strOfNums l) p ∧ Hid (Utf.firstN l = p + Utf.firstN (l.drop p)) ∧ n = .int .i64 l.length ∧ l.length - p ≤ g)
  case atStart => exact ⟨0, by omega, rfl, by show _ = _; simp, by rw [HZ.out], by omega⟩
  case round =>
    obtain ⟨p, hp, rfl, hf, rfl, hg⟩ := hrel
    by_cases hlt : p < l.length
    · obtain ⟨c, k, hd, hcase⟩ := HR.out p hlt
      have hnx := fun ty => run_next_sign (P := Tryz.prog) w (strOfNums l) p ty c k (by rw [HZ.out]; exact hlt) hd
      rcases hcase with ⟨hs, rfl, hno⟩ | ⟨hs, rfl, hyes⟩
      · have hfin : Utf.firstN l = p := by rw [hf.out, Utf.firstN_zero hs, Nat.add_zero]
        have HF := Lib.hid hfin
        clear hfin hs hd
        by_cases h3 : p + 3 ≤ l.length
        · have he : (((strOfNums l).extract p (p + 3)).toList == [239, 191, 189]) = false := by
            rw [HE.out p h3]; simp; intro q1 q2 q3; exact hno ⟨h3, q1, q2, q3⟩
          clear hno
          go_wp2
          try rw [Exit.noGoto_ret]
          go_ret
          exact ⟨by rw [HF.out]; rfl, ((Below.refl _ _).alloc (Nat.le_refl _) _)⟩
        · clear hno
          go_wp2
          try rw [Exit.noGoto_ret]
          go_ret
          exact ⟨by rw [HF.out]; rfl, ((Below.refl _ _).alloc (Nat.le_refl _) _)⟩
      · have hle := Utf.sgn_le (l.drop p)
        rw [List.length_drop] at hle
        have hnext : Utf.firstN l = (p + Utf.sgn (l.drop p) : Nat) + Utf.firstN (l.drop (p + Utf.sgn (l.drop p))) := by
          rw [hf.out, Utf.firstN_step hs, List.drop_drop]; omega
        have HN := Lib.hid hnext
        clear hnext hd
        by_cases hc : c = 65533
        · obtain ⟨h3, hq⟩ := hyes hc
          have he : (((strOfNums l).extract p (p + 3)).toList == [239, 191, 189]) = true := by
            rw [HE.out p h3]; simpa using hq
          clear hyes hq
          subst hc
          generalize Utf.sgn (l.drop p) = k at *
          go_wp2
          go_roundg (l.length - (p + k))
          case measure => omega
          case rel => exact ⟨p + k, by omega, rfl, HN.out, rfl, by omega⟩
        · clear hyes
          have hc1 : ((c : Int) == 65533) = false := by simp; omega
          clear hc
          generalize Utf.sgn (l.drop p) = k at *
          go_wp2
          go_roundg (l.length - (p + k))
          case measure => omega
          case rel => exact ⟨p + k, by omega, rfl, HN.out, rfl, by omega⟩
    · have hpe : p = l.length := by omega
      subst hpe
      have hfin : Utf.firstN l = l.length := by rw [hf.out]; simp [Utf.firstN_nil]
      have HF := Lib.hid hfin
      clear hfin
      have hnx := fun ty => run_next_end (P := Tryz.prog) w (strOfNums l) l.length ty (by rw [HZ.out]; omega)
      go_wp2
      try rw [Exit.noGoto_ret]
      go_ret
      exact ⟨by rw [HF.out]; rfl, ((Below.refl _ _).alloc (Nat.le_refl _) _)⟩
theorem ret_bool' {a b : Bool} (h : a = b) : Ending.returned (.bool a) = .returned (.bool b) := by rw [h]
/-- Bytes that are bytes, no more than a slice can have. -/
def isBytes (l : List Int) : Bool := l.all (fun n => decide (0 ≤ n) && decide (n ≤ 255)) && decide (l.length ≤ 140737488355328)
theorem isBytes_out {l : List Int} (h : isBytes l = true) : (∀ n ∈ l, 0 ≤ n ∧ n ≤ 255) ∧ l.length ≤ 140737488355328 := by
  simpa [isBytes] using h
def utf_Fine.f (l0 : List Int) (a1 : Int) (a2 : Int) : Option (Bool) := if isBytes l0 = true then some (Utf.fineB l0 a1 a2) else none
theorem info_u8 : ∃ i, Tryz.prog.info? 5 = some i ∧ i.size = 1 := by
  have h : (Tryz.prog.info? 5).map (·.size) = some 1 := by kernel_rfl
  cases e : Tryz.prog.info? 5 with
  | none => rw [e] at h; cases h
  | some i => rw [e] at h; exact ⟨i, rfl, Option.some.inj h⟩
set_option maxHeartbeats 2000000 in
theorem utf_Fine.calls (A0 : Option Addr) (c0 : Nat) (l0 : List Int) (a1 : Int) (a2 : Int) (r : Bool) (w : World) (hr0 : Kd.C (Kd.int .u8) w A0 l0.length l0) (hc0 : l0.length ≤ c0) (h : utf_Fine.f l0 a1 a2 = some r) :
    Calls Tryz.prog 83 #[.slice A0 l0.length c0, .int .i64 a1, .int .i64 a2] w fun e w' => e = .returned (.bool r) ∧ Below w.heap.size w w' := by
  unfold utf_Fine.f at h
  split at h
  case isFalse => cases h
  rename_i hu
  obtain ⟨hby, hm⟩ := isBytes_out hu
  obtain rfl := Option.some.inj h
  clear h hu
  by_cases c1 : 0 ≤ a1
  · by_cases c2 : a1 ≤ a2
    · by_cases c3 : a2 ≤ l0.length
      · obtain ⟨i0, hi, hsz⟩ := info_u8
        obtain ⟨A', hsl, hrd, hcap⟩ := print_mid_int (P := Tryz.prog) (k := .u8) 107 5 Tryz.underlying107 hi hsz A0 c0 l0 a1 a2 c1 c2 c3 hc0
        have hC := Kd.C_of_reads (d := (0 : Int)) (h1 := fun _ => rfl) (hrd w (Kd.reads_of_C (enc := Value.int .u8) (d := (0 : Int)) (h1 := fun _ => rfl) hr0))
        have hle := Utf.firstN_le ((l0.take a2.toNat).drop a1.toNat)
        have hf := Lib.hid (utf_first w A' (c0 - a1.toNat) _ hC (fun n hn => hby n (List.mem_of_mem_take (List.mem_of_mem_drop hn))) (by simp; omega))
        have hlen : ((l0.take a2.toNat).drop a1.toNat).length = a2.toNat - a1.toNat := by simp; omega
        have e1 : Utf.fineB l0 a1 a2 = ((Utf.firstN ((l0.take a2.toNat).drop a1.toNat) : Int) == a2 - a1) := by
          unfold Utf.fineB
          rw [Bool.eq_iff_iff]
          simp; omega
        have E1 := Lib.hid e1
        have HSL := Lib.hid hsl
        clear e1 hsl hrd hC hr0 hlen hi hsz
        generalize Utf.firstN ((l0.take a2.toNat).drop a1.toNat) = n at *
        have hsl := HSL.out
        generalize ((l0.take a2.toNat).drop a1.toNat) = l' at *
        clear HSL
        go_enter Tryz.func83, Tryz.ntmps83
        go_wp2_with (go_at_call 113; refine (hf.out).mono ?_; rintro e w1 ⟨rfl, b1⟩)
        go_ret
        exact ⟨ret_bool' (by rw [E1.out]), b1⟩
      · have e1 : Utf.fineB l0 a1 a2 = false := by simp [Utf.fineB]; omega
        have E1 := Lib.hid e1
        clear e1 hr0
        go_enter Tryz.func83, Tryz.ntmps83
        go_wp2
        go_ret
        exact ⟨ret_bool' (by rw [E1.out]), Below.refl _ _⟩
    · have e1 : Utf.fineB l0 a1 a2 = false := by simp [Utf.fineB]; omega
      have E1 := Lib.hid e1
      clear e1 hr0
      go_enter Tryz.func83, Tryz.ntmps83
      go_wp2
      go_ret
      exact ⟨ret_bool' (by rw [E1.out]), Below.refl _ _⟩
  · have e1 : Utf.fineB l0 a1 a2 = false := by simp [Utf.fineB]; omega
    have E1 := Lib.hid e1
    clear e1 hr0
    go_enter Tryz.func83, Tryz.ntmps83
    go_wp2
    go_ret
    exact ⟨ret_bool' (by rw [E1.out]), Below.refl _ _⟩
end Go.Proofs.YthikfifoomfjgaaGreat.PA
