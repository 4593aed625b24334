/- Bytes as a message's field: varint.Put and Get, what valid.Check tells of them there, in plain Lean; record.Put's contract for a run of bytes. -/
import Derived.Test.YtlokcpfkaijchaaPRec
import Derived.Test.YtlokcpfkaijchaaGPut
import Derived.Test.YtlokcpfkaijchaaPParts
import Derived.Test.YtlokcpfkaijchaaPRefMay
import Derived.Test.YtlokcpfkaijchaaPAx14
namespace Go.Proofs.Ytlokcpfkaijchaa.PA
open Go.RowKit Go.Proofs.YtlokcpfkaijchaaW.PrintWords Go.Proofs.YtlokcpfkaijchaaW.PrintLast Go.Proofs.YtlokcpfkaijchaaW.PrintMore
set_option linter.unusedVariables false
set_option linter.unusedSimpArgs false
theorem u64_id (n : Int) (h0 : 0 ≤ n) (h1 : n < 2 ^ 64) : IntKind.u64.wrap n = n := by
  rw [IntKind.wrap_u64]
  omega
theorem or_high (x y : Nat) (i : Nat) (hx : x < 2 ^ i) (hx2 : x < 2 ^ 64) (hy : y * 2 ^ i < 2 ^ 64) : Go.bits .or .u64 (x : Int) ((y * 2 ^ i : Nat) : Int) = ((x + y * 2 ^ i : Nat) : Int) := by
  rw [(bits_nat .u64 64 (by decide) u64_id x (y * 2 ^ i) hx2 hy).2, Nat.or_comm, Nat.mul_comm y, ← Nat.two_pow_add_eq_or_of_lt hx y, Nat.add_comm]
theorem low7 (B : Nat) (h : B < 256) : Go.bits .and .u8 (B : Int) 127 = ((B % 128 : Nat) : Int) := by
  have := bits_mask .u8 8 (by decide) wraps_u8 7 (by decide) (B : Int) (by omega) (by omega)
  rw [show ((2 : Int) ^ 7 - 1) = 127 by decide] at this
  rw [this]
  omega
theorem shl_is (y i : Nat) (hi : i ≤ 64) (h : y * 2 ^ i < 2 ^ 64) : shl .u64 (y : Int) (i : Int) = ((y * 2 ^ i : Nat) : Int) := by
  unfold shl
  rw [Int.toNat_natCast, show IntKind.u64.bits = 64 from rfl, Nat.min_eq_left hi]
  have e : (y : Int) * 2 ^ i = ((y * 2 ^ i : Nat) : Int) := by rw [Int.natCast_mul, Int.natCast_pow]; rfl
  rw [e]
  exact u64_id _ (by omega) (by exact_mod_cast h)
/-- Bytes stand at a place. -/
def At (c : List Int) (p : Int) (l : List Int) : Prop := ∀ t, t < l.length → rd c (p + t) = l.getD t 0
theorem At.tail {c : List Int} {p y : Int} {l : List Int} (h : At c p (y :: l)) : At c (p + 1) l := fun t ht => by
  have := h (t + 1) (by simp; omega)
  rw [show p + 1 + (t : Int) = p + ((t + 1 : Nat) : Int) by omega, this]
  simp
theorem At.head {c : List Int} {p y : Int} {l : List Int} (h : At c p (y :: l)) : rd c p = y := by
  have := h 0 (by simp)
  simpa using this
theorem vput_pos (k n : Nat) : 1 ≤ (vput k n).length := by
  cases k with
  | zero => simp [vput]
  | succ k => rw [vput]; split <;> simp
theorem get_put (c : List Int) (a1 a2 : Int) (h0 : 0 ≤ a1) (h2 : a2 ≤ c.length) (hc : c.length ≤ 1000000000) : ∀ (t i k m x V : Nat), t + i = 9 → 11 - i ≤ k → x < 2 ^ (7 * i) → V = x + m * 2 ^ (7 * i) → V < 2 ^ 63 →
    At c (a1 + i) (vput (t + 1) m) → a1 + i + (vput (t + 1) m).length ≤ a2 →
    varint_Get.l0 k c a1 a2 (x : Int) (i : Int) = some ((V : Int), a1 + i + (vput (t + 1) m).length, 0) := by
  intro t
  induction t with
  | zero =>
    intro i k m x V hti hk hx hV hV63 hat hle
    obtain rfl : i = 9 := by omega
    have hm : m = 0 := by
      have h63 : m * 2 ^ 63 < 2 ^ 63 := by
        have e : 7 * 9 = 63 := rfl
        rw [e] at hV
        omega
      omega
    subst hm
    have hV' : V = x := by omega
    subst hV'
    obtain ⟨k, rfl⟩ : ∃ n, k = n + 1 := ⟨k - 1, by omega⟩
    have hl : vput (0 + 1) 0 = [0] := rfl
    rw [hl] at hat hle ⊢
    simp only [List.length_singleton] at hle
    have hr := hat.head
    rw [varint_Get.l0, w64 (n := a1 + ((9 : Nat) : Int)) (by omega) (by omega), w64 (n := 7 * ((9 : Nat) : Int)) (by omega) (by omega), w64 (n := a1 + ((9 : Nat) : Int) + 1) (by omega) (by omega)]
    rw [if_pos (by omega), if_neg (by omega), if_pos (by omega), if_pos (by omega), if_pos (by omega), hr, if_pos (by decide)]
    have e1 : Go.bits .and .u8 0 127 = ((0 : Nat) : Int) := low7 0 (by decide)
    rw [e1, u64_id _ (by omega) (by decide)]
    have e2 : shl .u64 ((0 : Nat) : Int) (7 * ((9 : Nat) : Int)) = ((0 * 2 ^ 63 : Nat) : Int) := shl_is 0 63 (by decide) (by decide)
    rw [e2, or_high V 0 63 (by simpa using hx) (by omega) (by decide)]
    simp
  | succ t ih =>
    intro i k m x V hti hk hx hV hV63 hat hle
    obtain ⟨k, rfl⟩ : ∃ n, k = n + 1 := ⟨k - 1, by omega⟩
    have hp := vput_pos (t + 1 + 1) m
    have hpow : 2 ^ (7 * i) ≤ 2 ^ 63 := Nat.pow_le_pow_right (by decide) (by omega)
    have hpow7 : 2 ^ (7 * (i + 1)) = 128 * 2 ^ (7 * i) := by rw [show 7 * (i + 1) = 7 + 7 * i by omega, Nat.pow_add]
    have hP : 0 < 2 ^ (7 * i) := Nat.two_pow_pos _
    generalize hPe : 2 ^ (7 * i) = P at *
    have hmd := Nat.div_add_mod m 128
    have hm1 : m * P = 128 * (m / 128 * P) + m % 128 * P := by
      conv => lhs; rw [← hmd]
      rw [Nat.add_mul, Nat.mul_assoc]
    have hrl : m % 128 * P ≤ 127 * P := Nat.mul_le_mul_right _ (by omega)
    rw [varint_Get.l0, w64 (n := a1 + (i : Int)) (by omega) (by omega), w64 (n := 7 * (i : Int)) (by omega) (by omega), w64 (n := a1 + (i : Int) + 1) (by omega) (by omega), w64 (n := (i : Int) + 1) (by omega) (by omega)]
    rw [if_pos (by omega), if_neg (by omega), if_pos (by omega), if_pos (by omega), if_pos (by omega)]
    have hsh : ∀ B : Nat, B < 256 → B % 128 = m % 128 → Go.bits .or .u64 (x : Int) (shl .u64 (IntKind.u64.wrap (Go.bits .and .u8 (B : Int) 127)) (7 * (i : Int))) = ((x + m % 128 * P : Nat) : Int) := by
      intro B hB hBm
      have hlt7 : ((m % 128 : Nat) : Int) < 2 ^ 64 := Int.lt_trans (show ((m % 128 : Nat) : Int) < 128 by omega) (by decide)
      rw [low7 B hB, hBm, u64_id _ (by omega) hlt7]
      have e : (7 * (i : Int)) = ((7 * i : Nat) : Int) := by omega
      rw [e, shl_is (m % 128) (7 * i) (by omega) (by rw [hPe]; omega), or_high x (m % 128) (7 * i) (by rw [hPe]; exact hx) (by omega) (by rw [hPe]; omega), hPe]
    by_cases hm : 128 ≤ m
    · have hv : vput (t + 1 + 1) m = ((m % 128 + 128 : Nat) : Int) :: vput (t + 1) (m / 128) := vput_big hm
      rw [hv] at hat hle ⊢
      have hr := hat.head
      rw [hr, if_neg (by omega), hsh (m % 128 + 128) (by omega) (by omega)]
      have := ih (i + 1) k (m / 128) (x + m % 128 * P) V (by omega) (by omega) (by rw [hpow7]; omega) (by rw [hpow7, hV, hm1, Nat.mul_left_comm]; omega) hV63
        (by have := hat.tail; rwa [show a1 + (i : Int) + 1 = a1 + ((i + 1 : Nat) : Int) by omega] at this) (by simp only [List.length_cons] at hle; omega)
      rw [show ((i : Int) + 1) = ((i + 1 : Nat) : Int) by omega, this]
      simp only [List.length_cons]
      congr 3
      omega
    · have hv : vput (t + 1 + 1) m = [(m : Int)] := by rw [vput, if_neg hm]
      rw [hv] at hat hle ⊢
      have hr := hat.head
      have hmm : m % 128 = m := Nat.mod_eq_of_lt (by omega)
      rw [hr, if_pos (by omega), hsh m (by omega) rfl, hmm, hV]
      simp
/-- varint.Get behind varint.Put. -/
theorem get_vput (c : List Int) (a1 a2 : Int) (V : Nat) (h0 : 0 ≤ a1) (h2 : a2 ≤ c.length) (hc : c.length ≤ 1000000000) (hV : V < 2 ^ 63) (hat : At c a1 (vput 10 V)) (hle : a1 + (vput 10 V).length ≤ a2) (k : Nat) (hk : 11 ≤ k) :
    varint_Get.f k c a1 a2 = some ((V : Int), a1 + (vput 10 V).length, 0) := by
  have hp := vput_pos 10 V
  unfold varint_Get.f
  rw [may_true c a1 a2 h0 (by omega) h2, Option.bind_some, if_pos rfl]
  have := get_put c a1 a2 h0 h2 hc 9 0 k V 0 V (by omega) (by omega) (by decide) (by simp) hV (by simpa using hat) (by simpa using hle)
  simpa using this
end Go.Proofs.Ytlokcpfkaijchaa.PA
namespace Go.Proofs.Ytlokcpfkaijchaa.PA
open Go.RowKit Go.Proofs.YtlokcpfkaijchaaW.PrintWords Go.Proofs.YtlokcpfkaijchaaW.PrintLast Go.Proofs.YtlokcpfkaijchaaW.PrintMore
set_option linter.unusedVariables false
set_option linter.unusedSimpArgs false
theorem head_is (no : Nat) (h : no ≤ 536870911) : tag_head_number.f no 2 = some ((no * 8 + 2 : Nat) : Int) := by
  unfold tag_head_number.f
  rw [u64_id (no : Int) (by omega) (by omega), u64_id ((no : Int) * 8) (by omega) (by omega), u64_id 2 (by decide) (by decide)]
  have := bits_join .u64 64 (by decide) u64_id 3 ((no : Int) * 8) 2 (by omega) (by omega) (by omega) (by decide) (by decide) (by decide)
  rw [this]
  congr 1
theorem tag_is (no : Nat) (h : no ≤ 536870911) : tag_of.f ((no * 8 + 2 : Nat) : Int) = some ((no : Int), 2) := by
  unfold tag_of.f
  have := bits_mask .u64 64 (by decide) u64_id 3 (by decide) ((no * 8 + 2 : Nat) : Int) (by omega) (by omega)
  rw [show ((2 : Int) ^ 3 - 1) = 7 by decide] at this
  rw [this, w64 (by omega) (by omega), w64 (by omega) (by omega)]
  congr 2
  · omega
  · omega
theorem known2 : tag_Known.f 2 = some true := by decide
theorem put_is (no : Nat) (h1 : 1 ≤ no) (h : no ≤ 536870911) : tag_Put.f 5 no 2 = some (vput 10 (no * 8 + 2), true) := by
  unfold tag_Put.f
  rw [if_neg (by omega), if_neg (by omega), known2, Option.bind_some, if_pos rfl, head_is no h, Option.bind_some, tag_is no h, Option.bind_some, tag_Put.j0]
  have e : (!((no : Int) == (no : Int)) || !((2 : Int) == 2)) = false := by simp
  rw [e, if_neg (by decide), head_is no h, Option.bind_some]
  unfold varint_Put.f
  have hu : isU64 ((no * 8 + 2 : Nat) : Int) = true := by
    unfold isU64
    rw [decide_eq_true (by omega), decide_eq_true (by omega)]
    rfl
  rw [if_pos hu, Option.bind_some, Int.toNat_natCast]
theorem put_out (no : Int) (h : ¬ (1 ≤ no ∧ no ≤ 536870911)) : tag_Put.f 5 no 2 = some ([], false) := by
  unfold tag_Put.f
  by_cases c : no < 1
  · rw [if_pos c, tag_Put.j0, if_pos rfl]
  · rw [if_neg c, if_pos (by omega), tag_Put.j0, if_pos rfl]
theorem at_left (a b : List Int) : At (a ++ b) 0 a := fun t ht => by
  unfold rd
  rw [List.getD_eq_getElem?_getD, List.getD_eq_getElem?_getD, show ((0 : Int) + (t : Int)).toNat = t by omega, List.getElem?_append_left ht]
theorem at_mid (a b c : List Int) : At (a ++ b ++ c) a.length b := fun t ht => by
  unfold rd
  rw [List.getD_eq_getElem?_getD, List.getD_eq_getElem?_getD, show ((a.length : Int) + (t : Int)).toNat = a.length + t by omega, List.getElem?_append_left (by simp; omega), List.getElem?_append_right (by omega)]
  congr 2
  omega
theorem at_left3 (a b c : List Int) : At (a ++ b ++ c) 0 a := by rw [List.append_assoc]; exact at_left _ _
/-- The record that has been put is the next one. -/
theorem next_put (no : Nat) (b c : List Int) (d : Nat) (h1 : 1 ≤ no) (h : no ≤ 536870911) (hb : b.length ≤ 1000) (hc : c = vput 10 (no * 8 + 2) ++ vput 10 b.length ++ b) (hd : d = (vput 10 (no * 8 + 2)).length + (vput 10 b.length).length) (hcl : c.length ≤ 100000) :
    record_Next.f 20 c 0 c.length = some ((no : Int), 2, (b.length : Int), (d : Int), (c.length : Int), (c.length : Int), 0) ∧ c.length = d + b.length := by
  have hl : c.length = d + b.length := by rw [hc, hd]; simp; omega
  refine ⟨?_, hl⟩
  have g1 : varint_Get.f 20 c 0 c.length = some (((no * 8 + 2 : Nat) : Int), ((vput 10 (no * 8 + 2)).length : Int), 0) := by
    have := get_vput c 0 c.length (no * 8 + 2) (by decide) (Int.le_refl _) (by omega) (by omega) (by rw [hc]; exact at_left3 _ _ _) (by omega) 20 (by decide)
    simpa using this
  have hp := vput_pos 10 (no * 8 + 2)
  have g2 : varint_Get.f 20 c ((vput 10 (no * 8 + 2)).length : Int) c.length = some ((b.length : Int), (d : Int), 0) := by
    have := get_vput c ((vput 10 (no * 8 + 2)).length : Int) c.length b.length (by omega) (Int.le_refl _) (by omega) (by omega) (by rw [hc]; exact at_mid _ _ _) (by omega) 20 (by decide)
    rw [this, hd]
    simp
  have g3 : tag_Get.f 20 c 0 c.length = some ((no : Int), 2, ((vput 10 (no * 8 + 2)).length : Int), 0) := by
    unfold tag_Get.f
    rw [g1, Option.bind_some]
    dsimp only
    rw [tag_is no h, Option.bind_some, if_pos rfl, if_neg (by omega)]
    dsimp only
    have e : ((no : Int) == 0) = false := by simp; omega
    rw [tag_Get.j0, e, if_neg (by decide), known2, Option.bind_some, if_pos rfl]
  unfold record_Next.f
  rw [g3, Option.bind_some]
  dsimp only
  rw [if_pos rfl]
  unfold record_number.f
  rw [if_neg (by decide), if_neg (by decide), g2, Option.bind_some, Option.bind_some]
  dsimp only
  rw [if_pos rfl, if_pos rfl, w64 (n := (c.length : Int) - (d : Int)) (by omega) (by omega), u64_id _ (by omega) (by omega), if_neg (by omega), w64 (n := (b.length : Int)) (by omega) (by omega), w64 (n := (d : Int) + (b.length : Int)) (by omega) (by omega)]
  rw [show (d : Int) + (b.length : Int) = (c.length : Int) by omega]
section
variable {M : List S77} {E : List S81}
/-- The step over a record that is a message's. -/
theorem step_sub (m : Int) (c : List Int) (f : S38) (no num d : Int) (hf : fieldAt M m (isNo no) = some f) (hk : f.f2 = 9) (hy : f.f5 = -1) (hcl : 1 ≤ c.length) (hcb : c.length ≤ 100000) (hn : record_Next.f 20 c 0 c.length = some (no, 2, num, d, (c.length : Int), (c.length : Int), 0)) :
    stepF 20 M E c [] (startF m c) = some ([⟨false, m, z38, (c.length : Int), (c.length : Int), 1⟩, ⟨false, f.f3, z38, d, (c.length : Int), 2⟩], 0) := by
  unfold stepF
  have hb : ¬ topBad (startF m c) c.length := by simp only [topBad, startF]; omega
  rw [if_neg hb, if_neg (by show ¬ (0 : Int) = (c.length : Int); omega)]
  show (record_Next.f 20 c 0 (c.length : Int)).bind _ = _
  rw [hn, Option.bind_some]
  dsimp only
  rw [if_pos rfl]
  have hof : ∀ y2 y3 y4 y5 y6 y7 y8 y9 y10 y11, valid_of.f 20 M E false m y2 y3 y4 y5 y6 y7 y8 y9 y10 y11 no 2 num d (c.length : Int) = some (3, 9, f.f3, 0, (⟨#[]⟩ : ByteArray), 0, 0, false, 0, 0) := by
    intro y2 y3 y4 y5 y6 y7 y8 y9 y10 y11
    unfold valid_of.f
    rw [if_neg (by decide)]
    unfold table_By.f
    rw [hf, Option.bind_some]
    unfold conv_Of.f
    rw [if_pos (by decide), Option.bind_some]
    simp only [fieldIs, hk]
    have hki : kindIn 9 = false := by decide
    rw [hki, if_pos trivial]
    have hj : valid_of.j0 20 false f.f0 f.f1 9 f.f3 f.f4 f.f5 f.f6 = some (3, 9, f.f3, 0, (⟨#[]⟩ : ByteArray), 0, 0, false, 0, 0) := by
      rw [valid_of.j0, if_neg (by decide), if_pos hy]
    split
    · rw [if_neg (by decide)]; exact hj
    · exact hj
  show (valid_of.f 20 M E false m _ _ _ _ _ _ _ _ _ _ _ _ _ _ _).bind _ = _
  rw [hof, Option.bind_some]
  dsimp only
  have hd : deepOf (startF m c) no = 1 := by simp [deepOf, startF]
  rw [hd]
  unfold doneN
  rw [if_neg (by decide), if_neg (by decide), if_pos rfl, if_pos (by decide), if_neg (by decide), if_pos rfl, if_neg (by decide)]
  rfl
theorem check_within (hm : RefMay M E) (hs : okSchema M E = true) (m : Int) (no : Nat) (b c : List Int) (f : S38) (hbb : isBytes b = true) (hcb : isBytes c = true) (h1 : 1 ≤ no) (h : no ≤ 536870911) (hb : b.length ≤ 1000)
    (hc : c = vput 10 (no * 8 + 2) ++ vput 10 b.length ++ b) (hcl : c.length ≤ 100000) (hf : fieldAt M m (isNo no) = some f) (hk : f.f2 = 9) (hy : f.f5 = -1) (n e k g : Int)
    (hn : valid_Check.f M E f.f3 b = some (n, e)) (hg : valid_Check.f M E m c = some (k, g)) : (64 ≤ n → g = 11 ∨ g = e) ∧ (n < 64 → g = e ∧ k = n + 1) := by
  obtain ⟨d, hd⟩ : ∃ d, d = (vput 10 (no * 8 + 2)).length + (vput 10 b.length).length := ⟨_, rfl⟩
  obtain ⟨hnx, hcd⟩ := next_put no b c d h1 h hb hc hd hcl
  have hp := vput_pos 10 (no * 8 + 2)
  have hM : M.length ≤ 20 := hm.2.1
  have hEl : E.length ≤ 20 := hm.2.2.1
  have hin : 0 ≤ m ∧ m < (M.length : Int) ∧ ∃ md ∈ M, f ∈ md.f1 := by
    unfold fieldAt at hf
    split at hf
    · rename_i hmm
      refine ⟨hmm.1, hmm.2, M[m.toNat]'(by omega), List.getElem_mem _, ?_⟩
      have := List.mem_of_find?_eq_some hf
      unfold rd_T77 at this
      rwa [List.getD_eq_getElem?_getD, List.getElem?_eq_getElem (by omega), Option.getD_some] at this
    · cases hf
  obtain ⟨m0, m1, md, hmd, hfm⟩ := hin
  obtain ⟨i, hi, hif⟩ := List.mem_iff_getElem.1 hfm
  have hfb : fieldMayB M E f = true := ((hm.2.2.2.1 md hmd).2 i f hi (by rw [List.getElem?_eq_getElem hi, hif])).1
  obtain ⟨k0, k1, k2, k3, k4, k5, k6, k7⟩ := field_facts M E f (by omega) (by omega) hfb
  have k6' := k6 hk
  rw [check_eq, may_ok M E hm hs, Option.bind_some, if_pos rfl] at hn hg
  rw [if_neg (by omega)] at hn
  rw [if_neg (by omega)] at hg
  obtain ⟨n', e', r1, n1, n2⟩ := check_run (M := M) (E := E) f.f3 b hbb (by omega)
  rw [hn] at r1
  cases r1
  have W : Within b c (d : Int) 1 (c.length : Int) (startF f.f3 b) := ⟨by
    intro i h1 h2
    have := win_right (vput 10 (no * 8 + 2) ++ vput 10 b.length) b i h1 h2
    rw [← hc] at this
    rw [this, hd]
    simp, hbb, hcb, by omega, by omega, by omega, by omega, by omega, by show (b.length : Int) + d ≤ _; omega, by omega⟩
  have R := run_sim (M := M) (E := E) W [⟨false, m, z38, (c.length : Int), (c.length : Int), 1⟩] (by simp) 0 _ [startF f.f3 b] 1 n e (start_good f.f3 b) (by simp) (by rintro y ⟨rfl⟩; exact ⟨rfl, rfl, rfl, rfl, rfl⟩) (by intro y hy; rw [List.mem_singleton.1 hy]; show (1 : Int) + 1 ≤ 64; decide) (by rw [start_psi]; omega) hn
  have s1 : ([⟨false, m, z38, (c.length : Int), (c.length : Int), 1⟩] : List S40) ++ shL (d : Int) 1 (c.length : Int) [startF f.f3 b] = [⟨false, m, z38, (c.length : Int), (c.length : Int), 1⟩, ⟨false, f.f3, z38, (d : Int), (c.length : Int), 2⟩] := by
    simp [shL, startF, z38]
  rw [s1, show max ((1 : Int) + 1) 0 = 2 by decide, show max (n + 1) 0 = n + 1 by omega] at R
  have hst := step_sub (E := E) m c f no (b.length : Int) (d : Int) hf hk hy (by omega) hcl hnx
  have R0 : Runs M E c [startF m c] 1 (k, g) := ⟨_, hg⟩
  have up : ∀ R', Runs M E c [⟨false, m, z38, (c.length : Int), (c.length : Int), 1⟩, ⟨false, f.f3, z38, (d : Int), (c.length : Int), 2⟩] 2 R' → R' = (k, g) := fun R' h => (R0.det (Runs.step (l := []) (by decide) hst h)).symm
  rcases R with ⟨c1, r⟩ | ⟨-, c1⟩ | ⟨c1, j, r⟩ | ⟨c1, r⟩
  · have := up _ r
    cases this
    exact ⟨fun _ => Or.inr rfl, fun _ => ⟨rfl, rfl⟩⟩
  · exfalso
    have : (b.length : Int) + d < (c.length : Int) := c1
    omega
  · have := up _ r
    cases this
    exact ⟨fun _ => Or.inl rfl, fun h => by omega⟩
  · subst c1
    have fin : Runs M E c ([⟨false, m, z38, (c.length : Int), (c.length : Int), 1⟩] ++ [⟨(startF f.f3 b).f0, (startF f.f3 b).f1, (startF f.f3 b).f2, (startF f.f3 b).f4 + (d : Int), (c.length : Int), (startF f.f3 b).f5 + 1⟩]) (n + 1) (n + 1, 0) := by
      have hs2 : stepF 20 M E c [⟨false, m, z38, (c.length : Int), (c.length : Int), 1⟩] ⟨(startF f.f3 b).f0, (startF f.f3 b).f1, (startF f.f3 b).f2, (startF f.f3 b).f4 + (d : Int), (c.length : Int), (startF f.f3 b).f5 + 1⟩ = some ([⟨false, m, z38, (c.length : Int), (c.length : Int), 1⟩], 0) := by
        unfold stepF
        rw [if_neg (by simp only [topBad, startF]; omega), if_pos (by show (b.length : Int) + d = (c.length : Int); omega)]
      refine Runs.step (by simp) hs2 ?_
      have e : deepTop [(⟨false, m, z38, (c.length : Int), (c.length : Int), 1⟩ : S40)] (n + 1) = n + 1 := by
        have := deepTop_snoc [] (⟨false, m, z38, (c.length : Int), (c.length : Int), 1⟩ : S40) (n + 1)
        rw [List.nil_append] at this
        rw [this]
        show max (n + 1) 1 = n + 1
        omega
      rw [e]
      exact runs_last c _ _ (by show (0 : Int) ≤ (c.length : Int); omega) rfl (Int.le_refl _) (by show (1 : Int) ≤ 1; decide) (by show (1 : Int) ≤ 64; decide)
    have := up _ (r _ fin)
    cases this
    exact ⟨fun _ => Or.inr rfl, fun _ => ⟨rfl, rfl⟩⟩
end
end Go.Proofs.Ytlokcpfkaijchaa.PA
namespace Go.Proofs.Ytlokcpfkaijchaa.PA
open Go.RowKit Go.Proofs.YtlokcpfkaijchaaW.PrintWords Go.Proofs.YtlokcpfkaijchaaW.PrintLast Go.Proofs.YtlokcpfkaijchaaW.PrintMore
set_option linter.unusedVariables false
set_option linter.unusedSimpArgs false
/-- May a field have the number? -/
def noOk (no : Int) : Bool := decide (1 ≤ no ∧ no ≤ 536870911)
/-- The bytes of a record that is a run. -/
def runL (no : Int) (l : List Int) : List Int := if noOk no = true then vput 10 (no.toNat * 8 + 2) ++ vput 10 l.length ++ l else []
theorem vput_len (k n : Nat) : (vput k n).length ≤ k + 1 := by
  induction k generalizing n with
  | zero => simp [vput]
  | succ k ih =>
    rw [vput]
    split
    · have := ih (n / 128)
      simp; omega
    · simp
theorem tag_put_is (no : Int) : tag_Put.f 5 no 2 = some (if noOk no = true then vput 10 (no.toNat * 8 + 2) else [], noOk no) := by
  by_cases h : 1 ≤ no ∧ no ≤ 536870911
  · have e : noOk no = true := decide_eq_true h
    have := put_is no.toNat (by omega) (by omega)
    rw [show ((no.toNat : Nat) : Int) = no by omega] at this
    rw [this, e, if_pos rfl]
  · have e : noOk no = false := decide_eq_false h
    rw [put_out no h, e, if_neg (by decide)]
theorem len_put (n : Nat) (h : n ≤ 140737488355328) : varint_Put.f (n : Int) = some (vput 10 n) := by
  unfold varint_Put.f
  have hu : isU64 (n : Int) = true := by
    unfold isU64
    rw [decide_eq_true (by omega), decide_eq_true (by omega)]
    rfl
  rw [if_pos hu, Int.toNat_natCast]
set_option maxHeartbeats 4000000 in
set_option maxRecDepth 100000 in
theorem rec_put (no : Int) (A : Option Addr) (c : Nat) (l : List Int) (w : World) (hr : Kd.C (Kd.int .u8) w A l.length l) (hc : l.length ≤ c) (hl : l.length ≤ 140737488351232) :
    Calls Try.prog 17 #[.agg #[.int .i64 no, .int .i64 2, .int .u64 0, .int .i64 0, .int .i64 0], .slice A l.length c] w fun e w' => ∃ v : Value, e = .returned (.tuple #[v, .bool (noOk no)]) ∧ Kd.R (Kd.int .u8) 5 w' w.heap.size (fun _ => True) v (runL no l) ∧ Below w.heap.size w w' := by
  have HR := Aside0.mk hr
  have HC := Aside0.mk hc
  have HT := Aside0.mk (fun w' => tag_Put.calls 5 no 2 _ _ w' (tag_put_is no))
  have HV := Aside0.mk (fun w' => varint_Put.calls (l.length : Int) _ w' (len_put l.length (by omega)))
  have hw6 : IntKind.u64.wrap (l.length : Int) = (l.length : Int) := u64_id _ (by omega) (by omega)
  clear hr hc
  go_enter Try.func17, Try.ntmps17
  go_wp2_with fail
  refine (HT.out _).mono ?_
  rintro e w1 ⟨v1, rfl, h1, b1⟩
  have B1 := Aside0.mk ((al1 w (.cells #[.int .i64 no, .int .i64 2, .int .u64 0, .int .i64 0, .int .i64 0] 48)).nx b1)
  have BK := Aside0.mk (blk_below (heap_alloc_last w (.cells #[.int .i64 no, .int .i64 2, .int .u64 0, .int .i64 0, .int .i64 0] 48)) b1)
  have R1 := Aside0.mk (Kd.R_lower h1 (al1 w (.cells #[.int .i64 no, .int .i64 2, .int .u64 0, .int .i64 0, .int .i64 0] 48)).size)
  have q1 : w1.cell? ⟨w.heap.size, 1, none⟩ = some (.int .i64 2) := (blk_cell BK.out 1).trans rfl
  have lt1 := blk_lt BK.out
  clear h1 b1
  obtain ⟨ok, hok⟩ : ∃ b, b = noOk no := ⟨_, rfl⟩
  have HOK := Aside0.mk (show runL no l = if ok = true then vput 10 (no.toNat * 8 + 2) ++ vput 10 l.length ++ l else [] by rw [hok]; rfl)
  have HEQ := Aside0.mk hok
  rw [← hok] at R1 ⊢
  clear hok
  cases ok with
  | false =>
    go_wp2_with fail
    go_ret2
    exact ⟨.slice none 0 0, by first | (rw [← HEQ.out]; done) | (rw [← HEQ.out]; rfl), by rw [HOK.out]; exact Kd.R_nil _ _ _ _ _, B1.out⟩
  | true =>
    go_wp2_with fail
    refine (HV.out _).mono ?_
    rintro e w2 ⟨v2, rfl, h2, b2⟩
    have BB2 := Aside0.mk (B1.out.nx b2)
    have R2 := Aside0.mk (show Kd.R (Kd.int .u8) 5 w2 w.heap.size (fun _ => True) v1 (vput 10 (no.toNat * 8 + 2)) from Kd.R_below R1.out b2)
    obtain ⟨A2, c2, rfl, hc2, hC2⟩ := Kd.R_reads h2
    have C2 := Aside0.mk hC2
    have HLE := Aside0.mk (show (vput 10 (no.toNat * 8 + 2)).length ≤ 11 ∧ (vput 10 l.length).length ≤ 11 from ⟨vput_len _ _, vput_len _ _⟩)
    have HLE2 := Aside0.mk (show (vput 10 (no.toNat * 8 + 2) ++ vput 10 l.length).length ≤ 22 by have := HLE.out; simp; omega)
    clear h2 b2 hc2 hC2 q1 lt1
    go_wp2_with (first
      | (at_builtin; refine Kd.R_append_rows (Kd.int .u8) (w0 := w) w.heap.size rfl (.tmp 32) (.tmp 36) 26 5 (.int .u8 0) 1 rfl Try.underlying26 info5 rfl (by decide) (by omega) v1 _ (vput 10 l.length) A2 _ c2 (fun _ => True) (fun _ => False) rfl rfl R2.out C2.out (fun _ _ h => h) (fun _ h => h.elim) (fun _ _ => trivial) BB2.out BB2.out.size (by have := HLE.out; rw [Nat.mul_one]; omega) ?_; (intro v3 w3 ho hb hg hat); (have R3 := Aside0.mk ho); (have BB3 := Aside0.mk hb); clear ho hb hg hat)
      | (at_builtin; refine Kd.R_append_rows (Kd.int .u8) (w0 := w) w.heap.size rfl (.tmp 37) (.tmp 38) 26 5 (.int .u8 0) 1 rfl Try.underlying26 info5 rfl (by decide) (by omega) v3 _ l A _ c (fun _ => True) (fun _ => False) rfl rfl R3.out (Kd.C_below HR.out BB3.out) (fun _ _ h => h) (fun _ h => h.elim) (fun _ _ => trivial) BB3.out BB3.out.size (by have := HLE2.out; rw [Nat.mul_one]; omega) ?_; (intro v4 w4 ho hb hg hat); (have R4 := Aside0.mk ho); (have BB4 := Aside0.mk hb); clear ho hb hg hat))
    go_ret2
    exact ⟨_, by first | (rw [← HEQ.out]; done) | (rw [← HEQ.out]; rfl), by rw [show runL no l = vput 10 (no.toNat * 8 + 2) ++ vput 10 l.length ++ l from HOK.out]; exact R4.out, BB4.out⟩
end Go.Proofs.Ytlokcpfkaijchaa.PA
