/- The statement ValidWithin: for every schema, message number, field number and all bytes, at most 1000, these decode as the message's field just as they do alone, one deeper, as long as that is not too deep; no condition. -/
import Derived.Test.YtlokcpfkaijchaaRows
import Derived.WalkKit
import Derived.ProofKit
import Derived.OpenShut
import Derived.ShutString
import Derived.ChangeOld
import Derived.Below
import Derived.Deep.RegionHeld3
import Derived.Deep.DeepCutAuto
import Derived.WalkSpells
import Derived.SizedLaws
import Derived.ChangeSlices
import Derived.Test.YtlokcpfkaijchaaPWithin
import Derived.Test.YtlokcpfkaijchaaPMay
import Derived.Test.YtlokcpfkaijchaaAwake18
import Derived.Test.YtlokcpfkaijchaaOpenB
import Derived.Test.YtlokcpfkaijchaaGRefMay
namespace Go.Proofs.Ytlokcpfkaijchaa.validWithin
open Go.ChangeShapes Go.WideShapes Go.ChangeAt Go.RowKit Go.Tr Go.Proofs.Ytlokcpfkaijchaa Go.Proofs.Ytlokcpfkaijchaa.PA Go.Proofs.YtlokcpfkaijchaaW.PrintWords Go.Proofs.YtlokcpfkaijchaaW.PrintLast Go.Proofs.YtlokcpfkaijchaaW.PrintMore
set_option linter.unusedVariables false
set_option linter.unusedSimpArgs false

theorem own : ownKnob Try.prog.godebug = none := by kernel_rfl
theorem laidOut : laidOutB Try.prog = true := by kernel_rfl
theorem is_bytes {l : List Int} (h : ∀ n ∈ l, 0 ≤ n ∧ n ≤ 255) (hl : l.length ≤ 100000) : isBytes l = true := by
  simp only [isBytes, Bool.and_eq_true, List.all_eq_true, decide_eq_true_eq]
  exact ⟨h, by omega⟩
theorem ref_true {M : List S77} {E : List S81} (h : truffleref08_May.f M E = some true) : RefMay M E := by
  unfold truffleref08_May.f at h
  exact @of_decide_eq_true _ (Classical.propDecidable _) (Option.some.inj h)
theorem fields_max {w : World} {A : Option Addr} {M : List S77} (q : Kd.C k77 w A M.length M) (m : Int) : (rd_T77 M m).f1.length ≤ 9223372036854775807 := by
  by_cases h : m.toNat < M.length
  · obtain ⟨ad, A1, c1, -, -, -, -, hC⟩ := at_T77 q (m.toNat : Int) (by omega) (by omega)
    have e : rd_T77 M (m.toNat : Int) = rd_T77 M m := by
      unfold rd_T77
      rw [Int.toNat_natCast]
    rw [e] at hC
    exact Kd.C_max hC
  · have e : rd_T77 M m = z77 := by
      unfold rd_T77
      rw [List.getD_eq_getElem?_getD, List.getElem?_eq_none (by omega)]
      rfl
    rw [e]
    exact Nat.zero_le _
theorem vput_bytes : ∀ (k n : Nat), n < 128 ^ (k + 1) → ∀ x ∈ vput k n, 0 ≤ x ∧ x ≤ 255 := by
  intro k
  induction k with
  | zero =>
    intro n hn x hx
    rw [vput] at hx
    rw [List.mem_singleton.1 hx]
    have : n < 128 := by simpa using hn
    omega
  | succ k ih =>
    intro n hn x hx
    rw [vput] at hx
    split at hx
    · rcases List.mem_cons.1 hx with rfl | h
      · omega
      · refine ih (n / 128) ?_ x h
        rw [Nat.div_lt_iff_lt_mul (by decide)]
        rwa [Nat.pow_succ] at hn
    · rw [List.mem_singleton.1 hx]; omega
theorem run_bytes {no : Int} {l : List Int} (h : ∀ n ∈ l, 0 ≤ n ∧ n ≤ 255) (hl : l.length ≤ 1000) : isBytes (runL no l) = true ∧ (runL no l).length ≤ 1022 := by
  unfold runL
  split
  · rename_i hno
    have hn : 1 ≤ no ∧ no ≤ 536870911 := of_decide_eq_true hno
    have l1 := vput_len 10 (no.toNat * 8 + 2)
    have l2 := vput_len 10 l.length
    have hlen : (vput 10 (no.toNat * 8 + 2) ++ vput 10 l.length ++ l).length ≤ 1022 := by simp; omega
    refine ⟨is_bytes (fun x hx => ?_) (by omega), hlen⟩
    rcases List.mem_append.1 hx with hx | hx
    · rcases List.mem_append.1 hx with hx | hx
      · exact vput_bytes 10 _ (Nat.lt_of_lt_of_le (show no.toNat * 8 + 2 < 2 ^ 40 by omega) (by decide)) x hx
      · exact vput_bytes 10 _ (Nat.lt_of_lt_of_le (show l.length < 2 ^ 40 by omega) (by decide)) x hx
    · exact h x hx
  · exact ⟨by decide, by decide⟩
theorem check_in {M : List S77} {E : List S81} (m : Int) (b : List Int) (hb : isBytes b = true) (hl : b.length ≤ 100000) (n e : Int) (h : valid_Check.f M E m b = some (n, e)) : 0 ≤ n ∧ n ≤ 64 := by
  rw [check_eq] at h
  cases hm : table_May.f M E with
  | none => rw [hm] at h; cases h
  | some mm =>
    rw [hm, Option.bind_some] at h
    split at h
    · split at h
      · cases h; decide
      · obtain ⟨n', e', h', h1, h2⟩ := check_run (M := M) (E := E) m b hb hl
        rw [h] at h'
        cases h'
        omega
    · cases h; decide
/-- A block of seven cells. -/
def Box7 (k : Nat) (w : World) (c0 c1 c2 c3 c4 c5 c6 : Value) : Prop := w.heap[k]? = some (.cells #[c0, c1, c2, c3, c4, c5, c6] 38)
/-! THE WALK -/
set_option maxHeartbeats 8000000 in
set_option maxRecDepth 100000 in
theorem walk (w : World) (A0a : Option Addr) (c0a : Nat) (M0 : List S77) (A0b : Option Addr) (c0b : Nat) (E0 : List S81) (h0 : OkSchema w A0a c0a M0 A0b c0b E0) (a1 : Int) (w1 : -9223372036854775808 ≤ a1 ∧ a1 ≤ 9223372036854775807) (a2 : Int) (w2 : -9223372036854775808 ≤ a2 ∧ a2 ≤ 9223372036854775807) (A3 : Option Addr) (c3 : Nat) (l3 : List Int) (h3 : OkBytes2 w A3 c3 l3) :
    Calls Try.prog 5 #[.agg #[.slice A0a M0.length c0a, .slice A0b E0.length c0b], .int .i64 a1, .int .i64 a2, .slice A3 l3.length c3] w fun e w' => e = .returned (.bool true) ∧ Below w.heap.size w w' := by
  have hm1 := w1
  have hm2 := w2
  clear w1 w2
  obtain ⟨q1, q2, q3, q4, q5, q6⟩ := h0
  obtain ⟨⟨p1, p2, p3⟩, p4⟩ := h3
  have HA := Lib.hid fun w' => awake18 w'
  obtain ⟨fw, hfw, hfp⟩ := few_tells M0 E0
  obtain ⟨rm, hrm⟩ : ∃ r, truffleref08_May.f M0 E0 = some r := ⟨_, rfl⟩
  obtain ⟨o, ho⟩ : ∃ o, o = fieldAt M0 a1 (isNo a2) := ⟨_, rfl⟩
  have hby := by_is M0 E0 a1 a2 (fields_max q2 a1)
  rw [← ho] at hby
  obtain ⟨r1, r2, r3, r4, r5, r6, r7, r8, hr⟩ : ∃ r1 r2 r3 r4 r5 r6 r7 r8, fieldIs o = (r1, r2, r3, r4, r5, r6, r7, r8) := ⟨_, _, _, _, _, _, _, _, rfl⟩
  rw [hr] at hby
  have HO := Lib.hid (show r8 = true → ∃ f, fieldAt M0 a1 (isNo a2) = some f ∧ f.f2 = r3 ∧ f.f3 = r4 ∧ f.f5 = r6 from fun h => by
    cases o with
    | none => cases hr; cases h
    | some f => cases hr; exact ⟨f, ho.symm, rfl, rfl, rfl⟩)
  have HY := Lib.hid fun w' (hb : Below w.heap.size w w') => truffleref08_By.calls _ A0a c0a M0 A0b c0b E0 a1 a2 r1 r2 r3 r4 r5 r6 r7 r8 w' (Kd.C_below q2 hb) q1 (Kd.C_below q4 hb) q3 hby
  have HU := Lib.hid fun w' (hb : Below w.heap.size w w') => rec_put a2 A3 c3 l3 w' (Kd.C_below p2 hb) p1 p4
  have HF := Lib.hid fun w' (hb : Below w.heap.size w w') => truffleref08_Few.calls 200 A0a c0a M0 A0b c0b E0 fw w' (Kd.C_below q2 hb) q1 (Kd.C_below q4 hb) q3 hfw
  have HR := Lib.hid fun w' (hb : Below w.heap.size w w') => truffleref08_May.calls A0a c0a M0 A0b c0b E0 rm w' (Kd.C_below q2 hb) q1 (Kd.C_below q4 hb) q3 hrm
  have HC := Lib.hid fun (m : Int) (A : Option Addr) (c : Nat) (l : List Int) (n e : Int) (w' : World) (hb : Below w.heap.size w w') (h1 : Kd.C (Kd.int .u8) w' A l.length l) (h2 : l.length ≤ c) (h : valid_Check.f M0 E0 m l = some (n, e)) => valid_Check.calls A0a c0a M0 A0b c0b E0 m A c l n e w' (Kd.C_below q2 hb) q1 (Kd.C_below q4 hb) q3 h1 h2 h
  have HB3 := Lib.hid (And.intro p1 p2)
  have HS := Lib.hid fun (h : fw = true) => few_ok (hfp h) q5 q6
  have HRM := Lib.hid fun (h : rm = true) => ref_true (h ▸ hrm)
  have HI3 := Lib.hid p3
  clear hfw hfp hrm hby hr ho q1 q2 q3 q4 q5 q6 p1 p2 p3 p4
  go_enter Try.func5, Try.ntmps5
  go_wp2_with fail
  refine (HA.out _).mono ?_; rintro e w1 ⟨rfl, b1⟩
  have Q1 := Lib.hid ((Box2.new w (.slice A0a M0.length c0a) (.slice A0b E0.length c0b) 25).below b1)
  have B1 := Lib.hid ((al1 w (.cells #[.slice A0a M0.length c0a, .slice A0b E0.length c0b] 25)).nx b1)
  clear b1
  obtain ⟨l1, t0, t1⟩ := Q1.out
  go_wp2_with fail
  refine (HY.out _ B1.out).mono ?_; rintro e w2 ⟨rfl, b2⟩
  have Q2 := Lib.hid (Q1.out.below b2)
  have B2 := Lib.hid (B1.out.nx b2)
  clear b2 l1 t0 t1 Q1 B1
  have AL := Lib.hid (al1 w2 (.cells #[.int .i64 r1, .string r2, .int .i64 r3, .int .i64 r4, .bool r5, .int .i64 r6, .int .i64 r7] 38))
  have BL := Lib.hid (heap_alloc_last w2 (.cells #[.int .i64 r1, .string r2, .int .i64 r3, .int .i64 r4, .bool r5, .int .i64 r6, .int .i64 r7] 38))
  go_wp2_with (with_reducible refine wpList_store_new rfl (.tmp 10) (.tmp 24) rfl rfl rfl (by kernel_rfl) (by simp) (by simp [Value.oneCell']) ?_)
  refine (HU.out _ (B2.out.nx AL.out)).mono ?_; rintro e w3 ⟨v3, rfl, hr3, b3⟩
  have Q3 := Lib.hid ((Q2.out.below AL.out).below b3)
  have B3 := Lib.hid ((B2.out.nx AL.out).nx b3)
  have F3 := Lib.hid (blk_below BL.out b3)
  obtain ⟨Ac, cc, rfl, hcc, hCc⟩ := Kd.R_reads hr3
  have HCC := Lib.hid (And.intro hcc hCc)
  clear b3 hr3 hcc hCc Q2 B2 AL BL
  obtain ⟨ok, hok⟩ : ∃ b, b = noOk a2 := ⟨_, rfl⟩
  rw [← hok]
  have HOK := Lib.hid hok
  clear hok
  obtain ⟨l1, t0, t1⟩ := Q3.out
  have g2 : w3.cell? ⟨w2.heap.size, 2, none⟩ = some (.int .i64 r3) := (blk_cell F3.out 2).trans rfl
  have g5 : w3.cell? ⟨w2.heap.size, 5, none⟩ = some (.int .i64 r6) := (blk_cell F3.out 5).trans rfl
  have ltf := blk_lt F3.out
  go_wp2_with fail
  refine (HF.out _ B3.out).mono ?_; rintro e w4 ⟨rfl, b4⟩
  have Q4 := Lib.hid (Q3.out.below b4)
  have B4 := Lib.hid (B3.out.nx b4)
  have F4 := Lib.hid (blk_below F3.out b4)
  have HC4 := Lib.hid (show _ ∧ Kd.C (Kd.int .u8) w4 Ac (runL a2 l3).length (runL a2 l3) from ⟨HCC.out.1, Kd.C_below HCC.out.2 b4⟩)
  clear b4 l1 t0 t1 g2 g5 ltf Q3 B3 F3 HCC
  obtain ⟨l1, t0, t1⟩ := Q4.out
  cases fw with
  | false =>
    go_wp2_with fail
    exact ⟨rfl, _, results_tmp (t := 8) rfl _ _ _, rfl, B4.out⟩
  | true =>
    go_wp2_with fail
    refine (HR.out _ B4.out).mono ?_; rintro e w5 ⟨rfl, b5⟩
    have Q5 := Lib.hid (Q4.out.below b5)
    have B5 := Lib.hid (B4.out.nx b5)
    have F5 := Lib.hid (blk_below F4.out b5)
    have HC5 := Lib.hid (show _ ∧ Kd.C (Kd.int .u8) w5 Ac (runL a2 l3).length (runL a2 l3) from ⟨HC4.out.1, Kd.C_below HC4.out.2 b5⟩)
    clear b5 l1 t0 t1 Q4 B4 F4 HC4
    obtain ⟨l1, t0, t1⟩ := Q5.out
    have g2 : w5.cell? ⟨w2.heap.size, 2, none⟩ = some (.int .i64 r3) := (blk_cell F5.out 2).trans rfl
    have g3 : w5.cell? ⟨w2.heap.size, 3, none⟩ = some (.int .i64 r4) := (blk_cell F5.out 3).trans rfl
    have g5 : w5.cell? ⟨w2.heap.size, 5, none⟩ = some (.int .i64 r6) := (blk_cell F5.out 5).trans rfl
    have ltf := blk_lt F5.out
    cases rm with
    | false =>
      go_wp2_with fail
      exact ⟨rfl, _, results_tmp (t := 8) rfl _ _ _, rfl, B5.out⟩
    | true =>
      by_cases hA : 1000 < l3.length
      · have hd : decide ((l3.length : Int) > 1000) = true := decide_eq_true (by omega)
        go_wp2_with fail
        exact ⟨rfl, _, results_tmp (t := 8) rfl _ _ _, rfl, B5.out⟩
      have hd : decide ((l3.length : Int) > 1000) = false := decide_eq_false (by omega)
      cases r8 with
      | false =>
        go_wp2_with fail
        exact ⟨rfl, _, results_tmp (t := 8) rfl _ _ _, rfl, B5.out⟩
      | true =>
        cases ok with
        | false =>
          go_wp2_with fail
          exact ⟨rfl, _, results_tmp (t := 8) rfl _ _ _, rfl, B5.out⟩
        | true =>
          cases hk9 : ((r3 : Int) == 9) with
          | false =>
            have hk8 : ((r3 : Int) != 9) = true := by rw [bne, hk9]; rfl
            go_wp2_with fail
            exact ⟨rfl, _, results_tmp (t := 8) rfl _ _ _, rfl, B5.out⟩
          | true =>
            have hk8 : ((r3 : Int) != 9) = false := by rw [bne, hk9]; rfl
            cases hy9 : ((r6 : Int) == -1) with
            | false =>
              have hy8 : ((r6 : Int) != -1) = true := by rw [bne, hy9]; rfl
              go_wp2_with fail
              exact ⟨rfl, _, results_tmp (t := 8) rfl _ _ _, rfl, B5.out⟩
            | true =>
              have hy8 : ((r6 : Int) != -1) = false := by rw [bne, hy9]; rfl
              have i3 := is_bytes HI3.out (by omega)
              obtain ⟨i4, hl4⟩ := run_bytes (no := a2) HI3.out (by omega)
              have hs := HS.out (by first | rfl | trivial)
              have hrm := HRM.out (by first | rfl | trivial)
              have hmay := may_ok M0 E0 hrm hs
              obtain ⟨n1, e1, z1⟩ := check_tells r4 l3 i3 (by omega) true hmay
              obtain ⟨n2, e2, z2⟩ := check_tells a1 (runL a2 l3) i4 (by omega) true hmay
              obtain ⟨f, hf, hf2, hf3, hf5⟩ := HO.out (by first | rfl | trivial)
              have hno : 1 ≤ a2 ∧ a2 ≤ 536870911 := of_decide_eq_true HOK.out.symm
              have hin := check_in r4 l3 i3 (by omega) n1 e1 z1
              have ha2 : ((a2.toNat : Nat) : Int) = a2 := by omega
              have HW := Lib.hid (check_within hrm hs a1 a2.toNat l3 (runL a2 l3) f i3 i4 (by omega) (by omega) (by omega) (by unfold runL; rw [← HOK.out]; rfl) (by omega) (by rw [ha2]; exact hf) (by rw [hf2]; simpa using hk9) (by rw [hf5]; simpa using hy9) n1 e1 n2 e2 (by rw [hf3]; exact z1) z2)
              have Z1 := Lib.hid z1
              have Z2 := Lib.hid z2
              obtain ⟨hin1, hin2⟩ := hin
              clear z1 z2 hf hf2 hf3 hf5 hno ha2 hmay hs hrm i3 i4 hl4 hA
              go_wp2_with fail
              refine (HC.out r4 A3 c3 l3 n1 e1 w5 B5.out (Kd.C_below HB3.out.2 B5.out) HB3.out.1 Z1.out).mono ?_; rintro e w6 ⟨rfl, b6⟩
              have Q6 := Lib.hid (Q5.out.below b6)
              have B6 := Lib.hid (B5.out.nx b6)
              have HC6 := Lib.hid (show _ ∧ Kd.C (Kd.int .u8) w6 Ac (runL a2 l3).length (runL a2 l3) from ⟨HC5.out.1, Kd.C_below HC5.out.2 b6⟩)
              clear b6 l1 t0 t1 g2 g3 g5 ltf Q5 B5 F5 HC5
              obtain ⟨l1, t0, t1⟩ := Q6.out
              go_wp2_with fail
              refine (HC.out a1 Ac cc (runL a2 l3) n2 e2 w6 B6.out HC6.out.2 HC6.out.1 Z2.out).mono ?_; rintro e w7 ⟨rfl, b7⟩
              have B7 := Lib.hid (B6.out.nx b7)
              clear b7 l1 t0 t1 Q6 B6 HC6 hk9 hk8 hy9 hy8 hd
              by_cases h64 : 64 ≤ n1
              · have hd : decide (n1 ≥ 64) = true := decide_eq_true h64
                have hw := HW.out.1 h64
                cases h11 : ((e2 : Int) == 11) with
                | true =>
                  clear hw
                  go_wp2_with fail
                  exact ⟨rfl, _, results_tmp (t := 8) rfl _ _ _, rfl, B7.out⟩
                | false =>
                  have hee : ((e2 : Int) == e1) = true := by
                    rcases hw with h | h
                    · rw [h] at h11; cases h11
                    · simp [h]
                  clear hw
                  go_wp2_with fail
                  exact ⟨rfl, _, results_tmp (t := 8) rfl _ _ _, rfl, B7.out⟩
              · have hd : decide (n1 ≥ 64) = false := decide_eq_false h64
                obtain ⟨hw1, hw2⟩ := HW.out.2 (by omega)
                have hee : ((e2 : Int) == e1) = true := by simp [hw1]
                have hnn : ((n2 : Int) == n1 + 1) = true := by simp [hw2]
                clear hw1 hw2
                go_wp2_with fail
                exact ⟨rfl, _, results_tmp (t := 8) rfl _ _ _, rfl, B7.out⟩

/-! THE ROW -/
set_option maxRecDepth 100000 in
theorem lifted (os : Os) (started : os.Started) (H : Type) (enc : TypeId × Value → H) :
    ReturnsInHanded {} Try.checked os 5 .any (Rows.validWithinSpec.pre6 enc Try.prog Try.f5 Rows.validWithinRow.domain false) (Rows.validWithinSpec.post enc Try.prog Try.f5 false true false false) := by
  refine returnsInHanded_of_change_sized (C := Try.checked) own started (by kernel_rfl) Try.func5
    (ChangeSpec.witness6 (enc := enc) (C := Try.checked) false ⟨#[], #[.agg #[.slice none 0 0, .slice none 0 0], .int .i64 0, .int .i64 0, .slice none 0 0], []⟩ 8 (by kernel_rfl) (by kernel_rfl) (by kernel_rfl) (by kernel_rfl)) ?_
  intro W base args ds gs before hval0 hW hcnd hsz0 _
  have hsz : (DataW.weightsEach Try.prog (Try.f5.params.toList ++ Rows.validWithinSpec.plain.varTypes Try.prog) (ds ++ gs)).all (· ≤ reachBytes) = true := hsz0
  have hval : ∀ (j : Nat) t v, Try.f5.params[j]? = some t → args[j]? = some v → Value.okWide Try.prog W .any base t v := hval0
  have hW' := hW
  obtain ⟨p, q, hA0, hV, rfl, hfz, hnd⟩ := hW
  have hA : DataW.TrodAll enc Try.prog W 0 (fun _ => true) true Try.f5.params.toList args.toList ds p := hA0
  rw [Try.params5] at hA hval hsz
  obtain ⟨v0, vs0, d0, ds0, p0, q0, hargs, rfl, rfl, h0, r0⟩ := trodAll_cons hA
  obtain ⟨v1, vs1, d1, ds1, p1, q1, rfl, rfl, rfl, h1, r1⟩ := trodAll_cons r0
  obtain ⟨v2, vs2, d2, ds2, p2, q2, rfl, rfl, rfl, h2, r2⟩ := trodAll_cons r1
  obtain ⟨v3, vs3, d3, ds3, p3, q3, rfl, rfl, rfl, h3, r3⟩ := trodAll_cons r2
  obtain ⟨rfl, rfl, rfl⟩ := trodAll_nil r3
  obtain rfl : args = #[v0, v1, v2, v3] := by cases args; simp_all
  obtain ⟨rfl, rfl⟩ := trodVars_none hV
  have k0 := h0
  have lt0 : ∀ x ∈ p0, x.block < W.heap.size := by obtain ⟨m, hm⟩ := k0; exact DataW.trod_lt m _ _ _ hm
  have hw0 : ∀ z ∈ d0.weights Try.prog 25, z ≤ reachBytes := fun z hz => by simpa using List.all_eq_true.1 hsz z (DataW.weights_mem_each (j := 0) rfl rfl z hz)
  obtain ⟨c0, rfl, -⟩ := okWide_struct Try.underlying25 (hval 0 25 v0 rfl rfl)
  obtain ⟨fuel0, hf0⟩ := h0
  obtain ⟨A0a, c0a, M0, A0b, c0b, E0, e0, g0⟩ := open_schema hf0 hw0
  have e0' : c0 = #[.slice A0a M0.length c0a, .slice A0b E0.length c0b] := by apply Array.ext'; simpa [Value.cells] using e0
  subst e0'
  obtain ⟨a1, rfl, rfl, rfl, w1⟩ := open_int Try.underlying3 (hval 1 3 v1 rfl rfl) h1
  obtain ⟨a2, rfl, rfl, rfl, w2⟩ := open_int Try.underlying3 (hval 2 3 v2 rfl rfl) h2
  have k3 := h3
  have lt3 : ∀ x ∈ p3, x.block < W.heap.size := by obtain ⟨m, hm⟩ := k3; exact DataW.trod_lt m _ _ _ hm
  have hw3 : ∀ z ∈ d3.weights Try.prog 26, z ≤ reachBytes := fun z hz => by simpa using List.all_eq_true.1 hsz z (DataW.weights_mem_each (j := 3) rfl rfl z hz)
  obtain ⟨a3, len3, cap3, rfl⟩ := okWide_slice Try.underlying26 (hval 3 26 v3 rfl rfl)
  obtain ⟨fuel3, hf3⟩ := h3
  obtain ⟨A3, c3, l3, e3, g3⟩ := open_bytes2 hf3 hw3
  have e3' : Value.slice a3 len3 cap3 = .slice A3 l3.length c3 := by simpa [Value.cells] using e3
  cases e3'
  clear hA0 hval0 hsz0 hsz
  refine (walk W _ _ M0 _ _ E0 g0 a1 (int_wf w1) a2 (int_wf w2) _ _ l3 g3).mono fun e W' ⟨he, bel⟩ => ?_
  subst he
  exact ⟨_, rfl, _, _, _, [], _, [], hW', trodAll_mk1 (shut_bool Try.underlying4 _), (trodAll_cons_mk (Below.trod laidOut (by kernel_rfl) (of_decide_eq_true (by kernel_rfl)) k0 bel lt0) (trodAll_cons_mk (shut_int Try.underlying3 w1) (trodAll_cons_mk (shut_int Try.underlying3 w2) (trodAll_cons_mk (Below.trod laidOut (by kernel_rfl) (of_decide_eq_true (by kernel_rfl)) k3 bel lt3) trodAll_mk0)))), rfl, bel.frame _, fun h => by cases h⟩

theorem over : Rows.validWithinRow.holds Try.pinned (OpenSpec.ofChange Rows.validWithinSpec) :=
  OpenClaim.holds_of_wide 5 Try.f5 rfl rfl rfl rfl rfl rfl rfl ⟨rfl, rfl, rfl, rfl, rfl⟩ rfl rfl rfl rfl rfl (by kernel_rfl) Try.func5 (by kernel_rfl)
    (of_decide_eq_true (by kernel_rfl)) (by unfold Func.isWrapper; first | (rw [if_pos (by decide +kernel)]; kernel_rfl) | (rw [if_neg (by decide +kernel)]; exact ⟨rfl, rfl⟩))
    (fun os started H enc _ => lifted os started H enc)

/-- THE STATEMENT -/
theorem proved : Rows.ValidWithinSaid := over
#print axioms proved
end Go.Proofs.Ytlokcpfkaijchaa.validWithin
