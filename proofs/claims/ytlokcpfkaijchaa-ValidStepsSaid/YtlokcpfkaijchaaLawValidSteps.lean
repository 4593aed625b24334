/- The statement ValidSteps: for every schema, every message number and all bytes, at most 1000, no more steps are taken than there are bytes, and one, and the frames lie within one another; no condition. -/
import Derived.Test.YtlokcpfkaijchaaRows
import Derived.WalkKit
import Derived.ProofKit
import Derived.OpenShut
import Derived.ShutString
import Derived.ChangeOld
import Derived.Below
import Derived.Deep.RegionHeld3
import Derived.Deep.DeepCutAuto
import Derived.WalkSpells
import Derived.SizedLaws
import Derived.ChangeSlices
import Derived.Test.YtlokcpfkaijchaaPParts
import Derived.Test.YtlokcpfkaijchaaPMay
import Derived.Test.YtlokcpfkaijchaaAwake18
import Derived.Test.YtlokcpfkaijchaaOpenS
import Derived.Test.YtlokcpfkaijchaaGRefMay
namespace Go.Proofs.Ytlokcpfkaijchaa.validSteps
open Go.ChangeShapes Go.WideShapes Go.ChangeAt Go.RowKit Go.Tr Go.Proofs.Ytlokcpfkaijchaa Go.Proofs.Ytlokcpfkaijchaa.PA Go.Proofs.YtlokcpfkaijchaaW.PrintWords Go.Proofs.YtlokcpfkaijchaaW.PrintLast Go.Proofs.YtlokcpfkaijchaaW.PrintMore
set_option linter.unusedVariables false
set_option linter.unusedSimpArgs false

theorem own : ownKnob Try.prog.godebug = none := by kernel_rfl
theorem laidOut : laidOutB Try.prog = true := by kernel_rfl
theorem is_bytes {l : List Int} (h : ∀ n ∈ l, 0 ≤ n ∧ n ≤ 255) (hl : l.length ≤ 1000) : isBytes l = true := by
  simp only [isBytes, Bool.and_eq_true, List.all_eq_true, decide_eq_true_eq]
  exact ⟨h, by omega⟩
theorem ref_few {M : List S77} {E : List S81} (h : RefMay M E) : FewP M E := by
  obtain ⟨h1, h2, h3, h4, h5, h6⟩ := h
  refine ⟨by omega, by omega, fun m hm => ?_, fun e he => ?_⟩
  · have := (h4 m hm).1
    omega
  · obtain ⟨a, b, c, -⟩ := h5 e he
    omega
theorem ref_true {M : List S77} {E : List S81} (h : truffleref08_May.f M E = some true) : RefMay M E := by
  unfold truffleref08_May.f at h
  exact @of_decide_eq_true _ (Classical.propDecidable _) (Option.some.inj h)
/-- A step answers. -/
theorem step_of {M : List S77} {E : List S81} (b : List Int) (L : List S40) (mm : Bool) (hm : table_May.f M E = some mm) (hb : isBytes b = true) (hl : b.length ≤ 1000) (hG : PA.Good b.length L) (hL : L.length ≠ 0) (hp : psi L ≤ 900000) :
    ∃ r e, valid_Step.f M E b L = some (r, e) ∧ (e = 0 → PA.Good b.length r ∧ psi r + 1 ≤ psi L) := by
  rcases List.eq_nil_or_concat L with rfl | ⟨l, x, rfl⟩
  · exact absurd rfl hL
  rw [List.concat_eq_append] at *
  have hn := psi_nonneg hG
  have hn' : ((l ++ [x]).length : Int) ≤ 900000 := by omega
  unfold valid_Step.f
  rw [List.getLast?_append]
  simp only [List.getLast?_singleton, Option.some_or, hm, Option.bind_some]
  cases mm with
  | false => exact ⟨[], 1, rfl, fun h => absurd h (by decide)⟩
  | true =>
    rw [if_pos rfl, if_pos (by omega), List.dropLast_concat]
    exact step_tells M E b l x hb (by omega) hG
theorem start_is (a : Int) (b : List Int) : valid_Start.f a b = some [startF a b] := rfl
theorem c_below {α : Type} {d : Kd α} {w w' : World} {A : Option Addr} {n : Nat} {xs : List α} (h : d.C w A n xs) (hb : Below w.heap.size w w') : d.C w' A n xs := Kd.C_below h hb
/-! THE WALK -/
set_option maxHeartbeats 8000000 in
set_option maxRecDepth 100000 in
theorem walk (w : World) (A0a : Option Addr) (c0a : Nat) (M0 : List S77) (A0b : Option Addr) (c0b : Nat) (E0 : List S81) (h0 : OkSchema w A0a c0a M0 A0b c0b E0) (a1 : Int) (w1 : -9223372036854775808 ≤ a1 ∧ a1 ≤ 9223372036854775807) (A2 : Option Addr) (c2 : Nat) (l2 : List Int) (h2 : OkBytes w A2 c2 l2) :
    Calls Try.prog 4 #[.agg #[.slice A0a M0.length c0a, .slice A0b E0.length c0b], .int .i64 a1, .slice A2 l2.length c2] w fun e w' => e = .returned (.bool true) ∧ Below w.heap.size w w' := by
  have hm1 := w1
  clear w1
  obtain ⟨q1, q2, q3, q4, q5, q6⟩ := h0
  obtain ⟨p1, p2, p3⟩ := h2
  have HA := Lib.hid fun w' => awake18 w'
  obtain ⟨rm, hrm⟩ : ∃ r, truffleref08_May.f M0 E0 = some r := ⟨_, rfl⟩
  have HF := Lib.hid fun w' (hb : Below w.heap.size w w') => truffleref08_May.calls A0a c0a M0 A0b c0b E0 rm w' (Kd.C_below q2 hb) q1 (Kd.C_below q4 hb) q3 hrm
  have HT := Lib.hid fun (L r : List S40) (e : Int) (A : Option Addr) (c : Nat) (w' : World) (hb : Below w.heap.size w w') (h1 : Kd.C k40 w' A L.length L) (h2 : L.length ≤ c) (h : valid_Step.f M0 E0 l2 L = some (r, e)) => valid_Step.calls A0a c0a M0 A0b c0b E0 A2 c2 l2 A c L r e w' (Kd.C_below q2 hb) q1 (Kd.C_below q4 hb) q3 (Kd.C_below p2 hb) p1 h1 h2 h
  have HS := Lib.hid fun (w' : World) (hb : Below w.heap.size w w') => valid_Start.calls a1 A2 c2 l2 _ w' (Kd.C_below p2 hb) p1 (start_is a1 l2)
  have HMay := Lib.hid fun (h : rm = true) => may_total M0 E0 (few_ok (ref_few (ref_true (h ▸ hrm))) q5 q6)
  have HI2 := Lib.hid p3
  clear hrm q1 q2 q3 q4 q5 q6 p1 p2 p3
  go_enter Try.func4, Try.ntmps4
  go_wp2_with fail
  refine (HA.out _).mono ?_; rintro e w1 ⟨rfl, b1⟩
  have Q1 := Lib.hid ((Box2.new w (.slice A0a M0.length c0a) (.slice A0b E0.length c0b) 25).below b1)
  have B1 := Lib.hid ((al1 w (.cells #[.slice A0a M0.length c0a, .slice A0b E0.length c0b] 25)).nx b1)
  clear b1
  obtain ⟨l1, t0, t1⟩ := Q1.out
  go_wp2_with fail
  refine (HF.out _ B1.out).mono ?_; rintro e w2 ⟨rfl, b2⟩
  have Q2 := Lib.hid (Q1.out.below b2)
  have B2 := Lib.hid (B1.out.nx b2)
  clear b2 l1 t0 t1 Q1 B1
  obtain ⟨l1, t0, t1⟩ := Q2.out
  cases rm with
  | false =>
    go_wp2_with fail
    exact ⟨rfl, _, results_tmp (t := 6) rfl _ _ _, rfl, B2.out⟩
  | true =>
    by_cases hA : 1000 < l2.length
    · have hd : decide ((l2.length : Int) > 1000) = true := decide_eq_true (by omega)
      go_wp2_with fail
      exact ⟨rfl, _, results_tmp (t := 6) rfl _ _ _, rfl, B2.out⟩
    have hd : decide ((l2.length : Int) > 1000) = false := decide_eq_false (by omega)
    by_cases hB : a1 < 0
    · have hd2 : decide (a1 < 0) = true := by simpa using hB
      go_wp2_with fail
      exact ⟨rfl, _, results_tmp (t := 6) rfl _ _ _, rfl, B2.out⟩
    have hd2 : decide (a1 < 0) = false := by simpa using hB
    by_cases hC : (M0.length : Int) ≤ a1
    · have hd3 : decide (a1 ≥ (M0.length : Int)) = true := by simpa using hC
      go_wp2_with fail
      exact ⟨rfl, _, results_tmp (t := 6) rfl _ _ _, rfl, B2.out⟩
    have hd3 : decide (a1 ≥ (M0.length : Int)) = false := by simpa using hC
    have HI := Lib.hid (is_bytes HI2.out (by omega))
    obtain ⟨mm, hmm⟩ := HMay.out rfl
    have HMM := Lib.hid hmm
    have LA : l2.length ≤ 1000 := by omega
    clear hmm hA hB hC HMay HF
    go_wp2_with fail
    refine (HS.out _ B2.out).mono ?_; rintro e w3 ⟨v3, rfl, hr3, b3⟩
    have Q3 := Lib.hid (Q2.out.below b3)
    have B3 := Lib.hid (B2.out.nx b3)
    obtain ⟨A3, c3, rfl, hc3, hC3⟩ := Kd.R_reads hr3
    have HC3 := Lib.hid (And.intro hc3 hC3)
    clear b3 hr3 hc3 hC3 l1 t0 t1 Q2 B2 hd hd2 hd3
    go_wp2_with fail
    go_loopg [8, 9] (l2.length + 1) (fun g v8 v9 wr => ∃ (A : Option Addr) (c : Nat) (L : List S40) (k : Nat), v8 = .slice A L.length c ∧ Hid (L.length ≤ c ∧ Kd.C k40 wr A L.length L) ∧ Hid (PA.Good l2.length L) ∧ Hid (psi L + k ≤ l2.length + 1 ∧ psi L ≤ g) ∧ v9 = .int .i64 k ∧ Hid (Box2 w.heap.size wr (.slice A0a M0.length c0a) (.slice A0b E0.length c0b)) ∧ Hid (Below w.heap.size w wr))
    case atStart => exact ⟨A3, c3, [startF a1 l2], 0, rfl, HC3, Lib.hid (start_good a1 l2), Lib.hid (by rw [start_psi]; omega), rfl, Q3, B3⟩
    case round =>
      rename World => wA
      clear HC3 Q3 B3
      obtain ⟨A, c, L, k, rfl, HC, HG, HP, rfl, Q, B⟩ := hrel
      by_cases hL : L.length = 0
      · obtain rfl := List.length_eq_zero_iff.1 hL
        clear hL HC HG HP
        go_wp2_with fail
        exact ⟨rfl, _, results_tmp (t := 6) rfl _ _ _, rfl, B.out⟩
      have hd : decide ((L.length : Int) > 0) = true := decide_eq_true (by omega)
      have hL1 : 0 < L.length := by omega
      have hne : ¬ L = [] := fun h => hL (by rw [h]; rfl)
      obtain ⟨r, e, hse, hsg⟩ := step_of l2 L mm HMM.out HI.out LA HG.out hL (by have := HP.out.1; omega)
      have HSE := Lib.hid hse
      have HSG := Lib.hid hsg
      have hpos : (1 : Int) ≤ psi L := by have := psi_nonneg HG.out; omega
      have hk9 : (k : Int) + 1 ≤ l2.length + 1 := by have := HP.out.1; omega
      have hgk : (1 : Int) ≤ gk := by have := HP.out.2; omega
      obtain ⟨l1, t0, t1⟩ := Q.out
      clear hse hsg hL
      go_wp2_with fail
      refine (HT.out L r e A c wA B.out HC.out.2 HC.out.1 HSE.out).mono ?_; rintro e' wB ⟨vB, rfl, hrB, bB⟩
      have QB := Lib.hid (Q.out.below bB)
      have BB := Lib.hid (B.out.nx bB)
      obtain ⟨An, cn, rfl, hcn, hCn⟩ := Kd.R_reads hrB
      have HCN := Lib.hid (And.intro hcn hCn)
      clear bB hrB hcn hCn l1 t0 t1 hd
      rcases Decidable.em (¬ e = 0) with he | he
      · have hd1 : (e != 0) = true := by simpa using he
        have hd2 : (e == 0) = false := by simpa using he
        clear he
        go_wp2_with fail
        exact ⟨rfl, _, results_tmp (t := 6) rfl _ _ _, rfl, BB.out⟩
      have he' := Decidable.not_not.1 he
      clear he
      obtain rfl : e = 0 := he'
      have HGR := Lib.hid (HSG.out rfl)
      go_wp2_with fail
      go_loopw [12] (fun v12 wr => ∃ (i : Nat), i ≤ r.length ∧ v12 = .int .i64 i ∧ Hid (Below wB.heap.size wB wr)) (fun v12 _ => r.length - (intOf v12).toNat)
      case atStart => exact ⟨0, Nat.zero_le _, rfl, Lib.hid (Below.refl _ _)⟩
      case round =>
        rename World => wC
        obtain ⟨i, hi, rfl, BC⟩ := hrel
        by_cases hlt : i < r.length
        · obtain ⟨an, rfl, u0, u1, u2, u3, u4, u5, u6, u7, u8, u9, u10, u11⟩ := at_T40 (Kd.C_below HCN.out.2 BC.out) i (by omega) (by omega)
          have eg' : rd_T40 r (i : Int) = r[i] := by simp [rd_T40, hlt]
          rw [eg'] at u0 u1 u2 u3 u4 u5 u6 u7 u8 u9 u10 u11
          simp only [Int.toNat_natCast] at u0 u1 u2 u3 u4 u5 u6 u7 u8 u9 u10 u11
          have HXI := Lib.hid (show r[i]? = some r[i] from List.getElem?_eq_getElem hlt)
          obtain ⟨x1, x2, x3, x4, x5⟩ := HGR.out.1.1 r[i] (List.getElem_mem hlt)
          clear eg'
          generalize r[i] = x at *
          have hr9 : r.length ≤ 100000 := by have h1 := psi_nonneg HGR.out.1; have h2 := HGR.out.2; have h3 := HP.out.1; omega
          have hi0 : (0 : Int) ≤ (i : Int) := by omega
          have hi1 : (i : Int) < (r.length : Int) := by omega
          go_upto_region 14 with (first | (with_reducible refine wpList_store_new rfl (.tmp 13) (.tmp 65) rfl rfl rfl (by kernel_rfl) (by simp) (by simp [Value.oneCell']) ?_))
          try simp only [Act.put]
          have BN := Lib.hid (al1 wC (.cells #[.bool x.f0, .int .i64 x.f1, .int .i64 x.f2.f0, .string x.f2.f1, .int .i64 x.f2.f2, .int .i64 x.f2.f3, .bool x.f2.f4, .int .i64 x.f2.f5, .int .i64 x.f2.f6, .int .i64 x.f3, .int .i64 x.f4, .int .i64 x.f5] 40))
          have BXX := Lib.hid (heap_alloc_last wC (.cells #[.bool x.f0, .int .i64 x.f1, .int .i64 x.f2.f0, .string x.f2.f1, .int .i64 x.f2.f2, .int .i64 x.f2.f3, .bool x.f2.f4, .int .i64 x.f2.f5, .int .i64 x.f2.f6, .int .i64 x.f3, .int .i64 x.f4, .int .i64 x.f5] 40))
          generalize hwD : wC.alloc (.cells #[.bool x.f0, .int .i64 x.f1, .int .i64 x.f2.f0, .string x.f2.f1, .int .i64 x.f2.f2, .int .i64 x.f2.f3, .bool x.f2.f4, .int .i64 x.f2.f5, .int .i64 x.f2.f6, .int .i64 x.f3, .int .i64 x.f4, .int .i64 x.f5] 40) = wD at *
          clear hwD u0 u1 u2 u3 u4 u5 u6 u7 u8 u9 u10 u11
          have g9 : wD.cell? ⟨wC.heap.size, 9, none⟩ = some (.int .i64 x.f3) := (blk_cell BXX.out 9).trans rfl
          have g10 : wD.cell? ⟨wC.heap.size, 10, none⟩ = some (.int .i64 x.f4) := (blk_cell BXX.out 10).trans rfl
          have g11 : wD.cell? ⟨wC.heap.size, 11, none⟩ = some (.int .i64 x.f5) := (blk_cell BXX.out 11).trans rfl
          have ltx := blk_lt BXX.out
          have BCD := Lib.hid (BC.out.nx BN.out)
          have d1 : decide (x.f5 < 1) = false := decide_eq_false (by omega)
          have d2 : decide (x.f5 > 64) = false := decide_eq_false (by omega)
          have d3 : decide (x.f3 > x.f4) = false := decide_eq_false (by omega)
          have d4 : decide (x.f4 > (l2.length : Int)) = false := decide_eq_false (by omega)
          clear x1 x2 x3 x4 x5
          rcases i with _ | j
          · clear hi0 hi1
            go_big_quiet (fail)
            go_wp2_with fail
            go_roundw
            case rel => exact ⟨1, by omega, by first | rfl | go_num, Lib.hid (pw_below_drewN BCD.out _)⟩
            case measure => simp [intOf]; omega
          · obtain ⟨am, ham, -, -, -, -, -, -, -, -, -, v9, -, v11⟩ := at_T40 (Kd.C_below HCN.out.2 BCD.out) j (by omega) (by omega)
            obtain rfl : an = am := Option.some.inj ham
            clear ham
            have hlj : j < r.length := by omega
            have eg' : rd_T40 r (j : Int) = r[j] := by simp [rd_T40, hlj]
            rw [eg'] at v9 v11
            simp only [Int.toNat_natCast] at v9 v11
            obtain ⟨y1, y2⟩ := HGR.out.1.2 j r[j] x (List.getElem?_eq_getElem hlj) HXI.out
            clear eg'
            generalize r[j] = y at *
            have d5 : decide (x.f4 > y.f3) = false := decide_eq_false (by omega)
            have d6 : decide (x.f5 < y.f5) = false := decide_eq_false (by omega)
            have d7 : decide ((((j + 1 : Nat) : Int)) > 0) = true := decide_eq_true (by omega)
            have hj0 : (0 : Int) ≤ (j : Int) := by omega
            have hj1 : (j : Int) < (r.length : Int) := by omega
            have w1 : IntKind.i64.wrap (((j + 1 : Nat) : Int) - 1) = (j : Int) := by rw [IntWalk.i64_in _ (by omega)]; omega
            have w2 : wrap64 (((j + 1 : Nat) : Int) - 1) = (j : Int) := by rw [IntWalk.wrap64_in _ (by omega)]; omega
            clear y1 y2
            go_big_quiet (fail)
            go_wp2_with fail
            clear w1 w2
            go_roundw
            case rel => exact ⟨j + 1 + 1, by omega, by first | go_num | exact num_next _ (by omega), Lib.hid (pw_below_drewN BCD.out _)⟩
            case measure => first | (simp [intOf]; omega) | (rw [num_next _ (by omega)]; simp [intOf]; omega)
        · obtain rfl : i = r.length := by omega
          have hkk : ¬ l2.length < k := by omega
          have hd5 : decide ((k : Int) + 1 > (l2.length : Int) + 1) = false := decide_eq_false (by omega)
          have hd6 : decide ((l2.length : Int) < (k : Int)) = false := decide_eq_false (by omega)
          go_wp2_with fail
          go_roundg (gk - 1)
          case measure => omega
          case rel => exact ⟨An, cn, r, k + 1, rfl, Lib.hid ⟨HCN.out.1, Kd.C_below HCN.out.2 BC.out⟩, Lib.hid HGR.out.1, Lib.hid (by have h1 := HGR.out.2; have h2 := HP.out; omega), by first | go_num | exact num_next _ (by omega), Lib.hid (QB.out.below BC.out), Lib.hid (BB.out.nx BC.out)⟩

/-! THE ROW -/
set_option maxRecDepth 100000 in
theorem lifted (os : Os) (started : os.Started) (H : Type) (enc : TypeId × Value → H) :
    ReturnsInHanded {} Try.checked os 4 .any (Rows.validStepsSpec.pre6 enc Try.prog Try.f4 Rows.validStepsRow.domain false) (Rows.validStepsSpec.post enc Try.prog Try.f4 false true false false) := by
  refine returnsInHanded_of_change_sized (C := Try.checked) own started (by kernel_rfl) Try.func4
    (ChangeSpec.witness6 (enc := enc) (C := Try.checked) false ⟨#[], #[.agg #[.slice none 0 0, .slice none 0 0], .int .i64 0, .slice none 0 0], []⟩ 8 (by kernel_rfl) (by kernel_rfl) (by kernel_rfl) (by kernel_rfl)) ?_
  intro W base args ds gs before hval0 hW hcnd hsz0 _
  have hsz : (DataW.weightsEach Try.prog (Try.f4.params.toList ++ Rows.validStepsSpec.plain.varTypes Try.prog) (ds ++ gs)).all (· ≤ reachBytes) = true := hsz0
  have hval : ∀ (j : Nat) t v, Try.f4.params[j]? = some t → args[j]? = some v → Value.okWide Try.prog W .any base t v := hval0
  have hW' := hW
  obtain ⟨p, q, hA0, hV, rfl, hfz, hnd⟩ := hW
  have hA : DataW.TrodAll enc Try.prog W 0 (fun _ => true) true Try.f4.params.toList args.toList ds p := hA0
  rw [Try.params4] at hA hval hsz
  obtain ⟨v0, vs0, d0, ds0, p0, q0, hargs, rfl, rfl, h0, r0⟩ := trodAll_cons hA
  obtain ⟨v1, vs1, d1, ds1, p1, q1, rfl, rfl, rfl, h1, r1⟩ := trodAll_cons r0
  obtain ⟨v2, vs2, d2, ds2, p2, q2, rfl, rfl, rfl, h2, r2⟩ := trodAll_cons r1
  obtain ⟨rfl, rfl, rfl⟩ := trodAll_nil r2
  obtain rfl : args = #[v0, v1, v2] := by cases args; simp_all
  obtain ⟨rfl, rfl⟩ := trodVars_none hV
  have k0 := h0
  have lt0 : ∀ x ∈ p0, x.block < W.heap.size := by obtain ⟨m, hm⟩ := k0; exact DataW.trod_lt m _ _ _ hm
  have hw0 : ∀ z ∈ d0.weights Try.prog 25, z ≤ reachBytes := fun z hz => by simpa using List.all_eq_true.1 hsz z (DataW.weights_mem_each (j := 0) rfl rfl z hz)
  obtain ⟨c0, rfl, -⟩ := okWide_struct Try.underlying25 (hval 0 25 v0 rfl rfl)
  obtain ⟨fuel0, hf0⟩ := h0
  obtain ⟨A0a, c0a, M0, A0b, c0b, E0, e0, g0⟩ := open_schema hf0 hw0
  have e0' : c0 = #[.slice A0a M0.length c0a, .slice A0b E0.length c0b] := by apply Array.ext'; simpa [Value.cells] using e0
  subst e0'
  obtain ⟨a1, rfl, rfl, rfl, w1⟩ := open_int Try.underlying3 (hval 1 3 v1 rfl rfl) h1
  have k2 := h2
  have lt2 : ∀ x ∈ p2, x.block < W.heap.size := by obtain ⟨m, hm⟩ := k2; exact DataW.trod_lt m _ _ _ hm
  have hw2 : ∀ z ∈ d2.weights Try.prog 26, z ≤ reachBytes := fun z hz => by simpa using List.all_eq_true.1 hsz z (DataW.weights_mem_each (j := 2) rfl rfl z hz)
  obtain ⟨a2, len2, cap2, rfl⟩ := okWide_slice Try.underlying26 (hval 2 26 v2 rfl rfl)
  obtain ⟨fuel2, hf2⟩ := h2
  obtain ⟨A2, c2, l2, e2, g2⟩ := open_bytes hf2 hw2
  have e2' : Value.slice a2 len2 cap2 = .slice A2 l2.length c2 := by simpa [Value.cells] using e2
  cases e2'
  clear hA0 hval0 hsz0 hsz
  refine (walk W _ _ M0 _ _ E0 g0 a1 (int_wf w1) _ _ l2 g2).mono fun e W' ⟨he, bel⟩ => ?_
  subst he
  exact ⟨_, rfl, _, _, _, [], _, [], hW', trodAll_mk1 (shut_bool Try.underlying4 _), (trodAll_cons_mk (Below.trod laidOut (by kernel_rfl) (of_decide_eq_true (by kernel_rfl)) k0 bel lt0) (trodAll_cons_mk (shut_int Try.underlying3 w1) (trodAll_cons_mk (Below.trod laidOut (by kernel_rfl) (of_decide_eq_true (by kernel_rfl)) k2 bel lt2) trodAll_mk0))), rfl, bel.frame _, fun h => by cases h⟩

theorem over : Rows.validStepsRow.holds Try.pinned (OpenSpec.ofChange Rows.validStepsSpec) :=
  OpenClaim.holds_of_wide 4 Try.f4 rfl rfl rfl rfl rfl rfl rfl ⟨rfl, rfl, rfl, rfl, rfl⟩ rfl rfl rfl rfl rfl (by kernel_rfl) Try.func4 (by kernel_rfl)
    (of_decide_eq_true (by kernel_rfl)) (by unfold Func.isWrapper; first | (rw [if_pos (by decide +kernel)]; kernel_rfl) | (rw [if_neg (by decide +kernel)]; exact ⟨rfl, rfl⟩))
    (fun os started H enc _ => lifted os started H enc)

/-- THE STATEMENT -/
theorem proved : Rows.ValidStepsSaid := over
#print axioms proved
end Go.Proofs.Ytlokcpfkaijchaa.validSteps
