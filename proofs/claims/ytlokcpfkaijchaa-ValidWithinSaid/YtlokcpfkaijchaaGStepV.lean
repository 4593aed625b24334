/- Contract of valid.Step. -/
import Derived.Test.YtlokcpfkaijchaaGStepGo
import Derived.Test.YtlokcpfkaijchaaGClone
import Derived.Test.YtlokcpfkaijchaaGMay
namespace Go.Proofs.Ytlokcpfkaijchaa.PA
open Go.RowKit Go.Proofs.YtlokcpfkaijchaaW.PrintWords Go.Proofs.YtlokcpfkaijchaaW.PrintLast Go.Proofs.YtlokcpfkaijchaaW.PrintMore
set_option linter.unusedVariables false
set_option linter.unusedSimpArgs false
def valid_Step.f (l0_0 : List (S77)) (l0_1 : List (S81)) (l1 : List Int) (l2 : List (S40)) : Option ((List (S40)) × Int) :=
  match l2.getLast? with
  | none => some ([], 0)
  | some x => (table_May.f l0_0 l0_1).bind fun m => if m = true then (if l2.length ≤ 999999 then stepF 20 l0_0 l0_1 l1 l2.dropLast x else none) else some ([], 1)
set_option maxHeartbeats 4000000 in
set_option maxRecDepth 100000 in
theorem valid_Step.calls (A0_0 : Option Addr) (c0_0 : Nat) (l0_0 : List (S77)) (A0_1 : Option Addr) (c0_1 : Nat) (l0_1 : List (S81)) (A1 : Option Addr) (c1 : Nat) (l1 : List Int) (A2 : Option Addr) (c2 : Nat) (l2 : List (S40)) (r1 : List (S40)) (r2 : Int) (w : World) (hr0_0 : Kd.C k77 w A0_0 l0_0.length l0_0) (hc0_0 : l0_0.length ≤ c0_0) (hr0_1 : Kd.C k81 w A0_1 l0_1.length l0_1) (hc0_1 : l0_1.length ≤ c0_1) (hr1 : Kd.C (Kd.int .u8) w A1 l1.length l1) (hc1 : l1.length ≤ c1) (hr2 : Kd.C k40 w A2 l2.length l2) (hc2 : l2.length ≤ c2) (h : valid_Step.f l0_0 l0_1 l1 l2 = some (r1, r2)) :
    Calls Try.prog 15 #[.agg #[.slice A0_0 l0_0.length c0_0, .slice A0_1 l0_1.length c0_1], .slice A1 l1.length c1, .slice A2 l2.length c2] w fun e w' => ∃ v0_ : Value, e = .returned (.tuple #[v0_, .int .i64 r2]) ∧ Kd.R k40 40 w' w.heap.size (fun _ => True) v0_ r1 ∧ Below w.heap.size w w' := by
  have HR0 := Lib.hid hr0_0
  have HC0 := Lib.hid hc0_0
  have HR1 := Lib.hid hr0_1
  have HC1 := Lib.hid hc0_1
  have HRB := Lib.hid hr1
  have HCB := Lib.hid hc1
  have HR2 := Lib.hid hr2
  clear hr0_0 hc0_0 hr0_1 hc0_1 hr1 hc1 hr2
  rcases List.eq_nil_or_concat l2 with rfl | ⟨l, x, rfl⟩
  · obtain ⟨rfl, rfl⟩ : [] = r1 ∧ 0 = r2 := by simpa [valid_Step.f] using h
    clear h HR2
    go_enter Try.func15, Try.ntmps15
    go_wp2_with fail
    go_ret2
    exact ⟨_, rfl, Kd.R_nil _ _ _ _ _, al1 _ _⟩
  · simp only [List.concat_eq_append] at *
    have hgl : (l ++ [x]).getLast? = some x := by simp
    have hdl : (l ++ [x]).dropLast = l := by simp
    unfold valid_Step.f at h
    rw [hgl, hdl] at h
    dsimp only at h
    have hlen : (l ++ [x]).length = l.length + 1 := by simp
    cases hm : table_May.f l0_0 l0_1 with
    | none => rw [hm] at h; cases h
    | some m =>
      rw [hm] at h
      simp only [Option.bind_some] at h
      have HM := Lib.hid (fun (w1 : World) (hb : Below w.heap.size w w1) => table_May.calls A0_0 c0_0 l0_0 A0_1 c0_1 l0_1 m w1 (Kd.C_below HR0.out hb) HC0.out (Kd.C_below HR1.out hb) HC1.out hm)
      clear hm
      cases m with
      | false =>
        obtain ⟨rfl, rfl⟩ : [] = r1 ∧ 1 = r2 := by simpa using h
        clear h HR2
        rw [hlen] at *
        go_enter Try.func15, Try.ntmps15
        go_wp2_with (go_at_call 27; (with_reducible refine (HM.out _ (al1 _ _)).mono ?_); rintro e w2 ⟨rfl, b1⟩; have BB := Aside0.mk ((al1 _ _).nx b1); clear b1)
        go_ret2
        exact ⟨_, rfl, Kd.R_nil _ _ _ _ _, BB.out⟩
      | true =>
        rw [if_pos rfl] at h
        by_cases hl : (l ++ [x]).length ≤ 999999
        case neg => rw [if_neg hl] at h; cases h
        rw [if_pos hl] at h
        have H := Lib.hid h
        have HL := Lib.hid (show l.length ≤ 999998 by rw [hlen] at hl; omega)
        obtain ⟨ad, rfl, _⟩ := HR2.out.2.2 (by rw [hlen]; omega)
        have HCL := Lib.hid (fun (w1 : World) (hb : Below w.heap.size w w1) => clone_frames ad c2 (l ++ [x]) w1 (Kd.C_below HR2.out hb) (by rw [hlen]; have := HL.out; omega))
        have HST := Lib.hid (fun (w1 : World) (v : Value) (hb : Below w.heap.size w w1) (hv : Kd.R k40 40 w1 w.heap.size (fun _ => True) v (l ++ [x])) => valid_step A0_0 c0_0 l0_0 A0_1 c0_1 l0_1 l1 A1 c1 w w1 hb v l x hv HR0.out HC0.out HR1.out HC1.out HRB.out HCB.out HL.out 20 r1 r2 H.out)
        clear h hl hgl hdl HR2
        rw [hlen] at *
        go_enter Try.func15, Try.ntmps15
        go_upto_region 5 with (go_at_call 27; (with_reducible refine (HM.out _ (al1 _ _)).mono ?_); rintro e w2 ⟨rfl, b1⟩; have BB := Aside0.mk ((al1 _ _).nx b1); have BK := Aside0.mk (blk_below (heap_alloc_last _ _) b1); clear b1)
        have q0 : w2.cell? ⟨w.heap.size, 0, none⟩ = some (.slice A0_0 l0_0.length c0_0) := (blk_cell BK.out 0).trans rfl
        have q1 : w2.cell? ⟨w.heap.size, 1, none⟩ = some (.slice A0_1 l0_1.length c0_1) := (blk_cell BK.out 1).trans rfl
        have lt1 := blk_lt BK.out
        go_region_with (first
          | (go_at_call 32; (with_reducible refine (HCL.out _ ?_).mono ?_); (exact BB.out.drew); rintro e w3 ⟨v3, rfl, h3, b3⟩; have bb := Below.nx BB.out.drew b3; have BB3 := Aside0.mk bb; have HV3 := Aside0.mk (Kd.R_lower h3 BB.out.drew.size); have bk := blk_below (blk_drew BK.out) b3; have s0 : w3.cell? ⟨w.heap.size, 0, none⟩ = some (.slice A0_0 l0_0.length c0_0) := (blk_cell bk 0).trans rfl; have s1 : w3.cell? ⟨w.heap.size, 1, none⟩ = some (.slice A0_1 l0_1.length c0_1) := (blk_cell bk 1).trans rfl; have lt3 := blk_lt bk; clear h3 b3 bb bk)
          | (go_at_call 28; (with_reducible refine (HST.out _ _ BB3.out HV3.out).mono ?_); rintro e w4 ⟨v4, rfl, h4, b4⟩; have HV4 := Aside0.mk h4; have BB4 := Aside0.mk b4; clear h4 b4))
        all_goals go_wp2_with fail
        all_goals go_ret2
        all_goals exact ⟨_, rfl, HV4.out, BB4.out⟩
end Go.Proofs.Ytlokcpfkaijchaa.PA
