/- Contracts of typed.May and typed.Val. typed's normal of messages all of whose slots go without saying; slices.SortFunc of nothing. The chapter's example: trufflelaw10.awake. -/
import Derived.Test.YthikfifoomfjgaaGreatMsgP10
import Derived.Test.YthikfifoomfjgaaGreatPMay
import Derived.Test.YthikfifoomfjgaaGreatSame
namespace Go.Proofs.YthikfifoomfjgaaGreat
open Go.RowKit Go.Tr Go.WideMaps Go.Maps Go.Proofs.YthikfifoomfjgaaGreat.PA Go.Proofs.YthikfifoomfjgaaGreatW.PrintWords Go.Proofs.YthikfifoomfjgaaGreatW.PrintLast Go.Proofs.YthikfifoomfjgaaGreatW.PrintMore
set_option maxRecDepth 100000
set_option linter.unusedVariables false
set_option linter.unusedSimpArgs false
/-- May the schema be? -/
def mayB (S : Sch) : Bool := (table_May.f S.M S.E).getD false
theorem Sch.may (S : Sch) (hok : okSchema S.M S.E = true) (w : World) (h : S.At w) : Calls Tryz.prog 35 #[.agg S.cells] w fun e w' => e = .returned (.bool (mayB S)) ∧ Below w.heap.size w w' := by
  obtain ⟨h1, h2, h3, h4⟩ := h
  obtain ⟨r, hr⟩ := may_total S.M S.E hok
  exact table_May.calls S.A0 S.c0 S.M S.A1 S.c1 S.E (mayB S) w h1 h2 h3 h4 (by unfold mayB; rw [hr]; rfl)
def mayOk (S : Sch) (n : Nat) (m : Int) (x : Msg) : Bool := decide ((x.deep : Int) ≤ 64) && (mayB S && msgOk S n m x)
def lowV (x : Val) : Bool := !x.m.any fun y => !decide ((y.deep : Int) ≤ 63)
def vOk (S : Sch) (n : Nat) (kind ref : Int) (x : Val) : Bool := lowV x && (mayB S && valOk (msgOk S n) kind ref x)
set_option maxHeartbeats 2000000 in
/-- typed.May. -/
theorem typed_may (S : Sch) (hF : S.Ok) (hok : okSchema S.M S.E = true) (L n : Nat) (hL : L ≤ 1048576) (w : World) (hS : S.At w) (m : Int) (cs : List Value) (x : Msg) (hx : RMsg L 0 w n cs x) :
    Calls Tryz.prog 16 #[.agg S.cells, .int .i64 m, .agg cs.toArray] w fun e w' => e = .returned (.bool (mayOk S n m x)) ∧ Below w.heap.size w w' := by
  obtain ⟨c, rfl, o1⟩ := rmsg_one L 0 n w cs x hx
  have HSH := Lib.hid fun w' (hb : Below w.heap.size w w') => typed_shallow L hL n w' [c] x 64 (RMsg.below hb n hx) (by omega) (by omega)
  have HMA := Lib.hid fun w' (hb : Below w.heap.size w w') => S.may hok w' (hS.below hb)
  have HMS := Lib.hid fun w' (hb : Below w.heap.size w w') => ty_msg S hF L hL n w' [c] x m (hS.below hb) (RMsg.below hb n hx)
  have HQ := Lib.hid (show mayOk S n m x = (decide ((x.deep : Int) ≤ 64) && (mayB S && msgOk S n m x)) from rfl)
  unfold ShalOut at HSH
  generalize mayOk S n m x = q at *
  clear hx hS
  unfold Sch.cells at *
  generalize decide ((x.deep : Int) ≤ 64) = q1 at *
  generalize mayB S = q2 at *
  generalize msgOk S n m x = q3 at *
  have HB := Lib.hid (al2 w (.cells #[.slice S.A0 S.M.length S.c0, .slice S.A1 S.E.length S.c1] 25) (.cells #[c] 28))
  have e0 : ((w.alloc (.cells #[.slice S.A0 S.M.length S.c0, .slice S.A1 S.E.length S.c1] 25)).alloc (.cells #[c] 28)).cell? ⟨w.heap.size, 0, none⟩ = some (.slice S.A0 S.M.length S.c0) := by simp [go_sem]
  have e1 : ((w.alloc (.cells #[.slice S.A0 S.M.length S.c0, .slice S.A1 S.E.length S.c1] 25)).alloc (.cells #[c] 28)).cell? ⟨w.heap.size, 1, none⟩ = some (.slice S.A1 S.E.length S.c1) := by simp [go_sem]
  have e2 : ((w.alloc (.cells #[.slice S.A0 S.M.length S.c0, .slice S.A1 S.E.length S.c1] 25)).alloc (.cells #[c] 28)).cell? ⟨w.heap.size + 1, 0, none⟩ = some c := by simp [go_sem]
  go_enter Tryz.func16, Tryz.ntmps16
  go_upto_region 1 with fail
  generalize (w.alloc (.cells #[.slice S.A0 S.M.length S.c0, .slice S.A1 S.E.length S.c1] 25)).alloc (.cells #[c] 28) = w1 at *
  have l0 := block_lt_of_cell e0
  have l2 := block_lt_of_cell e2
  have K0 := Lib.hid e0
  have K1 := Lib.hid e1
  have K2 := Lib.hid e2
  cases q1 with
  | false =>
    go_wp2_with (go_at_call 34; (with_reducible refine (HSH.out _ HB.out).mono ?_); rintro e w2 ⟨rfl, b2⟩)
    exact ⟨rfl, _, results_tmp (t := 6) rfl _ _ _, by rw [HQ.out]; rfl, HB.out.nx b2⟩
  | true =>
    cases q2 with
    | false =>
      go_wp2_with (first
        | (go_at_call 34; (with_reducible refine (HSH.out _ HB.out).mono ?_); rintro e w2 ⟨rfl, b2⟩; (have B2 := Lib.hid (HB.out.nx b2)); (have f0 := (b2.cell l0).trans K0.out); (have f1 := (b2.cell (p := ⟨w.heap.size, 1, none⟩) l0).trans K1.out); (have f2 := (b2.cell l2).trans K2.out); (have g0 := block_lt_of_cell f0); (have g2 := block_lt_of_cell f2); clear e0 e1 e2 l0 l2)
        | (go_at_call 35; (with_reducible refine (HMA.out _ B2.out).mono ?_); rintro e w3 ⟨rfl, b3⟩))
      exact ⟨rfl, _, results_tmp (t := 6) rfl _ _ _, by rw [HQ.out]; rfl, B2.out.nx b3⟩
    | true =>
      go_wp2_with (first
        | (go_at_call 34; (with_reducible refine (HSH.out _ HB.out).mono ?_); rintro e w2 ⟨rfl, b2⟩; (have B2 := Lib.hid (HB.out.nx b2)); (have f0 := (b2.cell l0).trans K0.out); (have f1 := (b2.cell (p := ⟨w.heap.size, 1, none⟩) l0).trans K1.out); (have f2 := (b2.cell l2).trans K2.out); (have g0 := block_lt_of_cell f0); (have g2 := block_lt_of_cell f2); clear e0 e1 e2 l0 l2; (have F0 := Lib.hid f0); (have F1 := Lib.hid f1); (have F2 := Lib.hid f2))
        | (go_at_call 35; (with_reducible refine (HMA.out _ B2.out).mono ?_); rintro e w3 ⟨rfl, b3⟩; (have B3 := Lib.hid (B2.out.nx b3)); (have h0 := (b3.cell g0).trans F0.out); (have h1 := (b3.cell (p := ⟨w.heap.size, 1, none⟩) g0).trans F1.out); (have h2 := (b3.cell g2).trans F2.out); (have j0 := block_lt_of_cell h0); (have j2 := block_lt_of_cell h2); clear f0 f1 f2 g0 g2)
        | (go_at_call 36; (with_reducible refine (HMS.out _ B3.out).mono ?_); rintro e w4 ⟨rfl, b4⟩))
      exact ⟨rfl, _, results_tmp (t := 6) rfl _ _ _, by rw [HQ.out]; rfl, B3.out.nx b4⟩
theorem val_1 (L n : Nat) (hL : L ≤ 1048576) (w : World) (cs : List Value) (x : Msg) (hx : RMsg L 0 w n cs x) :
    Calls Tryz.prog 42 (#[.agg cs.toArray] ++ #[]) w fun e w' => e = .returned (.bool (!decide ((x.deep : Int) ≤ 63))) ∧ Below w.heap.size w w' := by
  obtain ⟨c, rfl, o⟩ := rmsg_one L 0 n w cs x hx
  have HM := Lib.hid (typed_shallow L hL n (w.alloc (.cells #[c] 28)) [c] x 63 (RMsg.below (al1 _ _) n hx) (by omega) (by omega))
  unfold ShalOut at HM
  clear hx
  go_enter Tryz.func42, Tryz.ntmps42
  go_wp2_with (go_at_call 34; (with_reducible refine HM.out.mono ?_); rintro e w' ⟨rfl, b'⟩)
  exact ⟨rfl, _, results_tmp (t := 2) rfl _ _ _, rfl, (al1 _ _).nx b'⟩
set_option maxHeartbeats 2000000 in
/-- typed.Val. -/
theorem typed_val (S : Sch) (hF : S.Ok) (hok : okSchema S.M S.E = true) (L n : Nat) (hL : L ≤ 1048576) (w : World) (hS : S.At w) (kind ref : Int) (cs : List Value) (x : Val) (hx : RVal L 0 w (RMsg L 0 w n) cs x) :
    Calls Tryz.prog 20 #[.agg S.cells, .int .i64 kind, .int .i64 ref, .agg cs.toArray] w fun e w' => e = .returned (.bool (vOk S n kind ref x)) ∧ Below w.heap.size w w' := by
  have HV := Lib.hid fun w' (hb : Below w.heap.size w w') => ty_val S n L (ty_msg S hF L hL n) w' (hS.below hb) kind ref cs x (hx.below hb)
  obtain ⟨c, rfl, hn1, hn2, hs, h4⟩ := hx
  have HC := Lib.hid fun w' (hb : Below w.heap.size w w') => containsFunc_msg L 0 (by unfold maxLen; omega) (fun w => RMsg L 0 w n) (rmsg_stands L 0 n) (rmsg_one L 0 n) (fun y => !decide ((y.deep : Int) ≤ 63)) 42 #[] (enters_of Tryz.func42 (by kernel_rfl) rfl)
    (fun _ => True) (fun _ _ _ _ => trivial) (fun w cs x _ h => val_1 L n hL w cs x h) w' c x.m (h4.imp hb fun _ _ _ h => RMsg.below hb n h) trivial
  have HMA := Lib.hid fun w' (hb : Below w.heap.size w w') => S.may hok w' (hS.below hb)
  obtain ⟨a1, cap1, rfl, -⟩ := h4
  have HQ := Lib.hid (show vOk S n kind ref x = (lowV x && (mayB S && valOk (msgOk S n) kind ref x)) from rfl)
  generalize vOk S n kind ref x = q at *
  unfold lowV at HQ
  clear hS
  unfold Sch.cells at *
  generalize (x.m.any fun y => !decide ((y.deep : Int) ≤ 63)) = q1 at *
  generalize mayB S = q2 at *
  generalize valOk (msgOk S n) kind ref x = q3 at *
  have HB := Lib.hid (al2 w (.cells #[.slice S.A0 S.M.length S.c0, .slice S.A1 S.E.length S.c1] 25) (.cells #[.int .i64 x.n, .string x.s, .slice a1 x.m.length cap1] 39))
  have cells : ∀ W : World, W = (w.alloc (.cells #[.slice S.A0 S.M.length S.c0, .slice S.A1 S.E.length S.c1] 25)).alloc (.cells #[.int .i64 x.n, .string x.s, .slice a1 x.m.length cap1] 39) →
      W.cell? ⟨w.heap.size, 0, none⟩ = some (.slice S.A0 S.M.length S.c0) ∧ W.cell? ⟨w.heap.size, 1, none⟩ = some (.slice S.A1 S.E.length S.c1) ∧ W.cell? ⟨w.heap.size + 1, 0, none⟩ = some (.int .i64 x.n) ∧ W.cell? ⟨w.heap.size + 1, 1, none⟩ = some (.string x.s) ∧ W.cell? ⟨w.heap.size + 1, 2, none⟩ = some (.slice a1 x.m.length cap1) ∧ W.cell? ⟨w.heap.size + 1, 2, none⟩ = some (.slice a1 x.m.length cap1) := by
    rintro W rfl
    refine ⟨?_, ?_, ?_, ?_, ?_, ?_⟩ <;> simp [go_sem]
  have HCE := Lib.hid (cells _ rfl)
  clear cells
  go_enter Tryz.func20, Tryz.ntmps20
  go_upto_region 1 with fail
  generalize (w.alloc (.cells #[.slice S.A0 S.M.length S.c0, .slice S.A1 S.E.length S.c1] 25)).alloc (.cells #[.int .i64 x.n, .string x.s, .slice a1 x.m.length cap1] 39) = w1 at *
  obtain ⟨k0, k1, k2, k3, k4, -⟩ := HCE.out
  have l0 := block_lt_of_cell k0
  have l2 := block_lt_of_cell k2
  go_upto_region 2 with (go_at_call 41; (with_reducible refine (HC.out _ HB.out).mono ?_); rintro e w2 ⟨rfl, b2⟩; (have B2 := Lib.hid (HB.out.nx b2)); (have HC2 := Lib.hid (keep6 b2 rfl HCE.out)); clear b2 k0 k1 k2 k3 k4 l0 l2 HCE; (obtain ⟨k0, k1, k2, k3, k4, -⟩ := HC2.out); (have l0 := block_lt_of_cell k0); (have l2 := block_lt_of_cell k2))
  cases q1 with
  | true =>
    go_wp2_with fail
    exact ⟨rfl, _, results_tmp (t := 8) rfl _ _ _, by rw [HQ.out]; rfl, B2.out⟩
  | false =>
    cases q2 with
    | false =>
      go_wp2_with (go_at_call 35; (with_reducible refine (HMA.out _ B2.out).mono ?_); rintro e w3 ⟨rfl, b3⟩)
      exact ⟨rfl, _, results_tmp (t := 8) rfl _ _ _, by rw [HQ.out]; rfl, B2.out.nx b3⟩
    | true =>
      go_wp2_with (first
        | (go_at_call 35; (with_reducible refine (HMA.out _ B2.out).mono ?_); rintro e w3 ⟨rfl, b3⟩; (have B3 := Lib.hid (B2.out.nx b3)); (have HC3 := Lib.hid (keep6 b3 rfl HC2.out)); clear b3 k0 k1 k2 k3 k4 l0 l2 HC2; (obtain ⟨k0, k1, k2, k3, k4, -⟩ := HC3.out); (have l0 := block_lt_of_cell k0); (have l2 := block_lt_of_cell k2))
        | (go_at_call 43; (with_reducible refine (HV.out _ B3.out).mono ?_); rintro e w4 ⟨rfl, b4⟩))
      exact ⟨rfl, _, results_tmp (t := 8) rfl _ _ _, by rw [HQ.out]; rfl, B3.out.nx b4⟩
end Go.Proofs.YthikfifoomfjgaaGreat
namespace Go.Proofs.YthikfifoomfjgaaGreat
open Go.RowKit Go.Tr Go.WideMaps Go.Maps Go.Proofs.YthikfifoomfjgaaGreat.PA Go.Proofs.YthikfifoomfjgaaGreatW.PrintWords Go.Proofs.YthikfifoomfjgaaGreatW.PrintLast Go.Proofs.YthikfifoomfjgaaGreatW.PrintMore
set_option maxRecDepth 100000
set_option linter.unusedVariables false
set_option linter.unusedSimpArgs false
theorem len64_0 (w : World) : Calls Tryz.prog 130 #[.int .u64 0] w fun e w' => e = .returned (.int .i64 0) ∧ w = w' := by
  go_enter Tryz.func130, Tryz.ntmps130
  go_wp2
  exact ⟨rfl, _, results_tmp (t := 2) rfl _ _ _, (by kernel_rfl), rfl⟩
theorem len_0 (w : World) : Calls Tryz.prog 98 #[.int .u64 0] w fun e w' => e = .returned (.int .i64 0) ∧ w = w' := by
  go_enter Tryz.func98, Tryz.ntmps98
  go_wp2_with (go_at_call 130; (with_reducible refine (len64_0 _).mono ?_); rintro e w' ⟨rfl, rfl⟩)
  exact ⟨rfl, _, results_tmp (t := 2) rfl _ _ _, rfl, rfl⟩
theorem insertion_0 (g : Value) (w : World) : Calls Tryz.prog 121 #[.slice none 0 0, .int .i64 0, .int .i64 0, g] w fun e w' => e = .returned (.tuple #[]) ∧ w = w' := by
  go_enter Tryz.func121, Tryz.ntmps121
  go_wp2
  go_loopw [8] (fun i wr => i = .int .i64 1 ∧ w = wr) (fun _ _ => 0)
  case atStart => exact ⟨rfl, rfl⟩
  case round =>
    obtain ⟨rfl, rfl⟩ := hrel
    go_wp2
    go_end0
    exact ⟨rfl, rfl⟩
theorem pdq_0 (g : Value) (l : Value) (w : World) : Calls Tryz.prog 97 #[.slice none 0 0, .int .i64 0, .int .i64 0, l, g] w fun e w' => e = .returned (.tuple #[]) ∧ w = w' := by
  go_enter Tryz.func97, Tryz.ntmps97
  go_wp2
  go_loopw [1, 2] (fun a b wr => a = .int .i64 0 ∧ b = .int .i64 0 ∧ w = wr) (fun _ _ _ => 0)
  case atStart => exact ⟨rfl, rfl, rfl⟩
  case round =>
    obtain ⟨rfl, rfl, rfl⟩ := hrel
    go_wp2_with (go_at_call 121; (with_reducible refine (insertion_0 _ _).mono ?_); rintro e w' ⟨rfl, rfl⟩)
    first
      | exact ⟨rfl, _, results_none rfl _ _ _, rfl, rfl⟩
      | exact ⟨rfl, _, results_none _ _ _ rfl, rfl, rfl⟩
      | exact ⟨rfl, _, results_none _ _ _ _, rfl, rfl⟩
theorem sort_0 (g : Value) (w : World) : Calls Tryz.prog 57 #[.slice none 0 0, g] w fun e w' => e = .returned (.tuple #[]) ∧ w = w' := by
  go_enter Tryz.func57, Tryz.ntmps57
  go_wp2_with (first
    | (go_at_call 98; (with_reducible refine (len_0 _).mono ?_); rintro e w' ⟨rfl, rfl⟩)
    | (go_at_call 97; (with_reducible refine (pdq_0 _ _ _).mono ?_); rintro e w' ⟨rfl, rfl⟩))
  go_end0
  exact ⟨rfl, rfl⟩
/-- A slot that goes without saying: one number, or text, that is none. -/
def Gone (f : S47) (x : Slot) : Prop := f.f4 = false ∧ f.f5 = -1 ∧ f.f6 = 0 ∧ f.f2 ≠ 9 ∧ ∃ v, x.v = [v] ∧ v.n = 0 ∧ v.s.size = 0
set_option maxHeartbeats 2000000 in
theorem absent_yes (L n : Nat) (w : World) (f : S47) (cs : List Value) (x : Slot) (hg : Gone f x) (hx : RSlot L 0 w (RMsg L 0 w n) cs x) :
    Calls Tryz.prog 55 #[.agg #[.int .i64 f.f0, .string f.f1, .int .i64 f.f2, .int .i64 f.f3, .bool f.f4, .int .i64 f.f5, .int .i64 f.f6], .agg cs.toArray] w fun e w' => e = .returned (.bool true) ∧ Below w.heap.size w w' := by
  obtain ⟨h4, h5, h6, h2, v, hv, hvn, hvs⟩ := hg
  obtain ⟨c, d, rfl, -, -, hk, hr⟩ := hx
  have hl : x.v.length = 1 := by rw [hv]; rfl
  obtain ⟨a1, cap1, rfl, -⟩ := hk
  have HR := Lib.hid hr
  obtain ⟨a2, cap2, rfl, -⟩ := hr
  obtain ⟨b, o, c0, c1, c2, e, -, m0, m1, m2, -, -, -, rv⟩ := HR.out.get3 (R := fun w => RVal L 0 w (RMsg L 0 w n)) (rval_three L 0 n) 0 (by omega)
  cases e
  have hv0 : x.v[0] = v := by simp [hv]
  rw [hv0] at rv
  obtain ⟨c, e, -⟩ := rv
  injection e with e1 e
  injection e with e2 e
  subst e1 e2
  rw [hvn] at m0
  rw [size_empty hvs] at m1
  rw [Nat.zero_mul, Nat.add_zero] at m0 m1
  have d2 : ((f.f2 : Int) != 9) = true := by simpa using h2
  have hb := al2 w (.cells #[.int .i64 f.f0, .string f.f1, .int .i64 f.f2, .int .i64 f.f3, .bool false, .int .i64 (-1), .int .i64 0] 47) (.cells #[.int .i64 x.no, .slice a1 x.k.length cap1, .slice (some ⟨b, o, none⟩) 1 cap2] 35)
  have k0 := (hb.cell (block_lt_of_cell m0)).trans m0
  have k1 := (hb.cell (block_lt_of_cell m1)).trans m1
  have bl := block_lt_of_cell k0
  rw [h4, h5, h6, hl]
  clear HR hv hvn hvs hv0 h2 m0 m1 m2 hl
  go_enter Tryz.func55, Tryz.ntmps55
  go_wp2
  exact ⟨rfl, _, results_tmp (t := 4) rfl _ _ _, rfl, hb⟩
theorem lt_blk10 {w : World} {b : Nat} {o : Obj} (h : w.heap[b]? = some o) : b < w.heap.size := (Array.getElem?_eq_some_iff.1 h).1
theorem four10 (w : World) (o0 o1 o2 o3 : Obj) : ((((w.alloc o0).alloc o1).alloc o2).alloc o3).heap[w.heap.size]? = some o0 ∧ ((((w.alloc o0).alloc o1).alloc o2).alloc o3).heap[w.heap.size + 1]? = some o1 ∧
    ((((w.alloc o0).alloc o1).alloc o2).alloc o3).heap[w.heap.size + 1 + 1]? = some o2 ∧ ((((w.alloc o0).alloc o1).alloc o2).alloc o3).heap[w.heap.size + 1 + 1 + 1]? = some o3 := by
  have e1 : (w.alloc o0).heap.size = w.heap.size + 1 := by simp
  have e2 : ((w.alloc o0).alloc o1).heap.size = w.heap.size + 1 + 1 := by simp
  have e3 : (((w.alloc o0).alloc o1).alloc o2).heap.size = w.heap.size + 1 + 1 + 1 := by simp
  have h0 := heap_alloc_new w o0
  have h1 := heap_alloc_new (w.alloc o0) o1
  have h2 := heap_alloc_new ((w.alloc o0).alloc o1) o2
  have h3 := heap_alloc_new (((w.alloc o0).alloc o1).alloc o2) o3
  rw [e1] at h1
  rw [e2] at h2
  rw [e3] at h3
  have k1 := (al1 (w.alloc o0) o1).block w.heap.size (by omega)
  have k2 := fun b (hb : b < w.heap.size + 1 + 1) => (al1 ((w.alloc o0).alloc o1) o2).block b (by omega)
  have k3 := fun b (hb : b < w.heap.size + 1 + 1 + 1) => (al1 (((w.alloc o0).alloc o1).alloc o2) o3).block b (by omega)
  exact ⟨(k3 _ (by omega)).trans ((k2 _ (by omega)).trans (k1.trans h0)), (k3 _ (by omega)).trans ((k2 _ (by omega)).trans h1), (k3 _ (by omega)).trans h2, h3⟩
section
attribute [local go_sem] run_store
set_option maxHeartbeats 4000000 in
/-- normal, where every slot goes without saying. -/
theorem normal_gone (S : Sch) (n L : Nat) (w : World) (hS : S.At w) (m : Int) (cs : List Value) (x : Msg) (hg : ∀ y ∈ x.f, ∃ f, S.fl m y.no = some f ∧ Gone f y) (hx : RMsg L 0 w (n + 1) cs x) :
    Calls Tryz.prog 29 #[.agg S.cells, .int .i64 m, .agg cs.toArray] w fun e w' => e = .returned (.agg #[.slice none 0 0]) ∧ Below w.heap.size w w' := by
  obtain ⟨c, rfl, h4⟩ := hx
  have H4 := Lib.hid h4
  obtain ⟨a1, cap1, rfl, q0, q1, q2, -, -⟩ := h4
  unfold maxLen at q2
  have HBY := Lib.hid (fun w' (hb : Below w.heap.size w w') no => S.by_ w' (hS.below hb) m no)
  have HG := Lib.hid hg
  clear hS hg
  unfold Sch.cells at *
  go_enter Tryz.func29, Tryz.ntmps29
  go_wp2_with fail
  obtain ⟨g0, g1, g2, g3⟩ := four10 w (.cells #[.slice S.A0 S.M.length S.c0, .slice S.A1 S.E.length S.c1] 62) (.cells #[.slice a1 x.f.length cap1] 28) (.cells #[.slice none 0 0] 28) (.cells #[.slice none 0 0] 28)
  have G0 := Lib.hid g0
  have G2 := Lib.hid g2
  have G3 := Lib.hid g3
  have HB0 := Lib.hid (((al2 w (.cells #[.slice S.A0 S.M.length S.c0, .slice S.A1 S.E.length S.c1] 62) (.cells #[.slice a1 x.f.length cap1] 28)).nx (al1 _ (.cells #[.slice none 0 0] 28))).nx (al1 _ (.cells #[.slice none 0 0] 28)))
  clear g0 g1 g2 g3
  generalize (((w.alloc (.cells #[.slice S.A0 S.M.length S.c0, .slice S.A1 S.E.length S.c1] 62)).alloc (.cells #[.slice a1 x.f.length cap1] 28)).alloc (.cells #[.slice none 0 0] 28)).alloc (.cells #[.slice none 0 0] 28) = w1 at *
  go_loopw [17] (fun iv wr => ∃ k : Nat, k ≤ x.f.length ∧ iv = .int .i64 k ∧ Hid (Below w1.heap.size w1 wr)) (fun iv _ => x.f.length - (intOf iv).toNat)
  case atStart => exact ⟨0, by omega, rfl, Below.refl _ _⟩
  case round =>
    obtain ⟨k, hk, rfl, HB⟩ := hrel
    obtain ⟨wA, rfl⟩ : ∃ wA, wA = wr := ⟨_, rfl⟩
    have K0 := Lib.hid ((HB.out.block _ (lt_blk10 G0.out)).trans G0.out)
    have K2 := Lib.hid ((HB.out.block _ (lt_blk10 G2.out)).trans G2.out)
    have K3 := Lib.hid ((HB.out.block _ (lt_blk10 G3.out)).trans G3.out)
    have e0 : wA.cell? ⟨w.heap.size, 0, none⟩ = some (.slice S.A0 S.M.length S.c0) := cell_of_row wA w.heap.size 0 _ _ (0, 0) K0.out
    have e1 : wA.cell? ⟨w.heap.size, 1, none⟩ = some (.slice S.A1 S.E.length S.c1) := cell_of_row wA w.heap.size 1 _ _ (0, 0) K0.out
    have le := lt_blk10 K0.out
    by_cases hlt : k < x.f.length
    · have HW := Lib.hid (HB0.out.nx HB.out)
      obtain ⟨bx, ox, c0, c1, c2, e2, -, m0, m1, m2, z0, z1, z2, rx⟩ := (H4.out.imp (R' := RSlot L 0 wA (RMsg L 0 wA n)) HW.out fun _ _ _ h => h.below HW.out).get3 (rslot_three L 0 n) k hlt
      cases e2
      have RX := Lib.hid rx
      obtain ⟨d1, d2, e, hno1, hno2, r3, r4⟩ := rx
      cases e
      obtain ⟨a3, cap3, rfl, -⟩ := r3
      obtain ⟨a4, cap4, rfl, -⟩ := r4
      have bl := block_lt_of_cell m0
      obtain ⟨f, hfl, hgf⟩ := HG.out _ (List.getElem_mem hlt)
      generalize x.f[k] = y at *
      have A9 := Lib.hid (al1 wA (.cells #[.int .i64 y.no, .slice a3 y.k.length cap3, .slice a4 y.v.length cap4] 35))
      have hc := HBY.out _ (HW.out.nx A9.out) y.no
      rw [hfl] at hc
      have HC := Lib.hid hc
      have HGF := Lib.hid hgf
      clear hc hfl hgf
      go_wp2_with fail
      refine HC.out.mono ?_; rintro e wB ⟨⟨r, hr, rfl⟩, bB⟩
      have hr' : r = (f.f0, f.f1, f.f2, f.f3, f.f4, f.f5, f.f6, true) := hr
      subst hr'
      dsimp only
      have P9 := Lib.hid ((Box3.new wA (.int .i64 y.no) (.slice a3 y.k.length cap3) (.slice a4 y.v.length cap4) 35).below bB)
      have AC := Lib.hid (al1 wB (.cells #[.int .i64 f.f0, .string f.f1, .int .i64 f.f2, .int .i64 f.f3, .bool f.f4, .int .i64 f.f5, .int .i64 f.f6] 47))
      have HBB := Lib.hid (A9.out.nx bB)
      have HAB := Lib.hid (absent_yes L n _ f _ y HGF.out ((RX.out.below HBB.out).below AC.out))
      obtain ⟨l9, p0, p1, p2⟩ := P9.out
      clear hr bB e0 e1 le m0 m1 m2 bl
      go_wp2_with (first
        | (with_reducible refine wpList_store_new rfl (.tmp 10) (.tmp 28) rfl rfl rfl (by kernel_rfl) (by simp) (by simp [Value.oneCell']) ?_)
        | (go_at_call 55; (with_reducible refine HAB.out.mono ?_); rintro e wD ⟨rfl, bD⟩))
      refine ⟨⟨k + 1, by omega, rfl, Lib.hid (HB.out.nx (HBB.out.nx (AC.out.nx bD)))⟩, ?_⟩
      simp only [intOf, Int.toNat_natCast]
      omega
    · obtain rfl : k = x.f.length := by omega
      have m3 : wA.cell? ⟨w.heap.size + 1 + 1 + 1, 0, none⟩ = some (.slice none 0 0) := cell_of_row wA (w.heap.size + 1 + 1 + 1) 0 _ _ (0, 0) K3.out
      have m2 : wA.cell? ⟨w.heap.size + 1 + 1, 0, none⟩ = some (.slice none 0 0) := cell_of_row wA (w.heap.size + 1 + 1) 0 _ _ (0, 0) K2.out
      have f2 : wA.frozen? ⟨w.heap.size + 1 + 1, 0, none⟩ = false := by simp [World.frozen?, K2.out]
      have l2 := lt_blk10 K2.out
      have l3 := lt_blk10 K3.out
      go_wp2_with (go_at_call 57; (with_reducible refine (sort_0 _ _).mono ?_); rintro e w' ⟨rfl, rfl⟩)
      exact bodyPost_ret (v := .agg #[.slice none 0 0]) (results_cell_mid rfl _ _ (w.heap.size + 1 + 1) 0 [_] _ rfl (World.rangeAt_setCells_same wA (w.heap.size + 1 + 1) 0 [_] fun j hj => ⟨by match j, hj with
        | 0, _ => rw [m2]; rfl, by match j, hj with
        | 0, _ => exact f2⟩) Tryz.underlying28 rfl (by kernel_rfl)) rfl ⟨rfl, (HB0.out.nx HB.out).setCell (by simp; omega) _⟩
end
end Go.Proofs.YthikfifoomfjgaaGreat
namespace Go.Tr
theorem rowNil {α : Type} (L B : Nat) (w : World) (k : Nat) (R : List Value → α → Prop) : RowOf L B w k R (.slice none 0 0) ([] : List α) := ⟨none, 0, rfl, by simp, by simp, by simp, by simp, by simp⟩
end Go.Tr
namespace Go.Proofs.YthikfifoomfjgaaGreat
open Go.RowKit Go.Tr Go.WideMaps Go.Maps Go.Proofs.YthikfifoomfjgaaGreat.PA Go.Proofs.YthikfifoomfjgaaGreatW.PrintWords Go.Proofs.YthikfifoomfjgaaGreatW.PrintLast Go.Proofs.YthikfifoomfjgaaGreatW.PrintMore
set_option maxRecDepth 100000
set_option linter.unusedVariables false
set_option linter.unusedSimpArgs false
theorem results_cell_tmp_mid {P : Program} {fn : Func} {p u : Tmp} {ty : TypeId} (h : fn.results = #[.cell p ty, .tmp u]) (tmps : Array Value) (w : World) (b o : Nat) (cs : List Value) (d : TypeDesc)
    (hp : tmps.getD p undef = .pointer (some ⟨b, o, none⟩)) (hc : w.rangeAt b o cs)
    (hu : P.underlying ty = some d) (hd : d.isRow = true) (hi : (P.info? ty).map (·.size) = some cs.length) : (results fn tmps).run P w = .ok (.tuple #[.agg cs.toArray, tmps.getD u undef]) w := by
  have hp' : tmps[p]?.getD undef = .pointer (some ⟨b, o, none⟩) := by simpa using hp
  simp [results, h, hp', asAddr, run_loadVar_mid w b o ty cs d hc hu hd hi]
theorem keep3w {w w' : World} {p0 p1 p2 : Addr} {v0 v1 v2 : Value} {K : Nat} (b : Below K w w') (hK : K = w.heap.size) (h : w.cell? p0 = some v0 ∧ w.cell? p1 = some v1 ∧ w.cell? p2 = some v2) : w'.cell? p0 = some v0 ∧ w'.cell? p1 = some v1 ∧ w'.cell? p2 = some v2 := by
  subst hK
  exact ⟨(b.cell (block_lt_of_cell h.1)).trans h.1, (b.cell (block_lt_of_cell h.2.1)).trans h.2.1, (b.cell (block_lt_of_cell h.2.2)).trans h.2.2⟩
theorem keep4w {w w' : World} {p0 p1 p2 p3 : Addr} {v0 v1 v2 v3 : Value} {K : Nat} (b : Below K w w') (hK : K = w.heap.size) (h : w.cell? p0 = some v0 ∧ w.cell? p1 = some v1 ∧ w.cell? p2 = some v2 ∧ w.cell? p3 = some v3) : w'.cell? p0 = some v0 ∧ w'.cell? p1 = some v1 ∧ w'.cell? p2 = some v2 ∧ w'.cell? p3 = some v3 :=
  ⟨(keep3w b hK ⟨h.1, h.2.1, h.2.2.1⟩).1, keep3w b hK h.2⟩
theorem keep3set {w : World} {A K : Nat} {v0 v1 v2 v : Value} (hK : A + 1 < K) (h : w.cell? ⟨A, 0, none⟩ = some v0 ∧ w.cell? ⟨A, 1, none⟩ = some v1 ∧ w.cell? ⟨A + 1, 0, none⟩ = some v2) : (w.setCell ⟨K, 0, none⟩ v).cell? ⟨A, 0, none⟩ = some v0 ∧ (w.setCell ⟨K, 0, none⟩ v).cell? ⟨A, 1, none⟩ = some v1 ∧ (w.setCell ⟨K, 0, none⟩ v).cell? ⟨A + 1, 0, none⟩ = some v2 :=
  ⟨(World.cell?_setCell_other _ _ _ _ (fun e => by injection e with e1; omega)).trans h.1, (World.cell?_setCell_other _ _ _ _ (fun e => by injection e with e1; omega)).trans h.2.1, (World.cell?_setCell_other _ _ _ _ (fun e => by injection e with e1; omega)).trans h.2.2⟩
section
attribute [local go_sem] run_store
set_option maxHeartbeats 4000000 in
theorem typed_normal_gone (S : Sch) (hF : S.Ok) (hok : okSchema S.M S.E = true) (n : Nat) (w : World) (hS : S.At w) (m : Int) (cs : List Value) (x : Msg) (hmay : mayOk S (n + 1) m x = true) (hg : ∀ y ∈ x.f, ∃ f, S.fl m y.no = some f ∧ Gone f y) (hx : RMsg 10000 0 w (n + 1) cs x) :
    Calls Tryz.prog 11 #[.agg S.cells, .int .i64 m, .agg cs.toArray] w fun e w' => e = .returned (.tuple #[.agg #[.slice none 0 0], .bool true]) ∧ Below w.heap.size w w' := by
  obtain ⟨c, rfl, o1⟩ := rmsg_one 10000 0 (n + 1) w cs x hx
  have HMA := Lib.hid (hmay ▸ fun w' (hb : Below w.heap.size w w') => typed_may S hF hok 10000 (n + 1) (by omega) w' (hS.below hb) m [c] x (RMsg.below hb (n + 1) hx))
  have HMA2 : Hid (∀ w', Below w.heap.size w w' → Calls Tryz.prog 16 #[.agg S.cells, .int .i64 m, .agg #[c]] w' fun e w2 => e = .returned (.bool true) ∧ Below w'.heap.size w' w2) := Lib.hid fun w' hb => by
    have h := typed_may S hF hok 10000 (n + 1) (by omega) w' (hS.below hb) m [c] x (RMsg.below hb (n + 1) hx)
    rw [hmay] at h; exact h
  have HOW := Lib.hid fun w' (hb : Below w.heap.size w w') => value_own 10000 0 (by omega) (n + 1) w' [c] x (RMsg.below hb (n + 1) hx)
  have HNO := Lib.hid fun w' cs' (hb : Below w.heap.size w w') (h : RMsg 10000 0 w' (n + 1) cs' x) => normal_gone S n 10000 w' (hS.below hb) m cs' x hg h
  clear HMA hS hg hx hmay
  unfold Sch.cells at *
  have HB := Lib.hid ((al2 w (.cells #[.slice S.A0 S.M.length S.c0, .slice S.A1 S.E.length S.c1] 25) (.cells #[c] 28)).nx (al1 _ (.cells #[.slice none 0 0] 28)))
  go_enter Tryz.func11, Tryz.ntmps11
  go_upto_region 1 with fail
  have cells : ∀ W : World, W = ((w.alloc (.cells #[.slice S.A0 S.M.length S.c0, .slice S.A1 S.E.length S.c1] 25)).alloc (.cells #[c] 28)).alloc (.cells #[.slice none 0 0] 28) →
      W.heap[w.heap.size]? = some (.cells #[.slice S.A0 S.M.length S.c0, .slice S.A1 S.E.length S.c1] 25 (0, 0)) ∧ W.heap[w.heap.size + 1]? = some (.cells #[c] 28 (0, 0)) ∧ W.heap[w.heap.size + 1 + 1]? = some (.cells #[.slice none 0 0] 28 (0, 0)) := by
    rintro W rfl
    obtain ⟨h0, h1, h2, -⟩ := four10 w (.cells #[.slice S.A0 S.M.length S.c0, .slice S.A1 S.E.length S.c1] 25) (.cells #[c] 28) (.cells #[.slice none 0 0] 28) (.cells #[] 28)
    have k := al1 (((w.alloc (.cells #[.slice S.A0 S.M.length S.c0, .slice S.A1 S.E.length S.c1] 25)).alloc (.cells #[c] 28)).alloc (.cells #[.slice none 0 0] 28)) (.cells #[] 28)
    exact ⟨(k.block _ (by simp; omega)).symm.trans h0, (k.block _ (by simp)).symm.trans h1, (k.block _ (by simp)).symm.trans h2⟩
  have HCE := Lib.hid (cells _ rfl)
  clear cells
  generalize ((w.alloc (.cells #[.slice S.A0 S.M.length S.c0, .slice S.A1 S.E.length S.c1] 25)).alloc (.cells #[c] 28)).alloc (.cells #[.slice none 0 0] 28) = w1 at *
  obtain ⟨g0, g1, g2⟩ := HCE.out
  have e0 : w1.cell? ⟨w.heap.size, 0, none⟩ = some (.slice S.A0 S.M.length S.c0) := cell_of_row w1 w.heap.size 0 _ _ (0, 0) g0
  have e1 : w1.cell? ⟨w.heap.size, 1, none⟩ = some (.slice S.A1 S.E.length S.c1) := cell_of_row w1 w.heap.size 1 _ _ (0, 0) g0
  have e2 : w1.cell? ⟨w.heap.size + 1, 0, none⟩ = some c := cell_of_row w1 (w.heap.size + 1) 0 #[c] _ (0, 0) g1
  have l0 := lt_blk10 g0
  have l1 := lt_blk10 g1
  clear g0 g1 g2
  go_upto_region 3 with (go_at_call 16; (with_reducible refine (HMA2.out _ HB.out).mono ?_); rintro e w2 ⟨rfl, b2⟩; (have B2 := Lib.hid b2); clear b2)
  have HB2 := Lib.hid (HB.out.nx B2.out)
  obtain ⟨g0, g1, g2⟩ := HCE.out
  have K0 := Lib.hid ((B2.out.block _ (lt_blk10 g0)).trans g0)
  have K1 := Lib.hid ((B2.out.block _ (lt_blk10 g1)).trans g1)
  have K2 := Lib.hid ((B2.out.block _ (lt_blk10 g2)).trans g2)
  clear e0 e1 e2 l0 l1 g0 g1 g2 HCE HB
  have e0 : w2.cell? ⟨w.heap.size, 0, none⟩ = some (.slice S.A0 S.M.length S.c0) := cell_of_row w2 w.heap.size 0 _ _ (0, 0) K0.out
  have e1 : w2.cell? ⟨w.heap.size, 1, none⟩ = some (.slice S.A1 S.E.length S.c1) := cell_of_row w2 w.heap.size 1 _ _ (0, 0) K0.out
  have e2 : w2.cell? ⟨w.heap.size + 1, 0, none⟩ = some c := cell_of_row w2 (w.heap.size + 1) 0 #[c] _ (0, 0) K1.out
  have l0 := lt_blk10 K0.out
  have l1 := lt_blk10 K1.out
  have hs0 : w2.cell? ⟨w.heap.size, 0, none⟩ = some (.slice S.A0 S.M.length S.c0) ∧ w2.cell? ⟨w.heap.size, 1, none⟩ = some (.slice S.A1 S.E.length S.c1) ∧ w2.cell? ⟨w.heap.size + 1, 0, none⟩ = some c := ⟨e0, e1, e2⟩
  have hk := hs0
  go_region_held3 (fun w' => w'.cell? ⟨w.heap.size, 0, none⟩ = some (.slice S.A0 S.M.length S.c0) ∧ w'.cell? ⟨w.heap.size, 1, none⟩ = some (.slice S.A1 S.E.length S.c1) ∧ w'.cell? ⟨w.heap.size + 1, 0, none⟩ = some c)
    (first | exact hk | ((with_reducible refine keep3set ?_ hk); omega) | (go_keep; done))
    (first
      | (go_at_call 30; (with_reducible refine (HOW.out _ ?_).mono ?_); (exact HB2.out.drew); rintro e y1 ⟨ds, rfl, r1, g1⟩; (obtain ⟨v1, rfl, -⟩ := rmsg_one 10000 _ (n + 1) _ ds x r1); (have R1 := Lib.hid (RMsg.keep (Nat.zero_le _) (Keeps.refl _ _) _ _ (Nat.le_refl _) r1)); (have D1 := Lib.hid ((Below.refl w2.heap.size w2).drew.nx g1)); clear hk; (have hk := keep3w D1.out rfl hs0); clear g1 r1)
      | (go_at_call 29; (with_reducible refine (HNO.out _ _ ?_ R1.out).mono ?_); (exact HB2.out.nx D1.out); rintro e y2 ⟨rfl, g2⟩; (have D2 := Lib.hid (D1.out.nx g2)); clear hk; (have hk := keep3w D2.out rfl hs0); (have kh := (D2.out.block _ (lt_blk10 K2.out)).trans K2.out); (have kc : y2.cell? ⟨w.heap.size + 1 + 1, 0, none⟩ = some (.slice none 0 0) := cell_of_row y2 (w.heap.size + 1 + 1) 0 _ _ (0, 0) kh); (have kf : y2.frozen? ⟨w.heap.size + 1 + 1, 0, none⟩ = false := (by simp [World.frozen?, kh])); (have kl := lt_blk10 kh); (have KH := Lib.hid kh); clear g2 kh))
  all_goals (
    go_wp2_with fail
    exact bodyPost_ret (results_cell_tmp_mid rfl _ _ (w.heap.size + 1 + 1) 0 [.slice none 0 0] _ rfl (World.rangeAt_setCells_same y2 (w.heap.size + 1 + 1) 0 [.slice none 0 0] fun j hj => ⟨by match j, hj with
      | 0, _ => rw [kc]; rfl, by match j, hj with
      | 0, _ => exact kf⟩) Tryz.underlying28 rfl (by kernel_rfl)) rfl ⟨rfl, (HB2.out.nx D2.out).setCell (by simp; omega) _⟩)
theorem nil_msg (L n : Nat) (w : World) : RMsg L 0 w (n + 1) [.slice none 0 0] (.mk []) := ⟨_, rfl, rowNil _ _ _ _ _⟩
set_option maxHeartbeats 4000000 in
theorem typed_is_gone (S : Sch) (hF : S.Ok) (hok : okSchema S.M S.E = true) (n : Nat) (w : World) (hS : S.At w) (m : Int) (cs : List Value) (x : Msg) (hmay : mayOk S (n + 1) m x = true) (hg : ∀ y ∈ x.f, ∃ f, S.fl m y.no = some f ∧ Gone f y) (hx : RMsg 10000 0 w (n + 1) cs x) :
    Calls Tryz.prog 18 #[.agg S.cells, .int .i64 m, .agg cs.toArray] w fun e w' => e = .returned (.bool (same (.mk []) x)) ∧ Below w.heap.size w w' := by
  obtain ⟨c, rfl, o1⟩ := rmsg_one 10000 0 (n + 1) w cs x hx
  have HNO := Lib.hid fun w' (hb : Below w.heap.size w w') => typed_normal_gone S hF hok n w' (hS.below hb) m [c] x hmay hg (RMsg.below hb (n + 1) hx)
  have HSA := Lib.hid fun w' (hb : Below w.heap.size w w') => value_same 10000 0 (by unfold maxLen; omega) (n + 1) w' [.slice none 0 0] [c] (.mk []) x (nil_msg _ _ _) (RMsg.below hb (n + 1) hx)
  clear hS hg hx hmay
  unfold Sch.cells at *
  have HB := Lib.hid (al2 w (.cells #[.slice S.A0 S.M.length S.c0, .slice S.A1 S.E.length S.c1] 25) (.cells #[c] 28))
  go_enter Tryz.func18, Tryz.ntmps18
  go_wp2_with fail
  refine (HNO.out _ HB.out).mono ?_; rintro e w1 ⟨rfl, b1⟩
  have k5 : w1.cell? ⟨w.heap.size + 1, 0, none⟩ = some c := (b1.cell (p := ⟨w.heap.size + 1, 0, none⟩) (by simp)).trans (by simp [go_sem])
  have l5 := block_lt_of_cell k5
  have HB1 := Lib.hid (HB.out.nx b1)
  have A7 := Lib.hid (al1 w1 (.cells #[.slice none 0 0] 28))
  clear b1
  go_wp2_with (go_at_call 40; (with_reducible refine (HSA.out _ (HB1.out.nx A7.out)).mono ?_); rintro e w2 ⟨rfl, b2⟩)
  exact ⟨rfl, _, results_tmp (t := 6) rfl _ _ _, rfl, HB1.out.nx (A7.out.nx b2)⟩
def f10 : S47 := ⟨1, ⟨#[97]⟩, 0, 0, false, -1, 0⟩
def m10 : S58 := ⟨⟨#[65]⟩, [f10]⟩
def S10 (b : Nat) : Sch := ⟨[m10], [], some ⟨b, 0, none⟩, none, 1, 0⟩
def x10 : Msg := .mk [⟨1, [], [⟨0, ⟨#[]⟩, []⟩]⟩]
theorem s10_at (w : World) (b b' : Nat) (h0 : w.heap[b']? = some (.cells #[.int .i64 1, .string ⟨#[97]⟩, .int .i64 0, .int .i64 0, .bool false, .int .i64 (-1), .int .i64 0] 47 (0, 0))) (h1 : w.heap[b]? = some (.cells #[.string ⟨#[65]⟩, .slice (some ⟨b', 0, none⟩) 1 1] 58 (0, 0))) : (S10 b).At w := by
  have hf : Kd.C k47 w (some ⟨b', 0, none⟩) 1 [f10] := ⟨rfl, by decide, fun _ => ⟨_, rfl, fun j p hp => by
    have hj : j = 0 := by have := (List.getElem?_eq_some_iff.1 hp).1; simp at this; omega
    subst hj
    simp only [List.getElem?_cons_zero, Option.some.injEq] at hp
    subst hp
    refine ⟨_, rfl, k47_mk w f10, fun i u hu => ?_⟩
    rw [Nat.zero_mul, Nat.zero_add, add_none, Nat.zero_add, cell_of_row w b' i _ _ (0, 0) h0]
    simpa [f10] using hu⟩⟩
  refine ⟨⟨rfl, (by decide : (1 : Nat) ≤ 9223372036854775807), fun _ => ⟨_, rfl, fun j p hp => ?_⟩⟩, Nat.le_refl 1, ⟨rfl, (by decide : (0 : Nat) ≤ 9223372036854775807), fun h => absurd h (Nat.lt_irrefl 0)⟩, Nat.le_refl 0⟩
  have hj : j = 0 := by have := (List.getElem?_eq_some_iff.1 hp).1; simp [S10] at this; omega
  subst hj
  simp only [S10, List.getElem?_cons_zero, Option.some.injEq] at hp
  subst hp
  refine ⟨_, rfl, k58_mk w m10 (A1 := some ⟨b', 0, none⟩) (c1 := 1) (by decide) hf, fun i u hu => ?_⟩
  rw [Nat.zero_mul, Nat.zero_add, add_none, Nat.zero_add, cell_of_row w b i _ _ (0, 0) h1]
  simpa [m10] using hu
theorem x10_at (w : World) (b b' : Nat) (h0 : w.heap[b']? = some (.cells #[.int .i64 0, .string ⟨#[]⟩, .slice none 0 0] 39 (0, 0))) (h1 : w.heap[b]? = some (.cells #[.int .i64 1, .slice none 0 0, .slice (some ⟨b', 0, none⟩) 1 1] 35 (0, 0))) : RMsg 10000 0 w 2 [.slice (some ⟨b, 0, none⟩) 1 1] x10 := by
  refine ⟨_, rfl, _, 1, rfl, (by decide : (1 : Nat) ≤ 10000), Nat.le_refl _, (by decide : (1 : Nat) ≤ maxLen), by simp, fun _ => ⟨b, 0, rfl, Nat.zero_le _, fun i hi => ?_⟩⟩
  have hi0 : i = 0 := by simp [x10, Msg.f] at hi; omega
  subst hi0
  refine ⟨[.int .i64 1, .slice none 0 0, .slice (some ⟨b', 0, none⟩) 1 1], rfl, fun j u hu => ?_, ⟨_, _, rfl, (by decide : (-9223372036854775808 : Int) ≤ 1), (by decide : (1 : Int) ≤ 9223372036854775807), rowNil _ _ _ _ _, ⟨_, 1, rfl, (by decide : (1 : Nat) ≤ 10000), Nat.le_refl _, (by decide : (1 : Nat) ≤ maxLen), by simp, fun _ => ⟨b', 0, rfl, Nat.zero_le _, fun i hi => ?_⟩⟩⟩⟩
  · rw [cell_of_row w b (0 + 0 * 3 + j) _ _ (0, 0) h1]
    simpa using hu
  · have hi1 : i < 1 := hi
    have hi0 : i = 0 := by omega
    subst hi0
    refine ⟨[.int .i64 0, .string ⟨#[]⟩, .slice none 0 0], rfl, fun j u hu => ?_, ⟨_, rfl, (by decide : (-9223372036854775808 : Int) ≤ 0), (by decide : (0 : Int) ≤ 9223372036854775807), (by decide : (⟨#[]⟩ : ByteArray).size ≤ 140737488355328), rowNil _ _ _ _ _⟩⟩
    rw [cell_of_row w b' (0 + 0 * 3 + j) _ _ (0, 0) h0]
    simpa using hu
theorem s10_ok (b : Nat) : (S10 b).Ok := by
  intro m hm f hf
  simp only [S10, List.mem_singleton] at hm
  subst hm
  simp only [m10, List.mem_singleton] at hf
  subst hf
  unfold okF I64 f10
  decide
theorem s10_schema (b : Nat) : okSchema (S10 b).M (S10 b).E = true := by unfold S10; kernel_rfl
theorem s10_may (b : Nat) : mayB (S10 b) = true := by unfold S10 mayB; kernel_rfl
theorem x10_deep : x10.deep = 1 := by rw [Msg.deep_eq]; rfl
theorem nil_deep : (Msg.mk []).deep = 1 := by rw [Msg.deep_eq]; rfl
theorem x10_may (b : Nat) : mayOk (S10 b) 2 0 x10 = true := by
  unfold mayOk
  rw [s10_may, show (x10.deep : Int) = 1 by rw [x10_deep]; rfl]
  unfold S10
  kernel_rfl
theorem nil_may (b : Nat) : mayOk (S10 b) 2 0 (.mk []) = true := by
  unfold mayOk
  rw [s10_may, show ((Msg.mk []).deep : Int) = 1 by rw [nil_deep]; rfl]
  unfold S10
  kernel_rfl
theorem x10_gone (b : Nat) : ∀ y ∈ x10.f, ∃ f, (S10 b).fl 0 y.no = some f ∧ Gone f y := by
  intro y hy
  simp only [x10, Msg.f, List.mem_singleton] at hy
  subst hy
  exact ⟨f10, by unfold S10; rfl, rfl, rfl, rfl, by decide, _, rfl, rfl, rfl⟩
theorem nil_gone (b : Nat) : ∀ y ∈ (Msg.mk []).f, ∃ f, (S10 b).fl 0 y.no = some f ∧ Gone f y := fun y hy => by simp [Msg.f] at hy
theorem six10 (w : World) (o0 o1 o2 o3 o4 o5 : Obj) : let W := (((((w.alloc o0).alloc o1).alloc o2).alloc o3).alloc o4).alloc o5
    W.heap[w.heap.size]? = some o0 ∧ W.heap[w.heap.size + 1]? = some o1 ∧ W.heap[w.heap.size + 1 + 1]? = some o2 ∧ W.heap[w.heap.size + 1 + 1 + 1]? = some o3 ∧ W.heap[w.heap.size + 1 + 1 + 1 + 1]? = some o4 ∧ W.heap[w.heap.size + 1 + 1 + 1 + 1 + 1]? = some o5 := by
  intro W
  obtain ⟨h0, h1, h2, h3⟩ := four10 w o0 o1 o2 o3
  have k := al2 ((((w.alloc o0).alloc o1).alloc o2).alloc o3) o4 o5
  have h4 := heap_alloc_new ((((w.alloc o0).alloc o1).alloc o2).alloc o3) o4
  have h5 := heap_alloc_new (((((w.alloc o0).alloc o1).alloc o2).alloc o3).alloc o4) o5
  have k5 := al1 (((((w.alloc o0).alloc o1).alloc o2).alloc o3).alloc o4) o5
  rw [show ((((w.alloc o0).alloc o1).alloc o2).alloc o3).heap.size = w.heap.size + 1 + 1 + 1 + 1 by simp] at h4
  rw [show (((((w.alloc o0).alloc o1).alloc o2).alloc o3).alloc o4).heap.size = w.heap.size + 1 + 1 + 1 + 1 + 1 by simp] at h5
  exact ⟨(k.block _ (lt_blk10 h0)).trans h0, (k.block _ (lt_blk10 h1)).trans h1, (k.block _ (lt_blk10 h2)).trans h2, (k.block _ (lt_blk10 h3)).trans h3, (k5.block _ (lt_blk10 h4)).trans h4, h5⟩
theorem same_nil_x10 : same (.mk []) x10 = false := by
  rw [Bool.eq_false_iff, Ne, same_iff]
  intro e
  have : (Msg.mk []).f.length = x10.f.length := by rw [e]
  simp [x10, Msg.f] at this
set_option maxHeartbeats 4000000 in
theorem awake10 (w : World) : Calls Tryz.prog 9 #[] w fun e w' => e = .returned (.bool true) ∧ Below w.heap.size w w' := by
  have h6 := six10 w (.cells #[.int .i64 1, .string ⟨#[97]⟩, .int .i64 0, .int .i64 0, .bool false, .int .i64 (-1), .int .i64 0] 47) (.cells #[.string ⟨#[65]⟩, .slice (some ⟨w.heap.size, 0, none⟩) 1 1] 58)
    (.cells #[.slice (some ⟨w.heap.size + 1, 0, none⟩) 1 1, .slice none 0 0] 25) (.cells #[.int .i64 0, .string ⟨#[]⟩, .slice none 0 0] 39) (.cells #[.int .i64 1, .slice none 0 0, .slice (some ⟨w.heap.size + 1 + 1 + 1, 0, none⟩) 1 1] 35) (.cells #[.slice (some ⟨w.heap.size + 1 + 1 + 1 + 1, 0, none⟩) 1 1] 28)
  have HB := Lib.hid (((al2 w (.cells #[.int .i64 1, .string ⟨#[97]⟩, .int .i64 0, .int .i64 0, .bool false, .int .i64 (-1), .int .i64 0] 47) (.cells #[.string ⟨#[65]⟩, .slice (some ⟨w.heap.size, 0, none⟩) 1 1] 58)).nx (al2 _ (.cells #[.slice (some ⟨w.heap.size + 1, 0, none⟩) 1 1, .slice none 0 0] 25) (.cells #[.int .i64 0, .string ⟨#[]⟩, .slice none 0 0] 39))).nx (al2 _ (.cells #[.int .i64 1, .slice none 0 0, .slice (some ⟨w.heap.size + 1 + 1 + 1, 0, none⟩) 1 1] 35) (.cells #[.slice (some ⟨w.heap.size + 1 + 1 + 1 + 1, 0, none⟩) 1 1] 28)))
  have H6 := Lib.hid h6
  clear h6
  go_enter Tryz.func9, Tryz.ntmps9
  go_wp2_with fail
  have hall : ∀ W : World, W = (((((w.alloc (.cells #[.int .i64 1, .string ⟨#[97]⟩, .int .i64 0, .int .i64 0, .bool false, .int .i64 (-1), .int .i64 0] 47)).alloc (.cells #[.string ⟨#[65]⟩, .slice (some ⟨w.heap.size, 0, none⟩) 1 1] 58)).alloc
      (.cells #[.slice (some ⟨w.heap.size + 1, 0, none⟩) 1 1, .slice none 0 0] 25)).alloc (.cells #[.int .i64 0, .string ⟨#[]⟩, .slice none 0 0] 39)).alloc (.cells #[.int .i64 1, .slice none 0 0, .slice (some ⟨w.heap.size + 1 + 1 + 1, 0, none⟩) 1 1] 35)).alloc (.cells #[.slice (some ⟨w.heap.size + 1 + 1 + 1 + 1, 0, none⟩) 1 1] 28) →
      (∀ w', Below W.heap.size W w' → Calls Tryz.prog 11 #[.agg #[.slice (some ⟨w.heap.size + 1, 0, none⟩) 1 1, .slice none 0 0], .int .i64 0, .agg #[.slice (some ⟨w.heap.size + 1 + 1 + 1 + 1, 0, none⟩) 1 1]] w' fun e w2 => e = .returned (.tuple #[.agg #[.slice none 0 0], .bool true]) ∧ Below w'.heap.size w' w2) ∧ (∀ w', Below W.heap.size W w' → Calls Tryz.prog 16 #[.agg #[.slice (some ⟨w.heap.size + 1, 0, none⟩) 1 1, .slice none 0 0], .int .i64 0, .agg #[.slice (some ⟨w.heap.size + 1 + 1 + 1 + 1, 0, none⟩) 1 1]] w' fun e w2 => e = .returned (.bool true) ∧ Below w'.heap.size w' w2) ∧ (∀ w', Below W.heap.size W w' → Calls Tryz.prog 18 #[.agg #[.slice (some ⟨w.heap.size + 1, 0, none⟩) 1 1, .slice none 0 0], .int .i64 0, .agg #[.slice (some ⟨w.heap.size + 1 + 1 + 1 + 1, 0, none⟩) 1 1]] w' fun e w2 => e = .returned (.bool false) ∧ Below w'.heap.size w' w2) ∧ (∀ w', Below W.heap.size W w' → Calls Tryz.prog 18 #[.agg #[.slice (some ⟨w.heap.size + 1, 0, none⟩) 1 1, .slice none 0 0], .int .i64 0, .agg #[.slice none 0 0]] w' fun e w2 => e = .returned (.bool true) ∧ Below w'.heap.size w' w2) ∧
      W.cell? ⟨w.heap.size + 1 + 1, 0, none⟩ = some (.slice (some ⟨w.heap.size + 1, 0, none⟩) 1 1) ∧ W.cell? ⟨w.heap.size + 1 + 1, 1, none⟩ = some (.slice none 0 0) ∧ W.cell? ⟨w.heap.size + 1 + 1 + 1 + 1 + 1, 0, none⟩ = some (.slice (some ⟨w.heap.size + 1 + 1 + 1 + 1, 0, none⟩) 1 1) := by
    rintro W rfl
    obtain ⟨h0, h1, h2, h3, h4, h5⟩ := H6.out
    have hS := s10_at _ _ _ h0 h1
    have hX := x10_at _ _ _ h3 h4
    refine ⟨fun w' hb => typed_normal_gone (S10 (w.heap.size + 1)) (s10_ok _) (s10_schema _) 1 w' (hS.below hb) 0 _ x10 (x10_may _) (x10_gone _) (RMsg.below hb 2 hX), fun w' hb => ?_, fun w' hb => ?_, fun w' hb => ?_, cell_of_row _ _ 0 _ _ (0, 0) h2, cell_of_row _ _ 1 _ _ (0, 0) h2, cell_of_row _ _ 0 _ _ (0, 0) h5⟩
    · have h := typed_may (S10 (w.heap.size + 1)) (s10_ok _) (s10_schema _) 10000 2 (by omega) w' (hS.below hb) 0 _ x10 (RMsg.below hb 2 hX)
      rw [x10_may] at h
      exact h
    · have h := typed_is_gone (S10 (w.heap.size + 1)) (s10_ok _) (s10_schema _) 1 w' (hS.below hb) 0 _ x10 (x10_may _) (x10_gone _) (RMsg.below hb 2 hX)
      rw [same_nil_x10] at h
      exact h
    · have h := typed_is_gone (S10 (w.heap.size + 1)) (s10_ok _) (s10_schema _) 1 w' (hS.below hb) 0 _ (.mk []) (nil_may _) (nil_gone _) (nil_msg 10000 1 w')
      rw [show same (Msg.mk []) (Msg.mk []) = true from (same_iff _ _).2 rfl] at h
      exact h
  have HALL := Lib.hid (hall _ rfl)
  clear hall H6
  generalize (((((w.alloc (.cells #[.int .i64 1, .string ⟨#[97]⟩, .int .i64 0, .int .i64 0, .bool false, .int .i64 (-1), .int .i64 0] 47)).alloc (.cells #[.string ⟨#[65]⟩, .slice (some ⟨w.heap.size, 0, none⟩) 1 1] 58)).alloc
      (.cells #[.slice (some ⟨w.heap.size + 1, 0, none⟩) 1 1, .slice none 0 0] 25)).alloc (.cells #[.int .i64 0, .string ⟨#[]⟩, .slice none 0 0] 39)).alloc (.cells #[.int .i64 1, .slice none 0 0, .slice (some ⟨w.heap.size + 1 + 1 + 1, 0, none⟩) 1 1] 35)).alloc (.cells #[.slice (some ⟨w.heap.size + 1 + 1 + 1 + 1, 0, none⟩) 1 1] 28) = W at *
  obtain ⟨hN, hM, hI, hJ, k0, k1, k2⟩ := HALL.out
  have HM := Lib.hid hM
  have HI := Lib.hid hI
  have HJ := Lib.hid hJ
  refine (hN _ (Below.refl _ _)).mono ?_; rintro e w1 ⟨rfl, b1⟩
  have kk := keep3w b1 rfl ⟨k0, k1, k2⟩
  have A3 := Lib.hid (al1 w1 (.cells #[.slice none 0 0] 28))
  have hs0 : (w1.alloc (.cells #[.slice none 0 0] 28)).cell? ⟨w.heap.size + 1 + 1, 0, none⟩ = some (.slice (some ⟨w.heap.size + 1, 0, none⟩) 1 1) ∧ (w1.alloc (.cells #[.slice none 0 0] 28)).cell? ⟨w.heap.size + 1 + 1, 1, none⟩ = some (.slice none 0 0) ∧ (w1.alloc (.cells #[.slice none 0 0] 28)).cell? ⟨w.heap.size + 1 + 1 + 1 + 1 + 1, 0, none⟩ = some (.slice (some ⟨w.heap.size + 1 + 1 + 1 + 1, 0, none⟩) 1 1) ∧ (w1.alloc (.cells #[.slice none 0 0] 28)).cell? ⟨w1.heap.size, 0, none⟩ = some (.slice none 0 0) := by
    have h := keep3w A3.out rfl kk
    exact ⟨h.1, h.2.1, h.2.2, by simp [go_sem]⟩
  have B1 := Lib.hid (b1.nx A3.out)
  have HS0 := Lib.hid hs0
  obtain ⟨q0, q1, q2, q3⟩ := hs0
  have l0 := block_lt_of_cell kk.1
  have l2 := block_lt_of_cell kk.2.2
  obtain ⟨p0, p1, p2⟩ := kk
  clear hN hM hI hJ k0 k1 k2 HALL b1 q0 q1 q2 q3
  go_wp2_with (first
    | (go_at_call 16; (with_reducible refine (HM.out _ B1.out).mono ?_); rintro e w2 ⟨rfl, b2⟩; (have B2 := Lib.hid (B1.out.nx b2)); (have HS2 := Lib.hid (keep4w b2 rfl HS0.out)); clear p0 p1 p2 l0 l2 b2; (obtain ⟨q0, q1, q2, q3⟩ := HS2.out); (have l0 := block_lt_of_cell q0); (have l2 := block_lt_of_cell q2); (have l3 := block_lt_of_cell q3))
    | (go_at_call 18; (with_reducible refine (HI.out _ B2.out).mono ?_); rintro e w3 ⟨rfl, b3⟩; (have B3 := Lib.hid (B2.out.nx b3)); (have HS3 := Lib.hid (keep4w b3 rfl HS2.out)); clear q0 q1 q2 q3 l0 l2 l3 b3; (obtain ⟨q0, q1, q2, q3⟩ := HS3.out); (have l0 := block_lt_of_cell q0); (have l2 := block_lt_of_cell q2); (have l3 := block_lt_of_cell q3))
    | (go_at_call 18; (with_reducible refine (HJ.out _ B3.out).mono ?_); rintro e w4 ⟨rfl, b4⟩))
  exact ⟨rfl, _, results_tmp (t := 0) rfl _ _ _, rfl, HB.out.nx (B3.out.nx b4)⟩
end
end Go.Proofs.YthikfifoomfjgaaGreat
