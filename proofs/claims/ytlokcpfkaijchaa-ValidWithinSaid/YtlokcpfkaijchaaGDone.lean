/- Contract of valid.done: which frame is laid on, and what is wrong. -/
import Derived.Test.YtlokcpfkaijchaaGNum
import Derived.Test.YtlokcpfkaijchaaGUtf
import Derived.Deep.RegionWith
namespace Go.Proofs.Ytlokcpfkaijchaa.PA
open Go.RowKit Go.Proofs.YtlokcpfkaijchaaW.PrintWords Go.Proofs.YtlokcpfkaijchaaW.PrintLast Go.Proofs.YtlokcpfkaijchaaW.PrintMore
set_option linter.unusedVariables false
set_option linter.unusedSimpArgs false
/-- The frame that a record lays on, if any, and what is wrong. -/
def doneN (b : List Int) (wire from_ upto do_ kind ref : Int) (f : S38) (deep : Int) : Option (Option S40 × Int) :=
  if do_ = 1 then (decode_Numbers.f kind b from_ upto).bind fun r => some (none, r.2)
  else if do_ = 2 then
    (if wire = 2 then (if f.f2 = 9 then (if 64 < deep + 1 then some (none, 11) else some (some ⟨true, 0, f, from_, upto, deep + 1⟩, 0)) else some (some ⟨true, 0, f, from_, upto, deep⟩, 0)) else some (none, 8))
  else if do_ = 3 then
    (if wire = wireOf kind then
      (if kind = 7 then (utf_Fine.f b from_ upto).bind fun ok => if ok = true then some (none, 0) else some (none, 10)
      else if kind = 9 then (if 64 ≤ deep then some (none, 11) else some (some ⟨false, ref, z38, from_, upto, deep + 1⟩, 0)) else some (none, 0))
    else some (none, 8))
  else some (none, 0)
/-- What valid.done leaves. -/
def DoneOut (w0 w : World) (P : Nat → Prop) (v : Value) (l : List S40) (o : Option S40) (x : Int) (e : Ending) (w' : World) : Prop :=
  ∃ v', e = .returned (.tuple #[v', .int .i64 x]) ∧ Kd.R k40 40 w' w0.heap.size P v' (l ++ o.toList) ∧ Below w0.heap.size w0 w' ∧ w.grownBy w' v.ownBlock
theorem DoneOut.same {w0 w w' : World} {P : Nat → Prop} {v : Value} {l : List S40} {x : Int} (HB : Below w0.heap.size w0 w) (HV : Kd.R k40 40 w w0.heap.size P v l) (hb : Below w.heap.size w w') : DoneOut w0 w P v l none x (.returned (.tuple #[v, .int .i64 x])) w' :=
  ⟨v, rfl, by simpa using Kd.R_below HV hb, HB.nx hb, grown_of_below hb _⟩
theorem below3' (w : World) (x y z : Obj) : Below w.heap.size w (((w.alloc x).alloc y).alloc z) := ((al1 _ _).nx (al1 _ _)).nx (al1 _ _)
/-- Three blocks, one behind the other, and what comes behind them leaves them. -/
def After3 (w : World) (x y z : Obj) (w' : World) : Prop := w'.heap[w.heap.size]? = some x ∧ w'.heap[w.heap.size + 1]? = some y ∧ w'.heap[w.heap.size + 1 + 1]? = some z ∧ Below w.heap.size w w'
theorem after3d {w w' : World} {x y z : Obj} (hb : Below (((w.alloc x).alloc y).alloc z).drew.heap.size (((w.alloc x).alloc y).alloc z).drew w') : After3 w x y z w' :=
  have hs : (((w.alloc x).alloc y).alloc z).drew.heap.size = w.heap.size + 1 + 1 + 1 := by rw [show (((w.alloc x).alloc y).alloc z).drew.heap = (((w.alloc x).alloc y).alloc z).heap from rfl]; simp
  have h0 : (((w.alloc x).alloc y).alloc z).heap[w.heap.size]? = some x := ((al1 ((w.alloc x).alloc y) z).block w.heap.size (by simp; omega)).trans (blk_two0 w x y)
  ⟨(hb.block _ (by omega)).trans h0, (hb.block _ (by omega)).trans (blk_31 _ _ _ _), (hb.block _ (by omega)).trans (blk_3 _ _ _ _), (below_drew (below3' _ _ _ _)).nx hb⟩
section
variable (b : List Int) (no wire num from_ upto do_ kind ref : Int) (f : S38) (deep : Int) (hd : 0 ≤ deep ∧ deep ≤ 64)
  (A : Option Addr) (c : Nat) (w0 w : World) (HB : Below w0.heap.size w0 w) (P : Nat → Prop) (hP : ∀ k, w.heap.size ≤ k → P k) (v : Value) (l : List S40) (HV : Kd.R k40 40 w w0.heap.size P v l)
  (hr : Kd.C (Kd.int .u8) w0 A b.length b) (hc : b.length ≤ c) (hl : l.length ≤ 1000000)
include hd HB hP HV hr hc hl
set_option maxHeartbeats 4000000 in
set_option maxRecDepth 100000 in
theorem done_packed (r1 : List Int) (x : Int) (h : decode_Numbers.f kind b from_ upto = some (r1, x)) :
    Calls Try.prog 49 #[.slice A b.length c, v, .agg #[.int .i64 no, .int .i64 wire, .int .u64 num, .int .i64 from_, .int .i64 upto], .agg #[.int .i64 1, .int .i64 kind, .int .i64 ref, .int .i64 f.f0, .string f.f1, .int .i64 f.f2, .int .i64 f.f3, .bool f.f4, .int .i64 f.f5, .int .i64 f.f6], .int .i64 deep] w (DoneOut w0 w P v l (none) x) := by
  have HB' := Lib.hid HB
  have HV' := Lib.hid HV
  have HR := Lib.hid hr
  have HC := Lib.hid hc
  have HP := Lib.hid hP
  have HLL := Lib.hid hl
  obtain ⟨hd0, hd1⟩ := hd
  clear HB HV hr hc hP hl
  have HX := Lib.hid h
  clear h
  go_enter Try.func49, Try.ntmps49
  go_wp2_with (first | (with_reducible refine wpList_store_new rfl (.tmp 12) (.tmp 20) rfl rfl rfl (by kernel_rfl) (by simp) (by simp [Value.oneCell']) ?_) | (go_at_call 75; (with_reducible refine (decode_Numbers.calls _ _ _ _ _ _ _ _ _ (Kd.C_below HR.out (HB'.out.nx (below3' _ _ _ _))) HC.out HX.out).mono ?_); rintro e w2 ⟨v0, rfl, -, b1⟩; have BB := Aside0.mk ((below3' _ _ _ _).nx b1); clear b1))
  go_ret2
  exact DoneOut.same HB'.out HV'.out BB.out
set_option maxHeartbeats 4000000 in
set_option maxRecDepth 100000 in
theorem done_e_wire (h : wire ≠ 2) :
    Calls Try.prog 49 #[.slice A b.length c, v, .agg #[.int .i64 no, .int .i64 wire, .int .u64 num, .int .i64 from_, .int .i64 upto], .agg #[.int .i64 2, .int .i64 kind, .int .i64 ref, .int .i64 f.f0, .string f.f1, .int .i64 f.f2, .int .i64 f.f3, .bool f.f4, .int .i64 f.f5, .int .i64 f.f6], .int .i64 deep] w (DoneOut w0 w P v l (none) 8) := by
  have HB' := Lib.hid HB
  have HV' := Lib.hid HV
  have HR := Lib.hid hr
  have HC := Lib.hid hc
  have HP := Lib.hid hP
  have HLL := Lib.hid hl
  obtain ⟨hd0, hd1⟩ := hd
  clear HB HV hr hc hP hl
  have h1 : (wire != 2) = true := by simpa using h
  go_enter Try.func49, Try.ntmps49
  go_wp2_with (with_reducible refine wpList_store_new rfl (.tmp 12) (.tmp 20) rfl rfl rfl (by kernel_rfl) (by simp) (by simp [Value.oneCell']) ?_)
  go_ret2
  exact DoneOut.same HB'.out HV'.out (below3' _ _ _ _)
set_option maxHeartbeats 4000000 in
set_option maxRecDepth 100000 in
theorem done_e_deep (h2 : f.f2 = 9) (h : 64 < deep + 1) :
    Calls Try.prog 49 #[.slice A b.length c, v, .agg #[.int .i64 no, .int .i64 2, .int .u64 num, .int .i64 from_, .int .i64 upto], .agg #[.int .i64 2, .int .i64 kind, .int .i64 ref, .int .i64 f.f0, .string f.f1, .int .i64 f.f2, .int .i64 f.f3, .bool f.f4, .int .i64 f.f5, .int .i64 f.f6], .int .i64 deep] w (DoneOut w0 w P v l (none) 11) := by
  have HB' := Lib.hid HB
  have HV' := Lib.hid HV
  have HR := Lib.hid hr
  have HC := Lib.hid hc
  have HP := Lib.hid hP
  have HLL := Lib.hid hl
  obtain ⟨hd0, hd1⟩ := hd
  clear HB HV hr hc hP hl
  have h1 : (f.f2 == 9) = true := by simpa using h2
  have h3 : decide (64 < deep + 1) = true := by simpa using h
  go_enter Try.func49, Try.ntmps49
  go_wp2_with (with_reducible refine wpList_store_new rfl (.tmp 12) (.tmp 20) rfl rfl rfl (by kernel_rfl) (by simp) (by simp [Value.oneCell']) ?_)
  go_ret2
  exact DoneOut.same HB'.out HV'.out (below3' _ _ _ _)
set_option maxHeartbeats 4000000 in
set_option maxRecDepth 100000 in
theorem done_e_sub (h2 : f.f2 = 9) (h : ¬ 64 < deep + 1) :
    Calls Try.prog 49 #[.slice A b.length c, v, .agg #[.int .i64 no, .int .i64 2, .int .u64 num, .int .i64 from_, .int .i64 upto], .agg #[.int .i64 2, .int .i64 kind, .int .i64 ref, .int .i64 f.f0, .string f.f1, .int .i64 f.f2, .int .i64 f.f3, .bool f.f4, .int .i64 f.f5, .int .i64 f.f6], .int .i64 deep] w (DoneOut w0 w P v l (some (⟨true, 0, f, from_, upto, deep + 1⟩ : S40)) 0) := by
  have HB' := Lib.hid HB
  have HV' := Lib.hid HV
  have HR := Lib.hid hr
  have HC := Lib.hid hc
  have HP := Lib.hid hP
  have HLL := Lib.hid hl
  obtain ⟨hd0, hd1⟩ := hd
  clear HB HV hr hc hP hl
  obtain ⟨g0, g1, g2, g3, g4, g5, g6⟩ := f
  simp only at h2
  subst h2
  have h3 : decide (64 < deep + 1) = false := by simpa using h
  go_enter Try.func49, Try.ntmps49
  go_wp2_with (with_reducible refine wpList_store_new rfl (.tmp 12) (.tmp 20) rfl rfl rfl (by kernel_rfl) (by simp) (by simp [Value.oneCell']) ?_)
  go_region
  all_goals
    go_wp2_with (at_builtin; (refine Kd.R_append k40 (w0 := w0) w0.heap.size rfl (.tmp 60) (.tmp 62) 33 40 _ 104 rfl Try.underlying33 info40 rfl (by decide) (by decide) v l (⟨true, 0, ⟨g0, g1, 9, g3, g4, g5, g6⟩, from_, upto, deep + 1⟩ : S40) _ P (fun _ => False) rfl (by first | rfl | (go_simp; done) | (go_simp; trace_state; fail)) (k40_mkM _ _ _ (⟨true, 0, ⟨g0, g1, 9, g3, g4, g5, g6⟩, from_, upto, deep + 1⟩ : S40)) (fun _ hk => hk.elim) (fun k hk => HP.out k (Nat.le_trans ((below_drew (below3' _ _ _ _))).size hk)) (Kd.R_below HV'.out (below_drew (below3' _ _ _ _))) (HB'.out.nx (below_drew (below3' _ _ _ _))) (HB'.out.nx (below_drew (below3' _ _ _ _))).size (by have := HLL.out; omega) ?_); intro v1 w3 HV3 BB3 hg3 _; have HV4 := Aside0.mk HV3; have BB4 := Aside0.mk BB3; have HG4 := Aside0.mk ((grown_of_below (below_drew (below3' _ _ _ _)) _).trans hg3); clear HV3 BB3 hg3)
    go_ret2
    exact ⟨_, rfl, HV4.out, BB4.out, HG4.out⟩
set_option maxHeartbeats 4000000 in
set_option maxRecDepth 100000 in
theorem done_e_one (h2 : f.f2 ≠ 9) :
    Calls Try.prog 49 #[.slice A b.length c, v, .agg #[.int .i64 no, .int .i64 2, .int .u64 num, .int .i64 from_, .int .i64 upto], .agg #[.int .i64 2, .int .i64 kind, .int .i64 ref, .int .i64 f.f0, .string f.f1, .int .i64 f.f2, .int .i64 f.f3, .bool f.f4, .int .i64 f.f5, .int .i64 f.f6], .int .i64 deep] w (DoneOut w0 w P v l (some (⟨true, 0, f, from_, upto, deep⟩ : S40)) 0) := by
  have HB' := Lib.hid HB
  have HV' := Lib.hid HV
  have HR := Lib.hid hr
  have HC := Lib.hid hc
  have HP := Lib.hid hP
  have HLL := Lib.hid hl
  obtain ⟨hd0, hd1⟩ := hd
  clear HB HV hr hc hP hl
  have h1 : (f.f2 == 9) = false := by simpa using h2
  go_enter Try.func49, Try.ntmps49
  go_wp2_with (with_reducible refine wpList_store_new rfl (.tmp 12) (.tmp 20) rfl rfl rfl (by kernel_rfl) (by simp) (by simp [Value.oneCell']) ?_)
  go_region
  all_goals
    go_wp2_with (at_builtin; (refine Kd.R_append k40 (w0 := w0) w0.heap.size rfl (.tmp 60) (.tmp 62) 33 40 _ 104 rfl Try.underlying33 info40 rfl (by decide) (by decide) v l (⟨true, 0, f, from_, upto, deep⟩ : S40) _ P (fun _ => False) rfl (by first | rfl | (go_simp; done) | (go_simp; trace_state; fail)) (k40_mkM _ _ _ (⟨true, 0, f, from_, upto, deep⟩ : S40)) (fun _ hk => hk.elim) (fun k hk => HP.out k (Nat.le_trans ((below_drew (below3' _ _ _ _))).size hk)) (Kd.R_below HV'.out (below_drew (below3' _ _ _ _))) (HB'.out.nx (below_drew (below3' _ _ _ _))) (HB'.out.nx (below_drew (below3' _ _ _ _))).size (by have := HLL.out; omega) ?_); intro v1 w3 HV3 BB3 hg3 _; have HV4 := Aside0.mk HV3; have BB4 := Aside0.mk BB3; have HG4 := Aside0.mk ((grown_of_below (below_drew (below3' _ _ _ _)) _).trans hg3); clear HV3 BB3 hg3)
    go_ret2
    exact ⟨_, rfl, HV4.out, BB4.out, HG4.out⟩
set_option maxHeartbeats 4000000 in
set_option maxRecDepth 100000 in
theorem done_o_wire (wk : Int) (hwk : wireOf kind = wk) (h : wire ≠ wk) :
    Calls Try.prog 49 #[.slice A b.length c, v, .agg #[.int .i64 no, .int .i64 wire, .int .u64 num, .int .i64 from_, .int .i64 upto], .agg #[.int .i64 3, .int .i64 kind, .int .i64 ref, .int .i64 f.f0, .string f.f1, .int .i64 f.f2, .int .i64 f.f3, .bool f.f4, .int .i64 f.f5, .int .i64 f.f6], .int .i64 deep] w (DoneOut w0 w P v l (none) 8) := by
  have HB' := Lib.hid HB
  have HV' := Lib.hid HV
  have HR := Lib.hid hr
  have HC := Lib.hid hc
  have HP := Lib.hid hP
  have HLL := Lib.hid hl
  obtain ⟨hd0, hd1⟩ := hd
  clear HB HV hr hc hP hl
  have h1 : (wire != wk) = true := by simpa using h
  clear h
  have HX := Lib.hid (fun (w1 : World) => conv_Wire.calls kind wk w1 (by rw [← hwk]; rfl))
  clear hwk
  go_enter Try.func49, Try.ntmps49
  go_upto_region 16 with (with_reducible refine wpList_store_new rfl (.tmp 12) (.tmp 20) rfl rfl rfl (by kernel_rfl) (by simp) (by simp [Value.oneCell']) ?_)
  go_cut [66] from 67 to 72 (fun o wc => o = .bool true ∧ After3 w (.cells #[.int .i64 no, .int .i64 wire, .int .u64 num, .int .i64 from_, .int .i64 upto] 48) (.cells #[.int .i64 3, .int .i64 kind, .int .i64 ref, .int .i64 f.f0, .string f.f1, .int .i64 f.f2, .int .i64 f.f3, .bool f.f4, .int .i64 f.f5, .int .i64 f.f6] 104) (.cells #[.bool false, .int .i64 0, .int .i64 0, .string ⟨#[]⟩, .int .i64 0, .int .i64 0, .bool false, .int .i64 0, .int .i64 0, .int .i64 from_, .int .i64 upto, .int .i64 deep] 40) wc)
  case first =>
    have c1 : (((w.alloc (.cells #[.int .i64 no, .int .i64 wire, .int .u64 num, .int .i64 from_, .int .i64 upto] 48)).alloc (.cells #[.int .i64 3, .int .i64 kind, .int .i64 ref, .int .i64 f.f0, .string f.f1, .int .i64 f.f2, .int .i64 f.f3, .bool f.f4, .int .i64 f.f5, .int .i64 f.f6] 104)).alloc (.cells #[.bool false, .int .i64 0, .int .i64 0, .string ⟨#[]⟩, .int .i64 0, .int .i64 0, .bool false, .int .i64 0, .int .i64 0, .int .i64 from_, .int .i64 upto, .int .i64 deep] 40)).drew.cell? ⟨w.heap.size, 1, none⟩ = some (.int .i64 wire) := (blk_cell (after3d (Below.refl _ _)).1 1).trans rfl
    have c2 : (((w.alloc (.cells #[.int .i64 no, .int .i64 wire, .int .u64 num, .int .i64 from_, .int .i64 upto] 48)).alloc (.cells #[.int .i64 3, .int .i64 kind, .int .i64 ref, .int .i64 f.f0, .string f.f1, .int .i64 f.f2, .int .i64 f.f3, .bool f.f4, .int .i64 f.f5, .int .i64 f.f6] 104)).alloc (.cells #[.bool false, .int .i64 0, .int .i64 0, .string ⟨#[]⟩, .int .i64 0, .int .i64 0, .bool false, .int .i64 0, .int .i64 0, .int .i64 from_, .int .i64 upto, .int .i64 deep] 40)).drew.cell? ⟨w.heap.size + 1, 1, none⟩ = some (.int .i64 kind) := (blk_cell (after3d (Below.refl _ _)).2.1 1).trans rfl
    go_region_with (go_at_call 76; (with_reducible refine (HX.out _).mono ?_); rintro e w2 ⟨rfl, b1⟩; have BB := Aside0.mk b1; have f1 : w2.cell? ⟨w.heap.size, 1, none⟩ = some (.int .i64 wire) := (blk_cell (after3d b1).1 1).trans rfl; clear b1)
    all_goals (go_wp2_with fail; go_meet)
    all_goals exact ⟨rfl, after3d BB.out⟩
  case rest =>
    obtain ⟨rfl, q0, q1, q2, hb⟩ := hcut
    have BB := Aside0.mk hb
    have Q0 := Aside0.mk q0
    have Q1 := Aside0.mk q1
    have Q2 := Aside0.mk q2
    have c1 : wc.cell? ⟨w.heap.size + 1, 1, none⟩ = some (.int .i64 kind) := (blk_cell q1 1).trans rfl
    have lt1 := blk_lt q1
    clear hb q0 q1 q2
    go_wp2_with fail
    go_ret2
    exact DoneOut.same HB'.out HV'.out BB.out
set_option maxHeartbeats 4000000 in
set_option maxRecDepth 100000 in
theorem done_o_none (hwk : wireOf kind = wire) (k7 : kind ≠ 7) (k9 : kind ≠ 9) :
    Calls Try.prog 49 #[.slice A b.length c, v, .agg #[.int .i64 no, .int .i64 wire, .int .u64 num, .int .i64 from_, .int .i64 upto], .agg #[.int .i64 3, .int .i64 kind, .int .i64 ref, .int .i64 f.f0, .string f.f1, .int .i64 f.f2, .int .i64 f.f3, .bool f.f4, .int .i64 f.f5, .int .i64 f.f6], .int .i64 deep] w (DoneOut w0 w P v l (none) 0) := by
  have HB' := Lib.hid HB
  have HV' := Lib.hid HV
  have HR := Lib.hid hr
  have HC := Lib.hid hc
  have HP := Lib.hid hP
  have HLL := Lib.hid hl
  obtain ⟨hd0, hd1⟩ := hd
  clear HB HV hr hc hP hl
  have HX := Lib.hid (fun (w1 : World) => conv_Wire.calls kind wire w1 (by rw [← hwk]; rfl))
  clear hwk
  go_enter Try.func49, Try.ntmps49
  go_upto_region 16 with (with_reducible refine wpList_store_new rfl (.tmp 12) (.tmp 20) rfl rfl rfl (by kernel_rfl) (by simp) (by simp [Value.oneCell']) ?_)
  go_cut [66] from 67 to 72 (fun o wc => o = .bool false ∧ After3 w (.cells #[.int .i64 no, .int .i64 wire, .int .u64 num, .int .i64 from_, .int .i64 upto] 48) (.cells #[.int .i64 3, .int .i64 kind, .int .i64 ref, .int .i64 f.f0, .string f.f1, .int .i64 f.f2, .int .i64 f.f3, .bool f.f4, .int .i64 f.f5, .int .i64 f.f6] 104) (.cells #[.bool false, .int .i64 0, .int .i64 0, .string ⟨#[]⟩, .int .i64 0, .int .i64 0, .bool false, .int .i64 0, .int .i64 0, .int .i64 from_, .int .i64 upto, .int .i64 deep] 40) wc)
  case first =>
    have c1 : (((w.alloc (.cells #[.int .i64 no, .int .i64 wire, .int .u64 num, .int .i64 from_, .int .i64 upto] 48)).alloc (.cells #[.int .i64 3, .int .i64 kind, .int .i64 ref, .int .i64 f.f0, .string f.f1, .int .i64 f.f2, .int .i64 f.f3, .bool f.f4, .int .i64 f.f5, .int .i64 f.f6] 104)).alloc (.cells #[.bool false, .int .i64 0, .int .i64 0, .string ⟨#[]⟩, .int .i64 0, .int .i64 0, .bool false, .int .i64 0, .int .i64 0, .int .i64 from_, .int .i64 upto, .int .i64 deep] 40)).drew.cell? ⟨w.heap.size, 1, none⟩ = some (.int .i64 wire) := (blk_cell (after3d (Below.refl _ _)).1 1).trans rfl
    have c2 : (((w.alloc (.cells #[.int .i64 no, .int .i64 wire, .int .u64 num, .int .i64 from_, .int .i64 upto] 48)).alloc (.cells #[.int .i64 3, .int .i64 kind, .int .i64 ref, .int .i64 f.f0, .string f.f1, .int .i64 f.f2, .int .i64 f.f3, .bool f.f4, .int .i64 f.f5, .int .i64 f.f6] 104)).alloc (.cells #[.bool false, .int .i64 0, .int .i64 0, .string ⟨#[]⟩, .int .i64 0, .int .i64 0, .bool false, .int .i64 0, .int .i64 0, .int .i64 from_, .int .i64 upto, .int .i64 deep] 40)).drew.cell? ⟨w.heap.size + 1, 1, none⟩ = some (.int .i64 kind) := (blk_cell (after3d (Below.refl _ _)).2.1 1).trans rfl
    go_region_with (go_at_call 76; (with_reducible refine (HX.out _).mono ?_); rintro e w2 ⟨rfl, b1⟩; have BB := Aside0.mk b1; have f1 : w2.cell? ⟨w.heap.size, 1, none⟩ = some (.int .i64 wire) := (blk_cell (after3d b1).1 1).trans rfl; clear b1)
    all_goals (go_wp2_with fail; go_meet)
    all_goals exact ⟨rfl, after3d BB.out⟩
  case rest =>
    obtain ⟨rfl, q0, q1, q2, hb⟩ := hcut
    have BB := Aside0.mk hb
    have Q0 := Aside0.mk q0
    have Q1 := Aside0.mk q1
    have Q2 := Aside0.mk q2
    have c1 : wc.cell? ⟨w.heap.size + 1, 1, none⟩ = some (.int .i64 kind) := (blk_cell q1 1).trans rfl
    have lt1 := blk_lt q1
    clear hb q0 q1 q2
    have h2 : (kind == 7) = false := by simpa using k7
    have h3 : (kind != 9) = true := by simpa using k9
    clear k7 k9
    go_wp2_with fail
    go_ret2
    exact DoneOut.same HB'.out HV'.out BB.out
set_option maxHeartbeats 4000000 in
set_option maxRecDepth 100000 in
theorem done_o_utf (hwk : wireOf 7 = wire) (ok : Bool) (x : Int) (h : utf_Fine.f b from_ upto = some ok) (hx : (if ok = true then 0 else 10) = x) :
    Calls Try.prog 49 #[.slice A b.length c, v, .agg #[.int .i64 no, .int .i64 wire, .int .u64 num, .int .i64 from_, .int .i64 upto], .agg #[.int .i64 3, .int .i64 7, .int .i64 ref, .int .i64 f.f0, .string f.f1, .int .i64 f.f2, .int .i64 f.f3, .bool f.f4, .int .i64 f.f5, .int .i64 f.f6], .int .i64 deep] w (DoneOut w0 w P v l (none) x) := by
  have HB' := Lib.hid HB
  have HV' := Lib.hid HV
  have HR := Lib.hid hr
  have HC := Lib.hid hc
  have HP := Lib.hid hP
  have HLL := Lib.hid hl
  obtain ⟨hd0, hd1⟩ := hd
  clear HB HV hr hc hP hl
  have HU := Lib.hid h
  have HX1 := Lib.hid hx
  clear h hx
  have HX := Lib.hid (fun (w1 : World) => conv_Wire.calls 7 wire w1 (by rw [← hwk]; rfl))
  clear hwk
  go_enter Try.func49, Try.ntmps49
  go_upto_region 16 with (with_reducible refine wpList_store_new rfl (.tmp 12) (.tmp 20) rfl rfl rfl (by kernel_rfl) (by simp) (by simp [Value.oneCell']) ?_)
  go_cut [66] from 67 to 72 (fun o wc => o = .bool false ∧ After3 w (.cells #[.int .i64 no, .int .i64 wire, .int .u64 num, .int .i64 from_, .int .i64 upto] 48) (.cells #[.int .i64 3, .int .i64 7, .int .i64 ref, .int .i64 f.f0, .string f.f1, .int .i64 f.f2, .int .i64 f.f3, .bool f.f4, .int .i64 f.f5, .int .i64 f.f6] 104) (.cells #[.bool false, .int .i64 0, .int .i64 0, .string ⟨#[]⟩, .int .i64 0, .int .i64 0, .bool false, .int .i64 0, .int .i64 0, .int .i64 from_, .int .i64 upto, .int .i64 deep] 40) wc)
  case first =>
    have c1 : (((w.alloc (.cells #[.int .i64 no, .int .i64 wire, .int .u64 num, .int .i64 from_, .int .i64 upto] 48)).alloc (.cells #[.int .i64 3, .int .i64 7, .int .i64 ref, .int .i64 f.f0, .string f.f1, .int .i64 f.f2, .int .i64 f.f3, .bool f.f4, .int .i64 f.f5, .int .i64 f.f6] 104)).alloc (.cells #[.bool false, .int .i64 0, .int .i64 0, .string ⟨#[]⟩, .int .i64 0, .int .i64 0, .bool false, .int .i64 0, .int .i64 0, .int .i64 from_, .int .i64 upto, .int .i64 deep] 40)).drew.cell? ⟨w.heap.size, 1, none⟩ = some (.int .i64 wire) := (blk_cell (after3d (Below.refl _ _)).1 1).trans rfl
    have c2 : (((w.alloc (.cells #[.int .i64 no, .int .i64 wire, .int .u64 num, .int .i64 from_, .int .i64 upto] 48)).alloc (.cells #[.int .i64 3, .int .i64 7, .int .i64 ref, .int .i64 f.f0, .string f.f1, .int .i64 f.f2, .int .i64 f.f3, .bool f.f4, .int .i64 f.f5, .int .i64 f.f6] 104)).alloc (.cells #[.bool false, .int .i64 0, .int .i64 0, .string ⟨#[]⟩, .int .i64 0, .int .i64 0, .bool false, .int .i64 0, .int .i64 0, .int .i64 from_, .int .i64 upto, .int .i64 deep] 40)).drew.cell? ⟨w.heap.size + 1, 1, none⟩ = some (.int .i64 7) := (blk_cell (after3d (Below.refl _ _)).2.1 1).trans rfl
    go_region_with (go_at_call 76; (with_reducible refine (HX.out _).mono ?_); rintro e w2 ⟨rfl, b1⟩; have BB := Aside0.mk b1; have f1 : w2.cell? ⟨w.heap.size, 1, none⟩ = some (.int .i64 wire) := (blk_cell (after3d b1).1 1).trans rfl; clear b1)
    all_goals (go_wp2_with fail; go_meet)
    all_goals exact ⟨rfl, after3d BB.out⟩
  case rest =>
    obtain ⟨rfl, q0, q1, q2, hb⟩ := hcut
    have BB := Aside0.mk hb
    have Q0 := Aside0.mk q0
    have Q1 := Aside0.mk q1
    have Q2 := Aside0.mk q2
    have c1 : wc.cell? ⟨w.heap.size + 1, 1, none⟩ = some (.int .i64 7) := (blk_cell q1 1).trans rfl
    have lt1 := blk_lt q1
    clear hb q0 q1 q2
    have c3 : wc.cell? ⟨w.heap.size, 3, none⟩ = some (.int .i64 from_) := (blk_cell Q0.out 3).trans rfl
    have c4 : wc.cell? ⟨w.heap.size, 4, none⟩ = some (.int .i64 upto) := (blk_cell Q0.out 4).trans rfl
    have lt0 := blk_lt Q0.out
    have HX2 : (if ok = true then 0 else 10) = x := HX1.out
    clear HX1
    cases ok
    all_goals
      subst HX2
      go_wp2_with (go_at_call 77; (with_reducible refine (utf_Fine.calls _ _ _ _ _ _ _ (Kd.C_below HR.out (HB'.out.nx BB.out)) HC.out HU.out).mono ?_); rintro e w2 ⟨rfl, b1⟩; have f1 : w2.cell? ⟨w.heap.size + 1, 1, none⟩ = some (.int .i64 7) := (blk_cell (blk_below Q1.out b1) 1).trans rfl; have BC := Aside0.mk (BB.out.nx b1); have lt2 := blk_lt (blk_below Q1.out b1); clear b1)
      go_ret2
      exact DoneOut.same HB'.out HV'.out BC.out
set_option maxHeartbeats 4000000 in
set_option maxRecDepth 100000 in
theorem done_o_deep (hwk : wireOf 9 = wire) (h : 64 ≤ deep) :
    Calls Try.prog 49 #[.slice A b.length c, v, .agg #[.int .i64 no, .int .i64 wire, .int .u64 num, .int .i64 from_, .int .i64 upto], .agg #[.int .i64 3, .int .i64 9, .int .i64 ref, .int .i64 f.f0, .string f.f1, .int .i64 f.f2, .int .i64 f.f3, .bool f.f4, .int .i64 f.f5, .int .i64 f.f6], .int .i64 deep] w (DoneOut w0 w P v l (none) 11) := by
  have HB' := Lib.hid HB
  have HV' := Lib.hid HV
  have HR := Lib.hid hr
  have HC := Lib.hid hc
  have HP := Lib.hid hP
  have HLL := Lib.hid hl
  obtain ⟨hd0, hd1⟩ := hd
  clear HB HV hr hc hP hl
  have HX := Lib.hid (fun (w1 : World) => conv_Wire.calls 9 wire w1 (by rw [← hwk]; rfl))
  clear hwk
  go_enter Try.func49, Try.ntmps49
  go_upto_region 16 with (with_reducible refine wpList_store_new rfl (.tmp 12) (.tmp 20) rfl rfl rfl (by kernel_rfl) (by simp) (by simp [Value.oneCell']) ?_)
  go_cut [66] from 67 to 72 (fun o wc => o = .bool false ∧ After3 w (.cells #[.int .i64 no, .int .i64 wire, .int .u64 num, .int .i64 from_, .int .i64 upto] 48) (.cells #[.int .i64 3, .int .i64 9, .int .i64 ref, .int .i64 f.f0, .string f.f1, .int .i64 f.f2, .int .i64 f.f3, .bool f.f4, .int .i64 f.f5, .int .i64 f.f6] 104) (.cells #[.bool false, .int .i64 0, .int .i64 0, .string ⟨#[]⟩, .int .i64 0, .int .i64 0, .bool false, .int .i64 0, .int .i64 0, .int .i64 from_, .int .i64 upto, .int .i64 deep] 40) wc)
  case first =>
    have c1 : (((w.alloc (.cells #[.int .i64 no, .int .i64 wire, .int .u64 num, .int .i64 from_, .int .i64 upto] 48)).alloc (.cells #[.int .i64 3, .int .i64 9, .int .i64 ref, .int .i64 f.f0, .string f.f1, .int .i64 f.f2, .int .i64 f.f3, .bool f.f4, .int .i64 f.f5, .int .i64 f.f6] 104)).alloc (.cells #[.bool false, .int .i64 0, .int .i64 0, .string ⟨#[]⟩, .int .i64 0, .int .i64 0, .bool false, .int .i64 0, .int .i64 0, .int .i64 from_, .int .i64 upto, .int .i64 deep] 40)).drew.cell? ⟨w.heap.size, 1, none⟩ = some (.int .i64 wire) := (blk_cell (after3d (Below.refl _ _)).1 1).trans rfl
    have c2 : (((w.alloc (.cells #[.int .i64 no, .int .i64 wire, .int .u64 num, .int .i64 from_, .int .i64 upto] 48)).alloc (.cells #[.int .i64 3, .int .i64 9, .int .i64 ref, .int .i64 f.f0, .string f.f1, .int .i64 f.f2, .int .i64 f.f3, .bool f.f4, .int .i64 f.f5, .int .i64 f.f6] 104)).alloc (.cells #[.bool false, .int .i64 0, .int .i64 0, .string ⟨#[]⟩, .int .i64 0, .int .i64 0, .bool false, .int .i64 0, .int .i64 0, .int .i64 from_, .int .i64 upto, .int .i64 deep] 40)).drew.cell? ⟨w.heap.size + 1, 1, none⟩ = some (.int .i64 9) := (blk_cell (after3d (Below.refl _ _)).2.1 1).trans rfl
    go_region_with (go_at_call 76; (with_reducible refine (HX.out _).mono ?_); rintro e w2 ⟨rfl, b1⟩; have BB := Aside0.mk b1; have f1 : w2.cell? ⟨w.heap.size, 1, none⟩ = some (.int .i64 wire) := (blk_cell (after3d b1).1 1).trans rfl; clear b1)
    all_goals (go_wp2_with fail; go_meet)
    all_goals exact ⟨rfl, after3d BB.out⟩
  case rest =>
    obtain ⟨rfl, q0, q1, q2, hb⟩ := hcut
    have BB := Aside0.mk hb
    have Q0 := Aside0.mk q0
    have Q1 := Aside0.mk q1
    have Q2 := Aside0.mk q2
    have c1 : wc.cell? ⟨w.heap.size + 1, 1, none⟩ = some (.int .i64 9) := (blk_cell q1 1).trans rfl
    have lt1 := blk_lt q1
    clear hb q0 q1 q2
    have h3 : decide (64 ≤ deep) = true := by simpa using h
    go_wp2_with fail
    go_ret2
    exact DoneOut.same HB'.out HV'.out BB.out
set_option maxHeartbeats 4000000 in
set_option maxRecDepth 100000 in
theorem done_o_sub (hwk : wireOf 9 = wire) (h : ¬ 64 ≤ deep) :
    Calls Try.prog 49 #[.slice A b.length c, v, .agg #[.int .i64 no, .int .i64 wire, .int .u64 num, .int .i64 from_, .int .i64 upto], .agg #[.int .i64 3, .int .i64 9, .int .i64 ref, .int .i64 f.f0, .string f.f1, .int .i64 f.f2, .int .i64 f.f3, .bool f.f4, .int .i64 f.f5, .int .i64 f.f6], .int .i64 deep] w (DoneOut w0 w P v l (some (⟨false, ref, z38, from_, upto, deep + 1⟩ : S40)) 0) := by
  have HB' := Lib.hid HB
  have HV' := Lib.hid HV
  have HR := Lib.hid hr
  have HC := Lib.hid hc
  have HP := Lib.hid hP
  have HLL := Lib.hid hl
  obtain ⟨hd0, hd1⟩ := hd
  clear HB HV hr hc hP hl
  have HX := Lib.hid (fun (w1 : World) => conv_Wire.calls 9 wire w1 (by rw [← hwk]; rfl))
  clear hwk
  go_enter Try.func49, Try.ntmps49
  go_upto_region 16 with (with_reducible refine wpList_store_new rfl (.tmp 12) (.tmp 20) rfl rfl rfl (by kernel_rfl) (by simp) (by simp [Value.oneCell']) ?_)
  go_cut [66] from 67 to 72 (fun o wc => o = .bool false ∧ After3 w (.cells #[.int .i64 no, .int .i64 wire, .int .u64 num, .int .i64 from_, .int .i64 upto] 48) (.cells #[.int .i64 3, .int .i64 9, .int .i64 ref, .int .i64 f.f0, .string f.f1, .int .i64 f.f2, .int .i64 f.f3, .bool f.f4, .int .i64 f.f5, .int .i64 f.f6] 104) (.cells #[.bool false, .int .i64 0, .int .i64 0, .string ⟨#[]⟩, .int .i64 0, .int .i64 0, .bool false, .int .i64 0, .int .i64 0, .int .i64 from_, .int .i64 upto, .int .i64 deep] 40) wc)
  case first =>
    have c1 : (((w.alloc (.cells #[.int .i64 no, .int .i64 wire, .int .u64 num, .int .i64 from_, .int .i64 upto] 48)).alloc (.cells #[.int .i64 3, .int .i64 9, .int .i64 ref, .int .i64 f.f0, .string f.f1, .int .i64 f.f2, .int .i64 f.f3, .bool f.f4, .int .i64 f.f5, .int .i64 f.f6] 104)).alloc (.cells #[.bool false, .int .i64 0, .int .i64 0, .string ⟨#[]⟩, .int .i64 0, .int .i64 0, .bool false, .int .i64 0, .int .i64 0, .int .i64 from_, .int .i64 upto, .int .i64 deep] 40)).drew.cell? ⟨w.heap.size, 1, none⟩ = some (.int .i64 wire) := (blk_cell (after3d (Below.refl _ _)).1 1).trans rfl
    have c2 : (((w.alloc (.cells #[.int .i64 no, .int .i64 wire, .int .u64 num, .int .i64 from_, .int .i64 upto] 48)).alloc (.cells #[.int .i64 3, .int .i64 9, .int .i64 ref, .int .i64 f.f0, .string f.f1, .int .i64 f.f2, .int .i64 f.f3, .bool f.f4, .int .i64 f.f5, .int .i64 f.f6] 104)).alloc (.cells #[.bool false, .int .i64 0, .int .i64 0, .string ⟨#[]⟩, .int .i64 0, .int .i64 0, .bool false, .int .i64 0, .int .i64 0, .int .i64 from_, .int .i64 upto, .int .i64 deep] 40)).drew.cell? ⟨w.heap.size + 1, 1, none⟩ = some (.int .i64 9) := (blk_cell (after3d (Below.refl _ _)).2.1 1).trans rfl
    go_region_with (go_at_call 76; (with_reducible refine (HX.out _).mono ?_); rintro e w2 ⟨rfl, b1⟩; have BB := Aside0.mk b1; have f1 : w2.cell? ⟨w.heap.size, 1, none⟩ = some (.int .i64 wire) := (blk_cell (after3d b1).1 1).trans rfl; clear b1)
    all_goals (go_wp2_with fail; go_meet)
    all_goals exact ⟨rfl, after3d BB.out⟩
  case rest =>
    obtain ⟨rfl, q0, q1, q2, hb⟩ := hcut
    have BB := Aside0.mk hb
    have Q0 := Aside0.mk q0
    have Q1 := Aside0.mk q1
    have Q2 := Aside0.mk q2
    have c1 : wc.cell? ⟨w.heap.size + 1, 1, none⟩ = some (.int .i64 9) := (blk_cell q1 1).trans rfl
    have lt1 := blk_lt q1
    clear hb q0 q1 q2
    have h3 : decide (64 ≤ deep) = false := by simpa using h
    have c2 : wc.cell? ⟨w.heap.size + 1, 2, none⟩ = some (.int .i64 ref) := (blk_cell Q1.out 2).trans rfl
    have lt2 := blk_lt Q2.out
    go_upto_region 24 with fail
    have fz1 : wc.frozen? ⟨w.heap.size + 1 + 1, 1, none⟩ = false := blk_frozen Q2.out 1
    have fz5 : wc.frozen? ⟨w.heap.size + 1 + 1, 5, none⟩ = false := blk_frozen Q2.out 5
    have d1 : wc.cell? ⟨w.heap.size + 1 + 1, 1, none⟩ = some (.int .i64 0) := (blk_cell Q2.out 1).trans rfl
    have d5 : wc.cell? ⟨w.heap.size + 1 + 1, 5, none⟩ = some (.int .i64 0) := (blk_cell Q2.out 5).trans rfl
    have fz11 : wc.frozen? ⟨w.heap.size + 1 + 1, 11, none⟩ = false := blk_frozen Q2.out 11
    have d11 : wc.cell? ⟨w.heap.size + 1 + 1, 11, none⟩ = some (.int .i64 deep) := (blk_cell Q2.out 11).trans rfl
    go_cut [100] from 97 to 102 (fun o wd => o = .int .i64 (deep + 1) ∧ wd.heap[w.heap.size + 1 + 1]? = some (.cells #[.bool false, .int .i64 ref, .int .i64 0, .string ⟨#[]⟩, .int .i64 0, .int .i64 0, .bool false, .int .i64 0, .int .i64 0, .int .i64 from_, .int .i64 upto, .int .i64 (deep + 1)] 40) ∧ Below w.heap.size w wd)
    case first =>
      go_wp2_with fail
      go_meet
      exact ⟨rfl, blk_put (blk_put Q2.out 1 _ rfl) 11 _ rfl, ((BB.out.setCell (p := ⟨w.heap.size + 1 + 1, 1, none⟩) (by show w.heap.size ≤ w.heap.size + 1 + 1; omega) _).setCell (p := ⟨w.heap.size + 1 + 1, 11, none⟩) (by show w.heap.size ≤ w.heap.size + 1 + 1; omega) _)⟩
    case rest =>
      obtain ⟨rfl, q3, hb3⟩ := hcut
      have BD := Aside0.mk hb3
      have lt3 := blk_lt q3
      have m0 : wc.cell? ⟨w.heap.size + 1 + 1, 0, none⟩ = some (.bool false) := (blk_cell q3 0).trans rfl
      have m1 : wc.cell? ⟨w.heap.size + 1 + 1, 1, none⟩ = some (.int .i64 ref) := (blk_cell q3 1).trans rfl
      have m2 : wc.cell? ⟨w.heap.size + 1 + 1, 2, none⟩ = some (.int .i64 0) := (blk_cell q3 2).trans rfl
      have m3 : wc.cell? ⟨w.heap.size + 1 + 1, 3, none⟩ = some (.string ⟨#[]⟩) := (blk_cell q3 3).trans rfl
      have m4 : wc.cell? ⟨w.heap.size + 1 + 1, 4, none⟩ = some (.int .i64 0) := (blk_cell q3 4).trans rfl
      have m5 : wc.cell? ⟨w.heap.size + 1 + 1, 5, none⟩ = some (.int .i64 0) := (blk_cell q3 5).trans rfl
      have m6 : wc.cell? ⟨w.heap.size + 1 + 1, 6, none⟩ = some (.bool false) := (blk_cell q3 6).trans rfl
      have m7 : wc.cell? ⟨w.heap.size + 1 + 1, 7, none⟩ = some (.int .i64 0) := (blk_cell q3 7).trans rfl
      have m8 : wc.cell? ⟨w.heap.size + 1 + 1, 8, none⟩ = some (.int .i64 0) := (blk_cell q3 8).trans rfl
      have m9 : wc.cell? ⟨w.heap.size + 1 + 1, 9, none⟩ = some (.int .i64 from_) := (blk_cell q3 9).trans rfl
      have m10 : wc.cell? ⟨w.heap.size + 1 + 1, 10, none⟩ = some (.int .i64 upto) := (blk_cell q3 10).trans rfl
      have m11 : wc.cell? ⟨w.heap.size + 1 + 1, 11, none⟩ = some (.int .i64 (deep + 1)) := (blk_cell q3 11).trans rfl
      clear q3 hb3
      go_wp2_with (at_builtin; (refine Kd.R_append k40 (w0 := w0) w0.heap.size rfl (.tmp 103) (.tmp 105) 33 40 _ 104 rfl Try.underlying33 info40 rfl (by decide) (by decide) v l (⟨false, ref, ⟨0, ⟨#[]⟩, 0, 0, false, 0, 0⟩, from_, upto, deep + 1⟩ : S40) _ P (fun _ => False) rfl (by first | rfl | (go_simp; done) | (go_simp; trace_state; fail)) (k40_mkM _ _ _ (⟨false, ref, ⟨0, ⟨#[]⟩, 0, 0, false, 0, 0⟩, from_, upto, deep + 1⟩ : S40)) (fun _ hk => hk.elim) (fun k hk => HP.out k (Nat.le_trans (BD.out).size hk)) (Kd.R_below HV'.out BD.out) (HB'.out.nx BD.out) (HB'.out.nx BD.out).size (by have := HLL.out; omega) ?_); intro v1 w3 HV3 BB3 hg3 _; have HV4 := Aside0.mk HV3; have BB4 := Aside0.mk BB3; have HG4 := Aside0.mk ((grown_of_below BD.out _).trans hg3); clear HV3 BB3 hg3)
      go_ret2
      exact ⟨_, rfl, HV4.out, BB4.out, HG4.out⟩
set_option maxHeartbeats 4000000 in
set_option maxRecDepth 100000 in
theorem done_nothing (h1 : do_ ≠ 1) (h2 : do_ ≠ 2) (h3 : do_ ≠ 3) :
    Calls Try.prog 49 #[.slice A b.length c, v, .agg #[.int .i64 no, .int .i64 wire, .int .u64 num, .int .i64 from_, .int .i64 upto], .agg #[.int .i64 do_, .int .i64 kind, .int .i64 ref, .int .i64 f.f0, .string f.f1, .int .i64 f.f2, .int .i64 f.f3, .bool f.f4, .int .i64 f.f5, .int .i64 f.f6], .int .i64 deep] w (DoneOut w0 w P v l (none) 0) := by
  have HB' := Lib.hid HB
  have HV' := Lib.hid HV
  have HR := Lib.hid hr
  have HC := Lib.hid hc
  have HP := Lib.hid hP
  have HLL := Lib.hid hl
  obtain ⟨hd0, hd1⟩ := hd
  clear HB HV hr hc hP hl
  have g1 : (do_ == 1) = false := by simpa using h1
  have g2 : (do_ == 2) = false := by simpa using h2
  have g3 : (do_ == 3) = false := by simpa using h3
  go_enter Try.func49, Try.ntmps49
  go_wp2_with (with_reducible refine wpList_store_new rfl (.tmp 12) (.tmp 20) rfl rfl rfl (by kernel_rfl) (by simp) (by simp [Value.oneCell']) ?_)
  go_ret2
  exact DoneOut.same HB'.out HV'.out (below3' _ _ _ _)
theorem valid_done (o : Option S40) (x : Int) (h : doneN b wire from_ upto do_ kind ref f deep = some (o, x)) :
    Calls Try.prog 49 #[.slice A b.length c, v, .agg #[.int .i64 no, .int .i64 wire, .int .u64 num, .int .i64 from_, .int .i64 upto], .agg #[.int .i64 do_, .int .i64 kind, .int .i64 ref, .int .i64 f.f0, .string f.f1, .int .i64 f.f2, .int .i64 f.f3, .bool f.f4, .int .i64 f.f5, .int .i64 f.f6], .int .i64 deep] w (DoneOut w0 w P v l (o) x) := by
  unfold doneN at h
  split at h
  · rename_i e1
    subst e1
    cases e2 : decode_Numbers.f kind b from_ upto with
    | none => rw [e2] at h; cases h
    | some r =>
      obtain ⟨r1, r2⟩ := r
      rw [e2] at h
      obtain ⟨rfl, rfl⟩ : none = o ∧ r2 = x := by simpa using h
      apply done_packed (r1 := r1) <;> assumption
  · rename_i n1
    split at h
    · rename_i e1
      subst e1
      split at h
      · rename_i e2
        subst e2
        split at h
        · split at h
          · obtain ⟨rfl, rfl⟩ : none = o ∧ 11 = x := by simpa using h
            apply done_e_deep <;> assumption
          · obtain ⟨rfl, rfl⟩ : some (⟨true, 0, f, from_, upto, deep + 1⟩ : S40) = o ∧ 0 = x := by simpa using h
            apply done_e_sub <;> assumption
        · obtain ⟨rfl, rfl⟩ : some (⟨true, 0, f, from_, upto, deep⟩ : S40) = o ∧ 0 = x := by simpa using h
          apply done_e_one <;> assumption
      · obtain ⟨rfl, rfl⟩ : none = o ∧ 8 = x := by simpa using h
        apply done_e_wire <;> assumption
    · rename_i n2
      split at h
      · rename_i e1
        subst e1
        split at h
        · rename_i e2
          have e3 := e2.symm
          split at h
          · rename_i e4
            subst e4
            cases e5 : utf_Fine.f b from_ upto with
            | none => rw [e5] at h; cases h
            | some ok =>
              rw [e5] at h
              have h2 : none = o ∧ (if ok = true then 0 else 10) = x := by cases ok <;> simpa using h
              obtain ⟨rfl, h3⟩ := h2
              apply done_o_utf (ok := ok) <;> assumption
          · split at h
            · rename_i e4
              subst e4
              split at h
              · obtain ⟨rfl, rfl⟩ : none = o ∧ 11 = x := by simpa using h
                apply done_o_deep <;> assumption
              · obtain ⟨rfl, rfl⟩ : some (⟨false, ref, z38, from_, upto, deep + 1⟩ : S40) = o ∧ 0 = x := by simpa using h
                apply done_o_sub <;> assumption
            · obtain ⟨rfl, rfl⟩ : none = o ∧ 0 = x := by simpa using h
              apply done_o_none <;> assumption
        · rename_i e2
          obtain ⟨rfl, rfl⟩ : none = o ∧ 8 = x := by simpa using h
          apply done_o_wire (wk := wireOf kind) <;> first | assumption | rfl
      · rename_i n3
        obtain ⟨rfl, rfl⟩ : none = o ∧ 0 = x := by simpa using h
        apply done_nothing <;> assumption
end
end Go.Proofs.Ytlokcpfkaijchaa.PA
