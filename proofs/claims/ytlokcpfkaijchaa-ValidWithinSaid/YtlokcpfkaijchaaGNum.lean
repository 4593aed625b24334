/- Contract of decode.Numbers, with the panics that it catches. -/
import Derived.Test.YtlokcpfkaijchaaPAx7
import Derived.Test.YtlokcpfkaijchaaGConv
import Derived.Test.YtlokcpfkaijchaaGLib
import Derived.Tactics2
import Derived.Defers
import Derived.Recover
import Derived.Laws.Pointers
namespace Go.Proofs.Ytlokcpfkaijchaa.PA
open Go.RowKit Go.Proofs.YtlokcpfkaijchaaW.PrintWords Go.Proofs.YtlokcpfkaijchaaW.PrintLast Go.Proofs.YtlokcpfkaijchaaW.PrintMore
set_option linter.unusedVariables false
set_option linter.unusedSimpArgs false
/-- What goes wrong, as a value. -/
def wrongV (n : Int) : Value := .iface 166 (.agg #[.int .i64 n])
theorem must_ok (w : World) : Calls Try.prog 96 #[.int .i64 0] w fun e w' => e = .returned (.tuple #[]) ∧ w = w' := by
  go_enter Try.func96, Try.ntmps96
  go_wp2
  go_end0
  exact ⟨rfl, rfl⟩
theorem must_bad (n : Int) (hn : n ≠ 0) (w : World) : Calls Try.prog 96 #[.int .i64 n] w fun e w' => e = .panicked [{ v := wrongV n, recovered := false }] ∧ w = w' := by
  have h1 : (n != 0) = true := by simpa using hn
  go_enter Try.func96, Try.ntmps96
  go_wp2
  simp [bodyPost, wrongV]
theorem caught_panicking (b : Nat) (x n : Int) (older : List PanicEntry) (w : World) (hc : w.cell? ⟨b, 0, none⟩ = some (.int .i64 x)) (hz : w.frozen? ⟨b, 0, none⟩ = false) :
    CallsD Try.prog 91 #[.pointer (some ⟨b, 0, none⟩)] (.panicking ({ v := wrongV n, recovered := false } :: older)) w fun e u' w' =>
      e = .returned (.tuple #[]) ∧ u' = .panicking ({ v := wrongV n, recovered := true } :: older) ∧ w' = (w.setCell ⟨b, 0, none⟩ (.int .i64 n)).alloc (.cells #[.int .i64 n] 166) := by
  unfold wrongV
  refine callsD_of_wpS Try.func91 rfl fun c₀ cs hu => ?_
  apply wpS_seq
  apply wpS_region
  simp [wpOpsS, go_sem, recoverD, hu, Try.ntmps91, Exit.thenS]
  refine wpS_of_wp ?_
  rw [show (#[Value.pointer (some ⟨b, 0, none⟩)] ++ (Array.replicate 14 undef).setIfInBounds 4 (Value.iface 166 (.agg #[.int .i64 n])) : Array Value) = #[Value.pointer (some ⟨b, 0, none⟩), undef, undef, undef, undef, Value.iface 166 (.agg #[.int .i64 n]), undef, undef, undef, undef, undef, undef, undef, undef, undef] from rfl]
  have bl := World.block_lt_of_cell? w _ hc
  have hta : ∀ (W : World), (Instr.typeAssert (.iface 166 (.agg #[.int .i64 n])) 20 166 true).run Try.prog W = .ok (.tuple #[.agg #[.int .i64 n], .bool true]) W := fun W => by kernel_rfl
  clear hu
  set_option maxRecDepth 100000 in
  go_wp2
  cases c₀
  simp_all [bodyPostS, results, Try.results91]
theorem caught_idle (b : Nat) (w : World) :
    CallsD Try.prog 91 #[.pointer (some ⟨b, 0, none⟩)] .returning w fun e u' w' => e = .returned (.tuple #[]) ∧ u' = .returning ∧ w' = w := by
  refine callsD_of_wpS Try.func91 rfl fun c₀ cs hu => ?_
  apply wpS_seq
  apply wpS_region
  simp [wpOpsS, go_sem, recoverD, hu, Try.ntmps91, Exit.thenS]
  refine wpS_of_wp ?_
  rw [show (#[Value.pointer (some ⟨b, 0, none⟩)] ++ (Array.replicate 14 undef).setIfInBounds 4 Value.nilIface : Array Value) = #[Value.pointer (some ⟨b, 0, none⟩), undef, undef, undef, undef, Value.nilIface, undef, undef, undef, undef, undef, undef, undef, undef, undef] from rfl]
  have HU := Lib.hid hu
  clear hu
  set_option maxRecDepth 100000 in
  go_wp2
  have hu := HU.out
  cases c₀
  simp_all [bodyPostS, results, Try.results91]
/-- The closure that takes back the numbers where something went wrong. -/
theorem numbers_1_ok (u : FrameMode) (b c : Nat) (w : World) (hc : w.cell? ⟨b, 0, none⟩ = some (.int .i64 0)) :
    CallsD Try.prog 90 #[.pointer (some ⟨b, 0, none⟩), .pointer (some ⟨c, 0, none⟩)] u w fun e u' w' => u' = u ∧ (e = .returned (.tuple #[]) ∧ w' = w) := by
  go_enter_d Try.func90, Try.ntmps90
  go_wp2
  go_end0
  exact ⟨rfl, rfl⟩
theorem numbers_1_bad (u : FrameMode) (b c : Nat) (n : Int) (hn : n ≠ 0) (v : Value) (w : World) (hc : w.cell? ⟨b, 0, none⟩ = some (.int .i64 n)) (hv : w.cell? ⟨c, 0, none⟩ = some v) (hz : w.frozen? ⟨c, 0, none⟩ = false) :
    CallsD Try.prog 90 #[.pointer (some ⟨b, 0, none⟩), .pointer (some ⟨c, 0, none⟩)] u w fun e u' w' => u' = u ∧ (e = .returned (.tuple #[]) ∧ w' = w.setCell ⟨c, 0, none⟩ (.slice none 0 0)) := by
  have h1 : (n != 0) = true := by simpa using hn
  go_enter_d Try.func90, Try.ntmps90
  go_wp2
  go_end0
  exact ⟨rfl, rfl⟩
/-- The next number of a wire type: its bits, where it ends, what is wrong. -/
def nextN (wire : Int) (l : List Int) (at_ upto : Int) : Option (Int × Int × Int) :=
  if wire = 1 then varint_Unfix.f 20 l at_ upto 8 else if wire = 5 then varint_Unfix.f 20 l at_ upto 4 else varint_Get.f 20 l at_ upto
set_option maxHeartbeats 1000000 in
theorem next_ok (wire : Int) (A : Option Addr) (c : Nat) (l : List Int) (at_ upto n to_ : Int) (w : World) (hr : Kd.C (Kd.int .u8) w A l.length l) (hc : l.length ≤ c) (h : nextN wire l at_ upto = some (n, to_, 0)) :
    Calls Try.prog 92 #[.int .i64 wire, .slice A l.length c, .int .i64 at_, .int .i64 upto] w fun e w' => e = .returned (.tuple #[.int .u64 n, .int .i64 to_]) ∧ Below w.heap.size w w' := by
  unfold nextN at h
  have HR := Lib.hid hr
  have HC := Lib.hid hc
  clear hr hc
  by_cases h1 : wire = 1
  · rw [if_pos h1] at h
    have HX := Lib.hid h
    subst h1
    clear h
    go_enter Try.func92, Try.ntmps92
    go_wp2_with (first | (go_at_call 89; (with_reducible refine (varint_Unfix.calls 20 _ _ _ _ _ _ _ _ _ _ HR.out HC.out HX.out).mono ?_); rintro e w' ⟨rfl, ⟨nq, rfl⟩⟩) | (go_at_call 96; (with_reducible refine (must_ok _).mono ?_); rintro e w' ⟨rfl, rfl⟩))
    go_ret2
    exact ⟨rfl, pw_below_drewN (Below.refl _ _) _⟩
  · rw [if_neg h1] at h
    have g1 : (wire == 1) = false := by simpa using h1
    by_cases h5 : wire = 5
    · rw [if_pos h5] at h
      have HX := Lib.hid h
      subst h5
      clear h g1
      go_enter Try.func92, Try.ntmps92
      go_wp2_with (first | (go_at_call 89; (with_reducible refine (varint_Unfix.calls 20 _ _ _ _ _ _ _ _ _ _ HR.out HC.out HX.out).mono ?_); rintro e w' ⟨rfl, ⟨nq, rfl⟩⟩) | (go_at_call 96; (with_reducible refine (must_ok _).mono ?_); rintro e w' ⟨rfl, rfl⟩))
      go_ret2
      exact ⟨rfl, pw_below_drewN (Below.refl _ _) _⟩
    · rw [if_neg h5] at h
      have g5 : (wire == 5) = false := by simpa using h5
      have HX := Lib.hid h
      clear h
      go_enter Try.func92, Try.ntmps92
      go_wp2_with (first | (go_at_call 88; (with_reducible refine (varint_Get.calls 20 _ _ _ _ _ _ _ _ _ HR.out HC.out HX.out).mono ?_); rintro e w' ⟨rfl, ⟨nq, rfl⟩⟩) | (go_at_call 96; (with_reducible refine (must_ok _).mono ?_); rintro e w' ⟨rfl, rfl⟩))
      go_ret2
      exact ⟨rfl, pw_below_drewN (Below.refl _ _) _⟩
set_option maxHeartbeats 1000000 in
theorem next_bad (wire : Int) (A : Option Addr) (c : Nat) (l : List Int) (at_ upto n to_ x : Int) (hx : x ≠ 0) (w : World) (hr : Kd.C (Kd.int .u8) w A l.length l) (hc : l.length ≤ c) (h : nextN wire l at_ upto = some (n, to_, x)) :
    Calls Try.prog 92 #[.int .i64 wire, .slice A l.length c, .int .i64 at_, .int .i64 upto] w fun e w' => e = .panicked [{ v := wrongV x, recovered := false }] ∧ Below w.heap.size w w' := by
  unfold nextN at h
  have HR := Lib.hid hr
  have HC := Lib.hid hc
  clear hr hc
  by_cases h1 : wire = 1
  · rw [if_pos h1] at h
    have HX := Lib.hid h
    subst h1
    clear h
    go_enter Try.func92, Try.ntmps92
    go_wp2_with (first | (go_at_call 89; (with_reducible refine (varint_Unfix.calls 20 _ _ _ _ _ _ _ _ _ _ HR.out HC.out HX.out).mono ?_); rintro e w' ⟨rfl, ⟨nq, rfl⟩⟩) | (go_at_call 96; (with_reducible refine (must_bad x hx _).mono ?_); rintro e w' ⟨rfl, rfl⟩))
    simp only [bodyPost]
    exact ⟨trivial, trivial, pw_below_drewN (Below.refl _ _) _⟩
  · rw [if_neg h1] at h
    have g1 : (wire == 1) = false := by simpa using h1
    by_cases h5 : wire = 5
    · rw [if_pos h5] at h
      have HX := Lib.hid h
      subst h5
      clear h g1
      go_enter Try.func92, Try.ntmps92
      go_wp2_with (first | (go_at_call 89; (with_reducible refine (varint_Unfix.calls 20 _ _ _ _ _ _ _ _ _ _ HR.out HC.out HX.out).mono ?_); rintro e w' ⟨rfl, ⟨nq, rfl⟩⟩) | (go_at_call 96; (with_reducible refine (must_bad x hx _).mono ?_); rintro e w' ⟨rfl, rfl⟩))
      simp only [bodyPost]
      exact ⟨trivial, trivial, pw_below_drewN (Below.refl _ _) _⟩
    · rw [if_neg h5] at h
      have g5 : (wire == 5) = false := by simpa using h5
      have HX := Lib.hid h
      clear h
      go_enter Try.func92, Try.ntmps92
      go_wp2_with (first | (go_at_call 88; (with_reducible refine (varint_Get.calls 20 _ _ _ _ _ _ _ _ _ HR.out HC.out HX.out).mono ?_); rintro e w' ⟨rfl, ⟨nq, rfl⟩⟩) | (go_at_call 96; (with_reducible refine (must_bad x hx _).mono ?_); rintro e w' ⟨rfl, rfl⟩))
      simp only [bodyPost]
      exact ⟨trivial, trivial, pw_below_drewN (Below.refl _ _) _⟩
/-- The numbers of bytes, one behind the other. -/
def numLoop (kind : Int) (l : List Int) (upto : Int) : Nat → Int → List Int → Option (List Int × Int)
  | 0, _, _ => none
  | k + 1, at_, acc =>
    if at_ < upto then
      (nextN (wireOf kind) l at_ upto).bind fun r =>
        if r.2.2 = 0 then (if isU64 r.1 = true then (if acc.length < 17592186044416 then numLoop kind l upto k r.2.1 (acc ++ [ofN kind r.1]) else none) else none) else some ([], r.2.2)
    else some (acc, 0)
/-- What decode.Numbers refuses at once. -/
def numBad (kind : Int) (l : List Int) (at_ upto : Int) : Bool := !kindIn kind || decide (at_ < 0) || decide (upto < at_) || decide ((l.length : Int) < upto)
def decode_Numbers.f (a0 : Int) (l1 : List Int) (a2 : Int) (a3 : Int) : Option (List Int × Int) := if numBad a0 l1 a2 a3 = true then some ([], 1) else numLoop a0 l1 a3 (l1.length + 1) a2 []
theorem conv_of_0 (k : Int) (w : World) : Calls Try.prog 78 #[.int .i64 k, .int .u64 0] w fun e w' => ∃ n, e = .returned (.tuple #[.int .i64 n, .bool (kindIn k)]) ∧ Below w.heap.size w w' :=
  (conv_Of.calls k 0 _ _ w (by unfold conv_Of.f; rw [if_pos (by decide)])).mono fun e w' h => ⟨_, h⟩
theorem info_i64 : (Try.prog.info? 2).map (fun i => (i.zero, i.size, i.bytes)) = some (some (.int .i64 0), 1, 8) := by kernel_rfl
/-- Behind the body that returns: caught finds nothing, the closure takes back the numbers if there is an error. -/
theorem door_ret_ok (tmps : Array Value) (R : Ending → World → Prop) (b8 b9 : Nat) (v : Value) (W : World) (h8 : tmps.getD 8 undef = .pointer (some ⟨b8, 0, none⟩)) (h9 : tmps.getD 9 undef = .pointer (some ⟨b9, 0, none⟩))
    (c8 : W.cell? ⟨b8, 0, none⟩ = some v) (c9 : W.cell? ⟨b9, 0, none⟩ = some (.int .i64 0)) (hR : R (.returned (.tuple #[v, .int .i64 0])) W) :
    Leaves Try.prog Try.f75 tmps R [{ target := Target.fn (Fn.func 91) #[], args := #[.pointer (some ⟨b9, 0, none⟩)] }, { target := Target.fn (Fn.func 90) #[.pointer (some ⟨b9, 0, none⟩), .pointer (some ⟨b8, 0, none⟩)], args := #[] }] .returning W := by
  refine leaves_cons (f := 91) (args := #[.pointer (some ⟨b9, 0, none⟩)]) (by simp) (by simp [go_sem]) ?_
  refine (caught_idle b9 W).mono ?_
  rintro e u' w'' ⟨rfl, rfl, rfl⟩
  refine leaves_cons (f := 90) (args := #[.pointer (some ⟨b9, 0, none⟩), .pointer (some ⟨b8, 0, none⟩)]) (by simp [settle]) (by simp [go_sem]) ?_
  refine (numbers_1_ok _ b9 b8 w'' c9).mono ?_
  rintro e u' w3 ⟨rfl, rfl, rfl⟩
  have h8' : tmps[8]?.getD undef = .pointer (some ⟨b8, 0, none⟩) := by simpa using h8
  have h9' : tmps[9]?.getD undef = .pointer (some ⟨b9, 0, none⟩) := by simpa using h9
  simp [Leaves, settle, results, Try.results75, go_sem, h8', h9', c8, c9, hR]
theorem door_ret_bad (tmps : Array Value) (R : Ending → World → Prop) (b8 b9 : Nat) (v : Value) (n : Int) (hn : n ≠ 0) (W : World) (h8 : tmps.getD 8 undef = .pointer (some ⟨b8, 0, none⟩)) (h9 : tmps.getD 9 undef = .pointer (some ⟨b9, 0, none⟩)) (hne : b9 ≠ b8)
    (c8 : W.cell? ⟨b8, 0, none⟩ = some v) (z8 : W.frozen? ⟨b8, 0, none⟩ = false) (c9 : W.cell? ⟨b9, 0, none⟩ = some (.int .i64 n)) (hR : R (.returned (.tuple #[.slice none 0 0, .int .i64 n])) (W.setCell ⟨b8, 0, none⟩ (.slice none 0 0))) :
    Leaves Try.prog Try.f75 tmps R [{ target := Target.fn (Fn.func 91) #[], args := #[.pointer (some ⟨b9, 0, none⟩)] }, { target := Target.fn (Fn.func 90) #[.pointer (some ⟨b9, 0, none⟩), .pointer (some ⟨b8, 0, none⟩)], args := #[] }] .returning W := by
  refine leaves_cons (f := 91) (args := #[.pointer (some ⟨b9, 0, none⟩)]) (by simp) (by simp [go_sem]) ?_
  refine (caught_idle b9 W).mono ?_
  rintro e u' w'' ⟨rfl, rfl, rfl⟩
  refine leaves_cons (f := 90) (args := #[.pointer (some ⟨b9, 0, none⟩), .pointer (some ⟨b8, 0, none⟩)]) (by simp [settle]) (by simp [go_sem]) ?_
  refine (numbers_1_bad _ b9 b8 n hn v w'' c9 c8 z8).mono ?_
  rintro e u' w3 ⟨rfl, rfl, rfl⟩
  have h8' : tmps[8]?.getD undef = .pointer (some ⟨b8, 0, none⟩) := by simpa using h8
  have h9' : tmps[9]?.getD undef = .pointer (some ⟨b9, 0, none⟩) := by simpa using h9
  have d8 : (w''.setCell ⟨b8, 0, none⟩ (.slice none 0 0)).cell? ⟨b8, 0, none⟩ = some (.slice none 0 0) := World.cell?_setCell_same' _ _ _ (by rw [c8]; rfl)
  have d9 : (w''.setCell ⟨b8, 0, none⟩ (.slice none 0 0)).cell? ⟨b9, 0, none⟩ = some (.int .i64 n) := (cell_far (p := ⟨b8, 0, none⟩) (a := ⟨b9, 0, none⟩) hne _).trans c9
  simp [Leaves, settle, results, Try.results75, go_sem, h8', h9', d8, d9, hR]
/-- Behind a body that went wrong: caught tells what, the closure takes back the numbers. -/
theorem door_panic (tmps : Array Value) (R : Ending → World → Prop) (b8 b9 : Nat) (v : Value) (y n : Int) (hn : n ≠ 0) (W : World) (h8 : tmps.getD 8 undef = .pointer (some ⟨b8, 0, none⟩)) (h9 : tmps.getD 9 undef = .pointer (some ⟨b9, 0, none⟩)) (hne : b9 ≠ b8)
    (c8 : W.cell? ⟨b8, 0, none⟩ = some v) (z8 : W.frozen? ⟨b8, 0, none⟩ = false) (c9 : W.cell? ⟨b9, 0, none⟩ = some (.int .i64 y)) (z9 : W.frozen? ⟨b9, 0, none⟩ = false) (l8 : b8 < W.heap.size) (l9 : b9 < W.heap.size)
    (hR : R (.returned (.tuple #[.slice none 0 0, .int .i64 n])) (((W.setCell ⟨b9, 0, none⟩ (.int .i64 n)).alloc (.cells #[.int .i64 n] 166)).setCell ⟨b8, 0, none⟩ (.slice none 0 0))) :
    Leaves Try.prog Try.f75 tmps R [{ target := Target.fn (Fn.func 91) #[], args := #[.pointer (some ⟨b9, 0, none⟩)] }, { target := Target.fn (Fn.func 90) #[.pointer (some ⟨b9, 0, none⟩), .pointer (some ⟨b8, 0, none⟩)], args := #[] }] (.panicking [{ v := wrongV n, recovered := false }]) W := by
  refine leaves_cons (f := 91) (args := #[.pointer (some ⟨b9, 0, none⟩)]) (by simp) (by simp [go_sem]) ?_
  refine (caught_panicking b9 y n [] W c9 z9).mono ?_
  rintro e u' w'' ⟨rfl, rfl, rfl⟩
  have bel := (Below.refl (W.setCell ⟨b9, 0, none⟩ (.int .i64 n)).heap.size (W.setCell ⟨b9, 0, none⟩ (.int .i64 n))).alloc (Nat.le_refl _) (.cells #[.int .i64 n] 166)
  have hs : (W.setCell ⟨b9, 0, none⟩ (.int .i64 n)).heap.size = W.heap.size := by simp
  have e9 : (W.setCell ⟨b9, 0, none⟩ (.int .i64 n)).cell? ⟨b9, 0, none⟩ = some (.int .i64 n) := World.cell?_setCell_same' _ _ _ (by rw [c9]; rfl)
  have e8 : (W.setCell ⟨b9, 0, none⟩ (.int .i64 n)).cell? ⟨b8, 0, none⟩ = some v := (cell_far (p := ⟨b9, 0, none⟩) (a := ⟨b8, 0, none⟩) (Ne.symm hne) _).trans c8
  have d9 := (bel.cell (p := ⟨b9, 0, none⟩) (by rw [hs]; exact l9)).trans e9
  have d8 := (bel.cell (p := ⟨b8, 0, none⟩) (by rw [hs]; exact l8)).trans e8
  have y8 := (bel.frozen (p := ⟨b8, 0, none⟩) (by rw [hs]; exact l8)).trans (show _ = false by simpa [go_sem] using z8)
  generalize (W.setCell ⟨b9, 0, none⟩ (.int .i64 n)).alloc (.cells #[.int .i64 n] 166) = W2 at *
  refine leaves_cons (f := 90) (args := #[.pointer (some ⟨b9, 0, none⟩), .pointer (some ⟨b8, 0, none⟩)]) (by simp [settle]) (by simp [go_sem]) ?_
  refine (numbers_1_bad _ b9 b8 n hn v W2 d9 d8 y8).mono ?_
  rintro e u' w3 ⟨rfl, rfl, rfl⟩
  have h8' : tmps[8]?.getD undef = .pointer (some ⟨b8, 0, none⟩) := by simpa using h8
  have h9' : tmps[9]?.getD undef = .pointer (some ⟨b9, 0, none⟩) := by simpa using h9
  have g8 : (W2.setCell ⟨b8, 0, none⟩ (.slice none 0 0)).cell? ⟨b8, 0, none⟩ = some (.slice none 0 0) := World.cell?_setCell_same' _ _ _ (by rw [d8]; rfl)
  have g9 : (W2.setCell ⟨b8, 0, none⟩ (.slice none 0 0)).cell? ⟨b9, 0, none⟩ = some (.int .i64 n) := (cell_far (p := ⟨b8, 0, none⟩) (a := ⟨b9, 0, none⟩) hne _).trans d9
  simp [Leaves, settle, results, Try.results75, go_sem, h8', h9', g8, g9, hR]
section
attribute [local go_sem] run_store
set_option maxHeartbeats 4000000 in
set_option maxRecDepth 100000 in
theorem numbers_bad (a0 : Int) (A1 : Option Addr) (c1 : Nat) (l1 : List Int) (a2 a3 : Int) (w : World) (hb : numBad a0 l1 a2 a3 = true) :
    Calls Try.prog 75 #[.int .i64 a0, .slice A1 l1.length c1, .int .i64 a2, .int .i64 a3] w fun e w' => e = .returned (.tuple #[.slice none 0 0, .int .i64 1]) ∧ Below w.heap.size w w' := by
  have hmf : ∀ (fn : Fn) (first cap : Array Value) (w : World), (Instr.makeFunc fn first cap).run Try.prog w = .ok (.func fn first cap) w := fun _ _ _ _ => rfl
  have HO := Lib.hid fun w => conv_of_0 a0 w
  unfold numBad at hb
  rcases hk : kindIn a0 with _ | _
  · rw [hk] at HO
    clear hb
    go_enter_defers Try.func75, Try.ntmps75
    go_wp2_with (first | (go_at_call 78; (with_reducible refine (HO.out _).mono ?_); rintro e w' ⟨n0, rfl, b1⟩; have BO := Lib.hid (blk_below (blk_two0 _ _ _) b1); have BE := Lib.hid (blk_below (blk_two _ _ _) b1); have BB := Lib.hid ((below2 _ _ _).nx b1); clear b1; have c0 := (blk_cell BO.out 0).trans rfl; have c1' := (blk_cell BE.out 0).trans rfl; have f0 := blk_frozen BO.out 0; have f1 := blk_frozen BE.out 0))
    have g0 : (w'.setCell ⟨w.heap.size, 0, none⟩ (.slice none 0 0)).heap[w.heap.size]? = some (.cells #[.slice none 0 0] 79 (0, 0)) := blk_put BO.out 0 _ rfl
    refine door_ret_bad _ _ w.heap.size (w.heap.size + 1) (.slice none 0 0) 1 (by decide) _ rfl rfl (by omega) ((blk_cell (blk_far (p := ⟨w.heap.size + 1, 0, none⟩) g0 (by simp) _) 0).trans rfl) (blk_frozen (blk_far (p := ⟨w.heap.size + 1, 0, none⟩) g0 (by simp) _) 0) ((blk_cell (blk_put (cs' := #[.int .i64 1]) (blk_far (p := ⟨w.heap.size, 0, none⟩) BE.out (by simp) _) 0 _ rfl) 0).trans rfl) ⟨rfl, ?_⟩
    exact ((BB.out.setCell (p := ⟨w.heap.size, 0, none⟩) (Nat.le_refl _) _).setCell (p := ⟨w.heap.size + 1, 0, none⟩) (by simp) _).setCell (p := ⟨w.heap.size, 0, none⟩) (Nat.le_refl _) _
  · rw [hk] at HO hb
    by_cases h2 : a2 < 0
    · clear hb
      have d2 : decide (a2 < 0) = true := by simpa using h2
      go_enter_defers Try.func75, Try.ntmps75
      go_wp2_with (first | (go_at_call 78; (with_reducible refine (HO.out _).mono ?_); rintro e w' ⟨n0, rfl, b1⟩; have BO := Lib.hid (blk_below (blk_two0 _ _ _) b1); have BE := Lib.hid (blk_below (blk_two _ _ _) b1); have BB := Lib.hid ((below2 _ _ _).nx b1); clear b1; have c0 := (blk_cell BO.out 0).trans rfl; have c1' := (blk_cell BE.out 0).trans rfl; have f0 := blk_frozen BO.out 0; have f1 := blk_frozen BE.out 0))
      have g0 : (w'.setCell ⟨w.heap.size, 0, none⟩ (.slice none 0 0)).heap[w.heap.size]? = some (.cells #[.slice none 0 0] 79 (0, 0)) := blk_put BO.out 0 _ rfl
      refine door_ret_bad _ _ w.heap.size (w.heap.size + 1) (.slice none 0 0) 1 (by decide) _ rfl rfl (by omega) ((blk_cell (blk_far (p := ⟨w.heap.size + 1, 0, none⟩) g0 (by simp) _) 0).trans rfl) (blk_frozen (blk_far (p := ⟨w.heap.size + 1, 0, none⟩) g0 (by simp) _) 0) ((blk_cell (blk_put (cs' := #[.int .i64 1]) (blk_far (p := ⟨w.heap.size, 0, none⟩) BE.out (by simp) _) 0 _ rfl) 0).trans rfl) ⟨rfl, ?_⟩
      exact ((BB.out.setCell (p := ⟨w.heap.size, 0, none⟩) (Nat.le_refl _) _).setCell (p := ⟨w.heap.size + 1, 0, none⟩) (by simp) _).setCell (p := ⟨w.heap.size, 0, none⟩) (Nat.le_refl _) _
    · have d2 : decide (a2 < 0) = false := by simpa using h2
      by_cases h3 : a3 < a2
      · clear hb
        have d3 : decide (a3 < a2) = true := by simpa using h3
        go_enter_defers Try.func75, Try.ntmps75
        go_wp2_with (first | (go_at_call 78; (with_reducible refine (HO.out _).mono ?_); rintro e w' ⟨n0, rfl, b1⟩; have BO := Lib.hid (blk_below (blk_two0 _ _ _) b1); have BE := Lib.hid (blk_below (blk_two _ _ _) b1); have BB := Lib.hid ((below2 _ _ _).nx b1); clear b1; have c0 := (blk_cell BO.out 0).trans rfl; have c1' := (blk_cell BE.out 0).trans rfl; have f0 := blk_frozen BO.out 0; have f1 := blk_frozen BE.out 0))
        have g0 : (w'.setCell ⟨w.heap.size, 0, none⟩ (.slice none 0 0)).heap[w.heap.size]? = some (.cells #[.slice none 0 0] 79 (0, 0)) := blk_put BO.out 0 _ rfl
        refine door_ret_bad _ _ w.heap.size (w.heap.size + 1) (.slice none 0 0) 1 (by decide) _ rfl rfl (by omega) ((blk_cell (blk_far (p := ⟨w.heap.size + 1, 0, none⟩) g0 (by simp) _) 0).trans rfl) (blk_frozen (blk_far (p := ⟨w.heap.size + 1, 0, none⟩) g0 (by simp) _) 0) ((blk_cell (blk_put (cs' := #[.int .i64 1]) (blk_far (p := ⟨w.heap.size, 0, none⟩) BE.out (by simp) _) 0 _ rfl) 0).trans rfl) ⟨rfl, ?_⟩
        exact ((BB.out.setCell (p := ⟨w.heap.size, 0, none⟩) (Nat.le_refl _) _).setCell (p := ⟨w.heap.size + 1, 0, none⟩) (by simp) _).setCell (p := ⟨w.heap.size, 0, none⟩) (Nat.le_refl _) _
      · have d3 : decide (a3 < a2) = false := by simpa using h3
        have d4 : decide ((l1.length : Int) < a3) = true := by simpa [h2, h3] using hb
        clear hb
        go_enter_defers Try.func75, Try.ntmps75
        go_wp2_with (first | (go_at_call 78; (with_reducible refine (HO.out _).mono ?_); rintro e w' ⟨n0, rfl, b1⟩; have BO := Lib.hid (blk_below (blk_two0 _ _ _) b1); have BE := Lib.hid (blk_below (blk_two _ _ _) b1); have BB := Lib.hid ((below2 _ _ _).nx b1); clear b1; have c0 := (blk_cell BO.out 0).trans rfl; have c1' := (blk_cell BE.out 0).trans rfl; have f0 := blk_frozen BO.out 0; have f1 := blk_frozen BE.out 0))
        have g0 : (w'.setCell ⟨w.heap.size, 0, none⟩ (.slice none 0 0)).heap[w.heap.size]? = some (.cells #[.slice none 0 0] 79 (0, 0)) := blk_put BO.out 0 _ rfl
        refine door_ret_bad _ _ w.heap.size (w.heap.size + 1) (.slice none 0 0) 1 (by decide) _ rfl rfl (by omega) ((blk_cell (blk_far (p := ⟨w.heap.size + 1, 0, none⟩) g0 (by simp) _) 0).trans rfl) (blk_frozen (blk_far (p := ⟨w.heap.size + 1, 0, none⟩) g0 (by simp) _) 0) ((blk_cell (blk_put (cs' := #[.int .i64 1]) (blk_far (p := ⟨w.heap.size, 0, none⟩) BE.out (by simp) _) 0 _ rfl) 0).trans rfl) ⟨rfl, ?_⟩
        exact ((BB.out.setCell (p := ⟨w.heap.size, 0, none⟩) (Nat.le_refl _) _).setCell (p := ⟨w.heap.size + 1, 0, none⟩) (by simp) _).setCell (p := ⟨w.heap.size, 0, none⟩) (Nat.le_refl _) _
set_option maxHeartbeats 4000000 in
set_option maxRecDepth 100000 in
theorem numbers_fine (a0 : Int) (A1 : Option Addr) (c1 : Nat) (l1 : List Int) (a2 a3 : Int) (r1 : List Int) (r2 : Int) (w : World) (hr1 : Kd.C (Kd.int .u8) w A1 l1.length l1) (hc1 : l1.length ≤ c1) (hk : kindIn a0 = true) (h2 : 0 ≤ a2) (h3 : a2 ≤ a3) (h4 : a3 ≤ l1.length) (K : Nat) (h : numLoop a0 l1 a3 K a2 [] = some (r1, r2)) :
    Calls Try.prog 75 #[.int .i64 a0, .slice A1 l1.length c1, .int .i64 a2, .int .i64 a3] w fun e w' => ∃ v0_ : Value, e = .returned (.tuple #[v0_, .int .i64 r2]) ∧ Kd.R (Kd.int .i64) 2 w' w.heap.size (fun _ => True) v0_ r1 ∧ Below w.heap.size w w' := by
  have hmf : ∀ (fn : Fn) (first cap : Array Value) (w : World), (Instr.makeFunc fn first cap).run Try.prog w = .ok (.func fn first cap) w := fun _ _ _ _ => rfl
  have HO := Lib.hid fun w => conv_of_0 a0 w
  rw [hk] at HO
  have HR := Lib.hid hr1
  have HC := Lib.hid hc1
  have HK := Lib.hid hk
  have H' := Aside0.mk h
  clear hr1 hc1 hk h
  have d2 : decide (a2 < 0) = false := by simp; omega
  have d3 : decide (a3 < a2) = false := by simp; omega
  have d4 : decide ((l1.length : Int) < a3) = false := by simp; omega
  go_enter_defers Try.func75, Try.ntmps75
  go_wp2_with (first | (go_at_call 78; (with_reducible refine (HO.out _).mono ?_); rintro e w' ⟨n0, rfl, b1⟩; have BO := Lib.hid (blk_below (blk_two0 _ _ _) b1); have BE := Lib.hid (blk_below (blk_two _ _ _) b1); have BB := Lib.hid ((below2 _ _ _).nx b1); clear b1))
  have base : Aside0 (w.heap.size + 1 < w'.heap.size) := ⟨blk_lt BE.out⟩
  have HN := Lib.hid (Kd.R_nil (Kd.int .i64) 2 w' w.heap.size (fun k => w.heap.size + 2 ≤ k))
  go_loopg [2] K (fun kq v2 wr => ∃ (x2 : Int) (acc : List Int) (vo : Value), v2 = .int .i64 x2 ∧ Aside0 (numLoop a0 l1 a3 kq x2 acc = some (r1, r2)) ∧ Aside0 (kq ≤ K) ∧ Aside0 (wr.heap[w.heap.size]? = some (.cells #[vo] 79 (0, 0))) ∧ Aside0 (wr.heap[w.heap.size + 1]? = some (.cells #[.int .i64 0] 29 (0, 0))) ∧ Aside0 (Kd.R (Kd.int .i64) 2 wr w.heap.size (fun k => w.heap.size + 2 ≤ k) vo acc) ∧ Aside0 (Below w.heap.size w wr))
  case atStart => exact ⟨a2, [], .slice none 0 0, rfl, H', ⟨Nat.le_refl _⟩, ⟨BO.out⟩, ⟨BE.out⟩, ⟨HN.out⟩, ⟨BB.out⟩⟩
  case round =>
    clear H' HN BO BE BB base
    obtain ⟨x2, acc, vo, rfl, HA, HK1, BO, BE, HV, BB⟩ := hrel
    cases gk with
    | zero => exact absurd HA.out (by simp [numLoop])
    | succ k1 =>
      have H := HA.out
      clear HA
      simp only [numLoop] at H
      by_cases c7 : x2 < a3
      · rw [if_pos c7] at H
        have c7b0 : decide (x2 < a3) = true := decide_eq_true c7
        clear c7
        replace H := Option.bind_eq_some_iff.mp H
        obtain ⟨⟨n, to_, x⟩, A10, H⟩ := H
        replace H : (if x = 0 then (if isU64 n = true then (if acc.length < 17592186044416 then numLoop a0 l1 a3 k1 to_ (acc ++ [ofN a0 n]) else none) else none) else some ([], x)) = some (r1, r2) := H
        have A1' := Aside0.mk A10
        clear A10
        by_cases hx : x = 0
        · rw [if_pos hx] at H
          subst hx
          by_cases hu : isU64 n = true
          · rw [if_pos hu] at H
            by_cases hl : acc.length < 17592186044416
            · rw [if_pos hl] at H
              have HL := Aside0.mk hl
              have H' := Aside0.mk H
              have OF : Aside0 (conv_Of.f a0 n = some (ofN a0 n, true)) := ⟨by unfold conv_Of.f; rw [if_pos hu, HK.out]; rfl⟩
              clear hl H hu
              go_wp2_with (first
                | (go_at_call 76; (with_reducible refine (conv_Wire.calls a0 (wireOf a0) _ rfl).mono ?_); rintro e w2 ⟨rfl, b1⟩; have BO1 := Aside0.mk (blk_below BO.out b1); have BE1 := Aside0.mk (blk_below BE.out b1); have HV1 := Aside0.mk (Kd.R_below HV.out b1); have BB1 := Aside0.mk (BB.out.nx b1); clear b1 BO BE HV BB; have BO := BO1; have BE := BE1; have HV := HV1; have BB := BB1; clear BO1 BE1 HV1 BB1)
                | (go_at_call 92; (with_reducible refine (next_ok _ _ _ _ _ _ n to_ _ (Kd.C_below HR.out BB.out) HC.out A1'.out).mono ?_); rintro e w2 ⟨rfl, b1⟩; have BO1 := Aside0.mk (blk_below BO.out b1); have BE1 := Aside0.mk (blk_below BE.out b1); have HV1 := Aside0.mk (Kd.R_below HV.out b1); have BB1 := Aside0.mk (BB.out.nx b1); clear b1 BO BE HV BB; have BO := BO1; have BE := BE1; have HV := HV1; have BB := BB1; clear BO1 BE1 HV1 BB1)
                | (go_at_call 78; (with_reducible refine (conv_Of.calls a0 n (ofN a0 n) true _ OF.out).mono ?_); rintro e w2 ⟨rfl, b1⟩; have BO1 := Aside0.mk (blk_below BO.out b1); have BE1 := Aside0.mk (blk_below BE.out b1); have HV1 := Aside0.mk (Kd.R_below HV.out b1); have BB1 := Aside0.mk (BB.out.nx b1); clear b1 BO BE HV BB; have BO := BO1; have BE := BE1; have HV := HV1; have BB := BB1; clear BO1 BE1 HV1 BB1; have q0 : w2.cell? ⟨w.heap.size, 0, none⟩ = some vo := (blk_cell BO.out 0).trans rfl; have l0 := blk_lt BO.out)
                | (at_builtin; refine Kd.R_append (Kd.int .i64) (w0 := w) w.heap.size rfl (.tmp 56) (.tmp 58) 79 2 (.int .i64 0) 8 rfl Try.underlying79 info_i64 rfl (by decide) (by decide) vo acc (ofN a0 n) [.int .i64 (ofN a0 n)] (fun k => w.heap.size + 2 ≤ k) (fun _ => False) rfl rfl rfl (fun _ hk => hk.elim) (fun k hk => by have := blk_lt BE.out; omega) HV.out BB.out BB.out.size (by have := HL.out; omega) ?_; intro v1 w3 HV3 BB3 hg3 _; obtain ⟨A3, c3, e3⟩ := Kd.R_slice HV3; rw [List.length_append, List.length_singleton] at e3; subst e3; have hne : ∀ k, k < w.heap.size + 2 → some k ≠ vo.ownBlock := (fun k hk e => by have h2 : w.heap.size + 2 ≤ k := HV.out.1 k e.symm; omega); have BO3 := Aside0.mk ((hg3.block _ (blk_lt BO.out) (hne _ (by omega))).trans BO.out); have BE3 := Aside0.mk ((hg3.block _ (blk_lt BE.out) (hne _ (by omega))).trans BE.out); have HV4 := Aside0.mk HV3; have BB4 := Aside0.mk BB3; clear hne hg3 HV3 BB3 BO BE HV BB q0 l0; have q3 : w3.cell? ⟨w.heap.size, 0, none⟩ = some vo := (blk_cell BO3.out 0).trans rfl; have f3 := blk_frozen BO3.out 0; have l3 := blk_lt BO3.out))
              go_roundg k1
              case measure => have := HK1.out; omega
              case rel => exact ⟨to_, _, _, rfl, H', ⟨by have := HK1.out; omega⟩, ⟨blk_put BO3.out 0 _ rfl⟩, ⟨blk_far (p := ⟨w.heap.size, 0, none⟩) BE3.out (by simp) _⟩, ⟨Kd.R_far (p := ⟨w.heap.size, 0, none⟩) HV4.out (fun k hk => by have : w.heap.size + 2 ≤ k := hk; show k ≠ w.heap.size; omega) _⟩, ⟨BB4.out.setCell (p := ⟨w.heap.size, 0, none⟩) (Nat.le_refl _) _⟩⟩
            · rw [if_neg hl] at H; cases H
          · rw [if_neg hu] at H; cases H
        · rw [if_neg hx] at H
          obtain ⟨rfl, rfl⟩ : [] = r1 ∧ x = r2 := by have := Option.some.inj H; simpa using this
          clear H
          go_wp2_with (first
            | (go_at_call 76; (with_reducible refine (conv_Wire.calls a0 (wireOf a0) _ rfl).mono ?_); rintro e w2 ⟨rfl, b1⟩; have BO1 := Aside0.mk (blk_below BO.out b1); have BE1 := Aside0.mk (blk_below BE.out b1); have HV1 := Aside0.mk (Kd.R_below HV.out b1); have BB1 := Aside0.mk (BB.out.nx b1); clear b1 BO BE HV BB; have BO := BO1; have BE := BE1; have HV := HV1; have BB := BB1; clear BO1 BE1 HV1 BB1)
            | (go_at_call 92; (with_reducible refine (next_bad _ _ _ _ _ _ n to_ x hx _ (Kd.C_below HR.out BB.out) HC.out A1'.out).mono ?_); rintro e w2 ⟨rfl, b1⟩; have BO1 := Aside0.mk (blk_below BO.out b1); have BE1 := Aside0.mk (blk_below BE.out b1); have BB1 := Aside0.mk (BB.out.nx b1); clear b1 BO BE HV BB; have BO := BO1; have BE := BE1; have BB := BB1; clear BO1 BE1 BB1))
          refine door_panic _ _ w.heap.size (w.heap.size + 1) vo 0 x hx w2 rfl rfl (by omega) ((blk_cell BO.out 0).trans rfl) (blk_frozen BO.out 0) ((blk_cell BE.out 0).trans rfl) (blk_frozen BE.out 0) (blk_lt BO.out) (blk_lt BE.out) ⟨.slice none 0 0, rfl, Kd.R_nil _ _ _ _ _, ?_⟩
          have b1 := BB.out.setCell (p := ⟨w.heap.size + 1, 0, none⟩) (show w.heap.size ≤ w.heap.size + 1 by omega) (.int .i64 x)
          exact (b1.alloc b1.size _).setCell (p := ⟨w.heap.size, 0, none⟩) (Nat.le_refl _) _
      · rw [if_neg c7] at H
        have c7b0 : decide (x2 < a3) = false := decide_eq_false c7
        clear c7
        obtain ⟨rfl, rfl⟩ : acc = r1 ∧ 0 = r2 := by have := Option.some.inj H; simpa using this
        clear H
        obtain ⟨A3, c3, rfl⟩ := Kd.R_slice HV.out
        have q0 : wr.cell? ⟨w.heap.size, 0, none⟩ = some (.slice A3 acc.length c3) := (blk_cell BO.out 0).trans rfl
        have q1 : wr.cell? ⟨w.heap.size + 1, 0, none⟩ = some (.int .i64 0) := (blk_cell BE.out 0).trans rfl
        have f0 := blk_frozen BO.out 0
        have f1 := blk_frozen BE.out 0
        have l0 := blk_lt BO.out
        have l1' := blk_lt BE.out
        go_wp2
        have g0 : (wr.setCell ⟨w.heap.size, 0, none⟩ (.slice A3 acc.length c3)).heap[w.heap.size]? = some (.cells #[.slice A3 acc.length c3] 79 (0, 0)) := blk_put BO.out 0 _ rfl
        have g1 : ((wr.setCell ⟨w.heap.size, 0, none⟩ (.slice A3 acc.length c3)).setCell ⟨w.heap.size + 1, 0, none⟩ (.int .i64 0)).heap[w.heap.size + 1]? = some (.cells #[.int .i64 0] 29 (0, 0)) := blk_put (blk_far (p := ⟨w.heap.size, 0, none⟩) BE.out (by simp) _) 0 _ rfl
        refine door_ret_ok _ _ w.heap.size (w.heap.size + 1) (.slice A3 acc.length c3) _ rfl rfl ((blk_cell (blk_far (p := ⟨w.heap.size + 1, 0, none⟩) g0 (by simp) _) 0).trans rfl) ((blk_cell g1 0).trans rfl) ⟨_, rfl, Kd.R_mono (Kd.R_far (p := ⟨w.heap.size + 1, 0, none⟩) (Kd.R_far (p := ⟨w.heap.size, 0, none⟩) HV.out (fun k hk => by have : w.heap.size + 2 ≤ k := hk; show k ≠ w.heap.size; omega) _) (fun k hk => by have : w.heap.size + 2 ≤ k := hk; show k ≠ w.heap.size + 1; omega) _) (fun _ _ => trivial), ?_⟩
        exact (BB.out.setCell (p := ⟨w.heap.size, 0, none⟩) (Nat.le_refl _) _).setCell (p := ⟨w.heap.size + 1, 0, none⟩) (show w.heap.size ≤ w.heap.size + 1 by omega) _
theorem decode_Numbers.calls (a0 : Int) (A1 : Option Addr) (c1 : Nat) (l1 : List Int) (a2 : Int) (a3 : Int) (r1 : List Int) (r2 : Int) (w : World) (hr1 : Kd.C (Kd.int .u8) w A1 l1.length l1) (hc1 : l1.length ≤ c1) (h : decode_Numbers.f a0 l1 a2 a3 = some (r1, r2)) :
    Calls Try.prog 75 #[.int .i64 a0, .slice A1 l1.length c1, .int .i64 a2, .int .i64 a3] w fun e w' => ∃ v0_ : Value, e = .returned (.tuple #[v0_, .int .i64 r2]) ∧ Kd.R (Kd.int .i64) 2 w' w.heap.size (fun _ => True) v0_ r1 ∧ Below w.heap.size w w' := by
  unfold decode_Numbers.f at h
  by_cases hb : numBad a0 l1 a2 a3 = true
  · rw [if_pos hb] at h
    obtain ⟨rfl, rfl⟩ : [] = r1 ∧ 1 = r2 := by have := Option.some.inj h; simpa using this
    exact (numbers_bad a0 A1 c1 l1 a2 a3 w hb).mono fun e w' ⟨he, hw⟩ => ⟨_, he, Kd.R_nil _ _ _ _ _, hw⟩
  · rw [if_neg hb] at h
    simp [numBad] at hb
    exact numbers_fine a0 A1 c1 l1 a2 a3 r1 r2 w hr1 hc1 hb.1.1.1 (by omega) (by omega) (by omega) _ h
end
end Go.Proofs.Ytlokcpfkaijchaa.PA
