/- What a schema's reading tells of memory. -/
import Derived.Test.YthikfifoomfjgaaGreatOpenC
namespace Go.Proofs.YthikfifoomfjgaaGreat.PA
open Go.RowKit Go.Tr Go.Proofs.YthikfifoomfjgaaGreatW.PrintWords Go.Proofs.YthikfifoomfjgaaGreatW.PrintLast Go.Proofs.YthikfifoomfjgaaGreatW.PrintMore
set_option linter.unusedVariables false
set_option linter.unusedSimpArgs false
section
variable {H : Type} {enc : TypeId × Value → H} {W : World} {spare : Nat → Bool} {held : Bool}
abbrev Great : Nat := 140737488355328
theorem int_wf {x : Int} (h : (Lit.int .i64 x).wf = true) : -9223372036854775808 ≤ x ∧ x ≤ 9223372036854775807 := by
  have h1 : IntKind.min .i64 = -9223372036854775808 := by rfl
  have h2 : IntKind.max .i64 = 9223372036854775807 := by rfl
  simp only [Lit.wf, Bool.and_eq_true, decide_eq_true_eq, h1, h2] at h
  exact h
/-- A number of 64 bits with its sign. -/
abbrev I64 (x : Int) : Prop := -9223372036854775808 ≤ x ∧ x ≤ 9223372036854775807
/-- A field as it reads. -/
def RField (W : World) (cs : List Value) (x : S47) : Prop := Kd.K k47 W x cs ∧ I64 x.f0 ∧ I64 x.f2 ∧ I64 x.f3 ∧ I64 x.f5 ∧ I64 x.f6 ∧ x.f1.size ≤ maxLen
/-- A row of K's elements, out of what its elements read as. -/
theorem reads_K {α : Type} {d : Kd α} {xs : List α} {v : Value} {w : World} {R : List Value → α → Prop} {k : Nat} (hk : d.sz = k) (h : RowOf Great 0 w k R v xs) (hR : ∀ cs x, R cs x → d.K w x cs) :
    ∃ A c, v = .slice A xs.length c ∧ xs.length ≤ c ∧ d.C w A xs.length xs ∧ xs.length ≤ Great := by
  subst hk
  exact reads_of_row h hR
/-- All that a row's elements are. -/
theorem row_all {α : Type} {xs : List α} {v : Value} {w : World} {R : List Value → α → Prop} {k L B : Nat} {p : α → Prop} (h : RowOf L B w k R v xs) (hp : ∀ cs x, R cs x → p x) : ∀ x ∈ xs, p x := by
  obtain ⟨a, cap, _, _, _, _, _, hx⟩ := h
  intro x hm
  obtain ⟨_, _, _, _, he⟩ := hx (List.ne_nil_of_mem hm)
  obtain ⟨i, hi, rfl⟩ := List.getElem_of_mem hm
  obtain ⟨cs, _, _, hr⟩ := he i hi
  exact hp _ _ hr
def okF (x : S47) : Prop := I64 x.f0 ∧ I64 x.f2 ∧ I64 x.f3 ∧ I64 x.f5 ∧ I64 x.f6 ∧ x.f1.size ≤ maxLen
/-- A message as it reads. -/
def RMsgDef (W : World) (cs : List Value) (x : S58) : Prop := Kd.K k58 W x cs ∧ x.f0.size ≤ maxLen ∧ ∀ f ∈ x.f1, okF f
/-- An enum as it reads. -/
def REnumDef (W : World) (cs : List Value) (x : S79) : Prop := Kd.K k79 W x cs ∧ x.f0.size ≤ maxLen ∧ (∀ s ∈ x.f1, s.size ≤ maxLen) ∧ ∀ n ∈ x.f2, I64 n
def okM (x : S58) : Prop := x.f0.size ≤ maxLen ∧ ∀ f ∈ x.f1, okF f
def okE (x : S79) : Prop := x.f0.size ≤ maxLen ∧ (∀ s ∈ x.f1, s.size ≤ maxLen) ∧ ∀ n ∈ x.f2, I64 n
/-- A schema as it reads. -/
def OkSchema (W : World) (A0 : Option Addr) (c0 : Nat) (M : List S58) (A1 : Option Addr) (c1 : Nat) (E : List S79) : Prop :=
  M.length ≤ c0 ∧ Kd.C k58 W A0 M.length M ∧ E.length ≤ c1 ∧ Kd.C k79 W A1 E.length E ∧ (∀ m ∈ M, okM m) ∧ ∀ e ∈ E, okE e
set_option maxRecDepth 100000 in
theorem open_field {fuel : Nat} {cs : List Value} {x : DataW H × List MemPlace} (h : DataW.trod enc Tryz.prog W 0 spare held fuel 47 cs = some x) (hw : ∀ z ∈ x.1.weights Tryz.prog 47, z ≤ reachBytes) :
    ∃ f, RField W cs f := by
  obtain ⟨xs, n, rfl, rfl, hl, hlen, hf⟩ := DataW.trod_struct Tryz.underlying47 h
  have hl3 : cs.length = 7 := by rw [hl]; kernel_rfl
  match cs, hl3 with
  | [c0, c1, c2, c3, c4, c5, c6], _ =>
    match xs, hlen with
    | [y0, y1, y2, y3, y4, y5, y6], _ =>
      have f0 : DataW.trod enc Tryz.prog W 0 spare held n 3 (([c0, c1, c2, c3, c4, c5, c6].drop 0).take (Tryz.prog.cellsOf 3)) = some y0 := hf 0 _ rfl
      have f1 : DataW.trod enc Tryz.prog W 0 spare held n 9 (([c0, c1, c2, c3, c4, c5, c6].drop 1).take (Tryz.prog.cellsOf 9)) = some y1 := hf 1 _ rfl
      have f2 : DataW.trod enc Tryz.prog W 0 spare held n 3 (([c0, c1, c2, c3, c4, c5, c6].drop 2).take (Tryz.prog.cellsOf 3)) = some y2 := hf 2 _ rfl
      have f3 : DataW.trod enc Tryz.prog W 0 spare held n 3 (([c0, c1, c2, c3, c4, c5, c6].drop 3).take (Tryz.prog.cellsOf 3)) = some y3 := hf 3 _ rfl
      have f4 : DataW.trod enc Tryz.prog W 0 spare held n 4 (([c0, c1, c2, c3, c4, c5, c6].drop 4).take (Tryz.prog.cellsOf 4)) = some y4 := hf 4 _ rfl
      have f5 : DataW.trod enc Tryz.prog W 0 spare held n 3 (([c0, c1, c2, c3, c4, c5, c6].drop 5).take (Tryz.prog.cellsOf 3)) = some y5 := hf 5 _ rfl
      have f6 : DataW.trod enc Tryz.prog W 0 spare held n 3 (([c0, c1, c2, c3, c4, c5, c6].drop 6).take (Tryz.prog.cellsOf 3)) = some y6 := hf 6 _ rfl
      rw [show Tryz.prog.cellsOf 3 = 1 by kernel_rfl] at f0
      rw [show Tryz.prog.cellsOf 9 = 1 by kernel_rfl] at f1
      rw [show Tryz.prog.cellsOf 3 = 1 by kernel_rfl] at f2
      rw [show Tryz.prog.cellsOf 3 = 1 by kernel_rfl] at f3
      rw [show Tryz.prog.cellsOf 4 = 1 by kernel_rfl] at f4
      rw [show Tryz.prog.cellsOf 3 = 1 by kernel_rfl] at f5
      rw [show Tryz.prog.cellsOf 3 = 1 by kernel_rfl] at f6
      simp only [List.drop_zero, List.drop_succ_cons, List.take_succ_cons, List.take_zero] at f0 f1 f2 f3 f4 f5 f6
      obtain ⟨i0, e0, -, h0⟩ := DataW.trod_int Tryz.underlying3 f0
      cases e0
      obtain ⟨i1, e1, -, h1⟩ := DataW.trod_string Tryz.underlying9 f1
      cases e1
      obtain ⟨i2, e2, -, h2⟩ := DataW.trod_int Tryz.underlying3 f2
      cases e2
      obtain ⟨i3, e3, -, h3⟩ := DataW.trod_int Tryz.underlying3 f3
      cases e3
      obtain ⟨i4, e4, -⟩ := DataW.trod_bool Tryz.underlying4 f4
      cases e4
      obtain ⟨i5, e5, -, h5⟩ := DataW.trod_int Tryz.underlying3 f5
      cases e5
      obtain ⟨i6, e6, -, h6⟩ := DataW.trod_int Tryz.underlying3 f6
      cases e6
      exact ⟨⟨i0, i1, i2, i3, i4, i5, i6⟩, k47_mk W _, int_wf h0, int_wf h2, int_wf h3, int_wf h5, int_wf h6, h1⟩
set_option maxRecDepth 100000 in
theorem open_msgdef {fuel : Nat} {cs : List Value} {x : DataW H × List MemPlace} (h : DataW.trod enc Tryz.prog W 0 spare held fuel 58 cs = some x) (hw : ∀ z ∈ x.1.weights Tryz.prog 58, z ≤ reachBytes) :
    ∃ f, RMsgDef W cs f := by
  obtain ⟨xs, n, rfl, rfl, hl, hlen, hf⟩ := DataW.trod_struct Tryz.underlying58 h
  have hl3 : cs.length = 2 := by rw [hl]; kernel_rfl
  match cs, hl3 with
  | [c0, c1], _ =>
    match xs, hlen with
    | [y0, y1], _ =>
      have f0 : DataW.trod enc Tryz.prog W 0 spare held n 9 (([c0, c1].drop 0).take (Tryz.prog.cellsOf 9)) = some y0 := hf 0 _ rfl
      have f1 : DataW.trod enc Tryz.prog W 0 spare held n 56 (([c0, c1].drop 1).take (Tryz.prog.cellsOf 56)) = some y1 := hf 1 _ rfl
      rw [show Tryz.prog.cellsOf 9 = 1 by kernel_rfl] at f0
      rw [show Tryz.prog.cellsOf 56 = 1 by kernel_rfl] at f1
      simp only [List.drop_zero, List.drop_succ_cons, List.take_succ_cons, List.take_zero] at f0 f1
      obtain ⟨i0, e0, -, h0⟩ := DataW.trod_string Tryz.underlying9 f0
      cases e0
      have hw1 : ∀ z ∈ y1.1.weights Tryz.prog 56, z ≤ reachBytes := fun z hz => hw z (by
        simp only [DataW.weights, Tryz.underlying58, List.map_cons, List.map_nil]
        exact DataW.weights_mem_each (j := 1) rfl rfl z hz)
      obtain ⟨v1, i1, e1, r1⟩ := open_row (k := 7) (bytes := 64) (L := Great) Tryz.underlying56 (by kernel_rfl) (by omega) (by kernel_rfl) (by decide) (by omega) f1 hw1 (RField W) fun n' cs' y hn h3 h4 => open_field h3 h4
      cases e1
      obtain ⟨A1, k1, rfl, l1, g1, b1⟩ := reads_K (d := k47) rfl r1 fun _ _ hh => hh.1
      exact ⟨⟨i0, i1⟩, k58_mk W _ l1 g1, h0, row_all r1 fun _ _ hh => hh.2⟩
set_option maxRecDepth 100000 in
theorem open_enum {fuel : Nat} {cs : List Value} {x : DataW H × List MemPlace} (h : DataW.trod enc Tryz.prog W 0 spare held fuel 79 cs = some x) (hw : ∀ z ∈ x.1.weights Tryz.prog 79, z ≤ reachBytes) :
    ∃ f, REnumDef W cs f := by
  obtain ⟨xs, n, rfl, rfl, hl, hlen, hf⟩ := DataW.trod_struct Tryz.underlying79 h
  have hl3 : cs.length = 3 := by rw [hl]; kernel_rfl
  match cs, hl3 with
  | [c0, c1, c2], _ =>
    match xs, hlen with
    | [y0, y1, y2], _ =>
      have f0 : DataW.trod enc Tryz.prog W 0 spare held n 9 (([c0, c1, c2].drop 0).take (Tryz.prog.cellsOf 9)) = some y0 := hf 0 _ rfl
      have f1 : DataW.trod enc Tryz.prog W 0 spare held n 76 (([c0, c1, c2].drop 1).take (Tryz.prog.cellsOf 76)) = some y1 := hf 1 _ rfl
      have f2 : DataW.trod enc Tryz.prog W 0 spare held n 77 (([c0, c1, c2].drop 2).take (Tryz.prog.cellsOf 77)) = some y2 := hf 2 _ rfl
      rw [show Tryz.prog.cellsOf 9 = 1 by kernel_rfl] at f0
      rw [show Tryz.prog.cellsOf 76 = 1 by kernel_rfl] at f1
      rw [show Tryz.prog.cellsOf 77 = 1 by kernel_rfl] at f2
      simp only [List.drop_zero, List.drop_succ_cons, List.take_succ_cons, List.take_zero] at f0 f1 f2
      obtain ⟨i0, e0, -, h0⟩ := DataW.trod_string Tryz.underlying9 f0
      cases e0
      have hw1 : ∀ z ∈ y1.1.weights Tryz.prog 76, z ≤ reachBytes := fun z hz => hw z (by
        simp only [DataW.weights, Tryz.underlying79, List.map_cons, List.map_nil]
        exact DataW.weights_mem_each (j := 1) rfl rfl z hz)
      obtain ⟨v1, i1, e1, r1⟩ := open_row (k := 1) (bytes := 16) (L := Great) Tryz.underlying76 (by kernel_rfl) (by omega) (by kernel_rfl) (by decide) (by omega) f1 hw1 (fun cs s => cs = [.string s] ∧ s.size ≤ maxLen) fun n' cs' y hn h3 h4 => (by
        obtain ⟨s, e, -, hs⟩ := DataW.trod_string Tryz.underlying9 h3
        exact ⟨s, e, hs⟩)
      cases e1
      have hw2 : ∀ z ∈ y2.1.weights Tryz.prog 77, z ≤ reachBytes := fun z hz => hw z (by
        simp only [DataW.weights, Tryz.underlying79, List.map_cons, List.map_nil]
        exact DataW.weights_mem_each (j := 2) rfl rfl z hz)
      obtain ⟨v2, i2, e2, r2⟩ := open_row (k := 1) (bytes := 8) (L := Great) Tryz.underlying77 (by kernel_rfl) (by omega) (by kernel_rfl) (by decide) (by omega) f2 hw2 (fun cs n => cs = [.int .i64 n] ∧ I64 n) fun n' cs' y hn h3 h4 => (by
        obtain ⟨s, e, -, hs⟩ := DataW.trod_int Tryz.underlying2 h3
        exact ⟨s, e, int_wf hs⟩)
      cases e2
      obtain ⟨A1, k1, rfl, l1, g1, b1⟩ := reads_K (d := Kd.string) rfl r1 fun _ _ hh => hh.1
      obtain ⟨A2, k2, rfl, l2, g2, b2⟩ := reads_K (d := Kd.int .i64) rfl r2 fun _ _ hh => hh.1
      exact ⟨⟨i0, i1, i2⟩, k79_mk W _ l1 g1 l2 g2, h0, row_all r1 fun _ _ hh => hh.2, row_all r2 fun _ _ hh => hh.2⟩
set_option maxRecDepth 100000 in
theorem open_schema {fuel : Nat} {cs : List Value} {x : DataW H × List MemPlace} (h : DataW.trod enc Tryz.prog W 0 spare held fuel 25 cs = some x) (hw : ∀ z ∈ x.1.weights Tryz.prog 25, z ≤ reachBytes) :
    ∃ A0 c0 M A1 c1 E, cs = [.slice A0 M.length c0, .slice A1 E.length c1] ∧ OkSchema W A0 c0 M A1 c1 E := by
  obtain ⟨xs, n, rfl, rfl, hl, hlen, hf⟩ := DataW.trod_struct Tryz.underlying25 h
  have hl3 : cs.length = 2 := by rw [hl]; kernel_rfl
  match cs, hl3 with
  | [c0, c1], _ =>
    match xs, hlen with
    | [y0, y1], _ =>
      have f0 : DataW.trod enc Tryz.prog W 0 spare held n 22 (([c0, c1].drop 0).take (Tryz.prog.cellsOf 22)) = some y0 := hf 0 _ rfl
      have f1 : DataW.trod enc Tryz.prog W 0 spare held n 23 (([c0, c1].drop 1).take (Tryz.prog.cellsOf 23)) = some y1 := hf 1 _ rfl
      rw [show Tryz.prog.cellsOf 22 = 1 by kernel_rfl] at f0
      rw [show Tryz.prog.cellsOf 23 = 1 by kernel_rfl] at f1
      simp only [List.drop_zero, List.drop_succ_cons, List.take_succ_cons, List.take_zero] at f0 f1
      have hw0 : ∀ z ∈ y0.1.weights Tryz.prog 22, z ≤ reachBytes := fun z hz => hw z (by
        simp only [DataW.weights, Tryz.underlying25, List.map_cons, List.map_nil]
        exact DataW.weights_mem_each (j := 0) rfl rfl z hz)
      obtain ⟨v0, i0, e0, r0⟩ := open_row (k := 2) (bytes := 40) (L := Great) Tryz.underlying22 (by kernel_rfl) (by omega) (by kernel_rfl) (by decide) (by omega) f0 hw0 (RMsgDef W) fun n' cs' y hn h3 h4 => open_msgdef h3 h4
      cases e0
      have hw1 : ∀ z ∈ y1.1.weights Tryz.prog 23, z ≤ reachBytes := fun z hz => hw z (by
        simp only [DataW.weights, Tryz.underlying25, List.map_cons, List.map_nil]
        exact DataW.weights_mem_each (j := 1) rfl rfl z hz)
      obtain ⟨v1, i1, e1, r1⟩ := open_row (k := 3) (bytes := 64) (L := Great) Tryz.underlying23 (by kernel_rfl) (by omega) (by kernel_rfl) (by decide) (by omega) f1 hw1 (REnumDef W) fun n' cs' y hn h3 h4 => open_enum h3 h4
      cases e1
      obtain ⟨A0, k0, rfl, l0, g0, b0⟩ := reads_K (d := k58) rfl r0 fun _ _ hh => hh.1
      obtain ⟨A1, k1, rfl, l1, g1, b1⟩ := reads_K (d := k79) rfl r1 fun _ _ hh => hh.1
      exact ⟨A0, k0, i0, A1, k1, i1, rfl, l0, g0, l1, g1, row_all r0 fun _ _ hh => hh.2, row_all r1 fun _ _ hh => hh.2⟩
/-- Bytes as they read. -/
def OkBytes (W : World) (A : Option Addr) (c : Nat) (l : List Int) : Prop := l.length ≤ c ∧ Kd.C (Kd.int .u8) W A l.length l ∧ ∀ n ∈ l, 0 ≤ n ∧ n ≤ 255
theorem byte_wf {x : Int} (h : (Lit.int .u8 x).wf = true) : 0 ≤ x ∧ x ≤ 255 := by
  have h1 : IntKind.min .u8 = 0 := by rfl
  have h2 : IntKind.max .u8 = 255 := by rfl
  simp only [Lit.wf, Bool.and_eq_true, decide_eq_true_eq, h1, h2] at h
  exact h
theorem open_bytes {fuel : Nat} {cs : List Value} {x : DataW H × List MemPlace} (h : DataW.trod enc Tryz.prog W 0 spare held fuel 107 cs = some x) (hw : ∀ z ∈ x.1.weights Tryz.prog 107, z ≤ reachBytes) :
    ∃ A c l, cs = [.slice A l.length c] ∧ OkBytes W A c l := by
  obtain ⟨v, l, e, r⟩ := open_row (k := 1) (bytes := 1) (L := Great) Tryz.underlying107 (by kernel_rfl) (by omega) (by kernel_rfl) (by decide) (by omega) h hw (fun cs n => cs = [.int .u8 n] ∧ 0 ≤ n ∧ n ≤ 255) fun n' cs' y hn h3 h4 => (by
    obtain ⟨s, e, -, hs⟩ := DataW.trod_int Tryz.underlying5 h3
    exact ⟨s, e, byte_wf hs⟩)
  cases e
  obtain ⟨A, c, rfl, l1, g1, b1⟩ := reads_K (d := Kd.int .u8) rfl r fun _ _ hh => hh.1
  exact ⟨A, c, l, rfl, l1, g1, row_all r fun _ _ hh => hh.2⟩
end
end Go.Proofs.YthikfifoomfjgaaGreat.PA
