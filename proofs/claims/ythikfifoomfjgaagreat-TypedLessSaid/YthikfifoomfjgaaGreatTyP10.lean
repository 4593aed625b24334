/- What typed's checker asks, as plain functions; a schema in memory; a map that holds numbers. -/
import Derived.Test.YthikfifoomfjgaaGreatShalP10
import Derived.Test.YthikfifoomfjgaaGreatGBy
import Derived.Test.YthikfifoomfjgaaGreatUtfP
import Derived.Test.YthikfifoomfjgaaGreatConvP
import Derived.Test.YthikfifoomfjgaaGreatOpenS
import Derived.Maps.OwnOps
import Derived.Maps.OwnSet
import Derived.Maps.Ext
namespace Go.Proofs.YthikfifoomfjgaaGreat
open Go.RowKit Go.Tr Go.WideMaps Go.Maps Go.Proofs.YthikfifoomfjgaaGreat.PA Go.Proofs.YthikfifoomfjgaaGreatW.PrintWords Go.Proofs.YthikfifoomfjgaaGreatW.PrintLast Go.Proofs.YthikfifoomfjgaaGreatW.PrintMore
set_option maxRecDepth 100000
set_option linter.unusedVariables false
set_option linter.unusedSimpArgs false
/-- A schema, and where it lies. -/
structure Sch where
  M : List S58
  E : List S79
  A0 : Option Addr
  A1 : Option Addr
  c0 : Nat
  c1 : Nat
def Sch.cells (S : Sch) : Array Value := #[.slice S.A0 S.M.length S.c0, .slice S.A1 S.E.length S.c1]
def Sch.At (S : Sch) (w : World) : Prop := Kd.C k58 w S.A0 S.M.length S.M ∧ S.M.length ≤ S.c0 ∧ Kd.C k79 w S.A1 S.E.length S.E ∧ S.E.length ≤ S.c1
theorem Sch.At.below {S : Sch} {w w' : World} (h : S.At w) (b : Below w.heap.size w w') : S.At w' := ⟨Kd.C_below h.1 b, h.2.1, Kd.C_below h.2.2.1 b, h.2.2.2⟩
/-- Its fields' numbers are numbers of 64 bits. -/
def Sch.Ok (S : Sch) : Prop := ∀ m ∈ S.M, ∀ f ∈ m.f1, okF f
/-- The field of a message's, by number. -/
def Sch.fl (S : Sch) (m no : Int) : Option S47 := fieldAt S.M m (PA.isNo no)
theorem Sch.by_ (S : Sch) (w : World) (h : S.At w) (m no : Int) :
    Calls Tryz.prog 54 #[.agg S.cells, .int .i64 m, .int .i64 no] w fun e w' => (∃ r, r = fieldIs (S.fl m no) ∧ e = .returned (.tuple #[.agg #[.int .i64 r.1, .string r.2.1, .int .i64 r.2.2.1, .int .i64 r.2.2.2.1, .bool r.2.2.2.2.1, .int .i64 r.2.2.2.2.2.1, .int .i64 r.2.2.2.2.2.2.1], .bool r.2.2.2.2.2.2.2])) ∧ Below w.heap.size w w' := by
  obtain ⟨h1, h2, h3, h4⟩ := h
  refine (table_By.calls S.A0 S.c0 S.M S.A1 S.c1 S.E m no _ _ _ _ _ _ _ _ w h1 h2 h3 h4 (show table_By.f S.M S.E m no = some (fieldIs (S.fl m no)) from rfl)).mono ?_
  rintro e w' ⟨rfl, b⟩
  exact ⟨⟨_, rfl, rfl⟩, b⟩
/-- The bytes of a text. -/
def bytesL (s : ByteArray) : List Int := s.data.toList.map fun x => (x.toNat : Int)
def fineS (s : ByteArray) : Bool := Utf.fineB (bytesL s) 0 s.size
/-- Is a value of a kind? -/
def valOk (mo : Int → Msg → Bool) (kind ref : Int) (v : Val) : Bool :=
  if kind = 9 then v.n == 0 && (decide (v.s.size = 0) && (match v.m with | [x] => mo ref x | _ => false))
  else if v.m ≠ [] then false
  else if kind ≠ 7 ∧ kind ≠ 8 ∧ (v.s.size ≠ 0 ∨ fitsB kind v.n = false) then false
  else if kind = 7 then v.n == 0 && fineS v.s
  else kind != 8 || v.n == 0
/-- Is a slot of a field? -/
def slotOk (mo : Int → Msg → Bool) (f : S47) (x : Slot) : Bool :=
  if f.f5 = -1 then decide (x.k.length = 0) && ((f.f4 || decide (x.v.length = 1)) && x.v.all (valOk mo f.f2 f.f3))
  else decide (x.k.length = x.v.length) && (x.k.all (valOk mo f.f5 0) && x.v.all (valOk mo f.f2 f.f3))
/-- Are slots those of a message, with these numbers, and oneofs, there already? -/
def runOk (S : Sch) (mo : Int → Msg → Bool) (m : Int) : List Slot → List Int → List Int → Bool
  | [], _, _ => true
  | y :: l, nums, ones => match S.fl m y.no with
    | none => false
    | some f => !decide (y.no ∈ nums) && (!(decide (0 < f.f6) && decide (f.f6 ∈ ones)) && (slotOk mo f y && runOk S mo m l (y.no :: nums) (f.f6 :: ones)))
def msgOk (S : Sch) : Nat → Int → Msg → Bool
  | 0, _, _ => false
  | n + 1, m, x => runOk S (msgOk S n) m x.f [] [] && (decide (0 ≤ m) && decide (m < S.M.length))
/-- A map that holds these numbers. -/
def Seen (l : List Int) (D : DataW Unit) : Prop := ∀ x, D.atKey (.int .i64 x) (.lit (.bool false)) = .lit (.bool (decide (x ∈ l)))
def NumSet (b n : Nat) (l : List Int) (w : World) : Prop := ∃ D : DataW Unit, w.ownsMap Tryz.prog 3 (plainElem Tryz.prog 4) b n D ∧ Seen l D
theorem lawInt10 : Maps.Keyed Tryz.prog 3 := int_keyed Tryz.underlying3
theorem zero_bool (w : World) : (zeroValue 4).run Tryz.prog w = .ok (.bool false) w := by kernel_rfl
theorem NumSet.new (w : World) : NumSet w.heap.size 0 [] (w.alloc (.map #[] 0)) := ⟨.map [], World.ownsMap_made _ _ _ _, fun x => by simp [DataW.atKey]⟩
theorem NumSet.kept {b n : Nat} {l : List Int} {w w' : World} {row : Option Nat} (h : NumSet b n l w) (hg : w.grownBy w' row) (hne : some b ≠ row) : NumSet b n l w' := by
  obtain ⟨D, h1, h2⟩ := h
  exact ⟨D, h1.kept hg hne, h2⟩
theorem NumSet.lt {b n : Nat} {l : List Int} {w : World} (h : NumSet b n l w) : b < w.heap.size := by
  obtain ⟨D, h1, -⟩ := h; exact h1.lt
theorem NumSet.below {b n : Nat} {l : List Int} {w w' : World} (h : NumSet b n l w) (hb : Below w.heap.size w w') : NumSet b n l w' :=
  h.kept (row := none) ⟨hb.os, hb.tape, hb.output, hb.size, fun k hk _ => hb.block k hk⟩ (by simp)
theorem wf_i64 {x : Int} (h : I64 x) : (Lit.int .i64 x).wf = true := WalkArith.wf_i64 (by unfold I64 at h; omega)
theorem NumSet.lookup {b n : Nat} {l : List Int} {w : World} (h : NumSet b n l w) {x : Int} (hx : I64 x) :
    (Instr.lookup 94 (.map (some b)) (.int .i64 x) false).run Tryz.prog w = .ok (.bool (decide (x ∈ l))) w := by
  obtain ⟨D, h1, h2⟩ := h
  obtain ⟨v, ps, hrun, hv⟩ := h1.lookup lawInt10 Tryz.underlying94 (zero_bool w) (plainElem_bool Tryz.underlying4 false) (keyOf_int_mk Tryz.underlying3 (wf_i64 hx))
  rw [h2 x] at hv
  rw [hrun]
  unfold plainElem at hv
  rw [Tryz.underlying4] at hv
  cases v <;> simp at hv
  obtain ⟨h, -⟩ := hv
  rw [h]
theorem NumSet.update {b n : Nat} {l : List Int} {w : World} (h : NumSet b n l w) (hn : n < maxLen) {x : Int} (hx : I64 x) :
    ∃ w', (Instr.mapUpdate 94 (.map (some b)) (.int .i64 x) (.bool true)).run Tryz.prog w = .ok () w' ∧ NumSet b (n + 1) (x :: l) w' ∧ w.grownBy w' (some b) := by
  obtain ⟨D, h1, h2⟩ := h
  obtain ⟨w', hrun, ho, hg⟩ := h1.update lawInt10 Tryz.underlying94 hn (keyOf_int_mk Tryz.underlying3 (wf_i64 hx)) (plainElem_bool Tryz.underlying4 true)
  refine ⟨w', hrun, ⟨_, ho, fun y => ?_⟩, hg⟩
  by_cases e : y = x
  · subst e
    rw [atKey_put_same h1.isMap (show WideAt.IsKeyLit (.int .i64 y) from trivial)]
    simp
  · rw [atKey_put_other (by simpa using e), h2]
    simp [e]
end Go.Proofs.YthikfifoomfjgaaGreat
