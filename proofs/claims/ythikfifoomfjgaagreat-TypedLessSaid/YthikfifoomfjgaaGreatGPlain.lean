/- Contract of table.plain: the map of the plain types. -/
import Derived.Test.YthikfifoomfjgaaGreatUniq
import Derived.Sort.KeysCollected
import Derived.Maps.RangeWalk
namespace Go
open Go.Maps
/-- An entry of a map's literal, as 'wpList_mapUpdate_own'. -/
theorem wpList_insert_own {H : Type} {P : Program} (w : World) {ops : Array Oper} {rest : List Oper} {o : Oper} {a : Act} {Q : Exit → Act → World → Prop}
    (hg : o.guard = none) (m x v : Operand) (t : TypeId) (hop : o.op = Op.insert t m x v)
    (k e : TypeId) (K : Keyed P k) (ht : P.underlying t = some (.map k e)) (R : Value → Option (DataW H × List MemPlace)) (b n : Nat) (D : DataW H)
    (hm : a.eval m = .map (some b)) (hown : w.ownsMap P k R b n D) (hn : n < maxLen) (key val : Value) (kl : Lit) (hx : a.eval x = key) (hv : a.eval v = val) (hkey : keyOf P k key = some kl)
    (d : DataW H) (ps : List MemPlace) (hval : R val = some (d, ps))
    (hK : ∀ w', w'.ownsMap P k R b (n + 1) (D.put kl d) → w.grownBy w' (some b) → wpList P ops Q rest (a.put o.dst undef) w') :
    wpList P ops Q (o :: rest) a w := by
  refine wpList_plain hg fun K' hK' => ?_
  obtain ⟨w', hrun, r1, r2⟩ := hown.update K ht hn hkey hval
  unfold Oper.wp
  simp [execOp, hop, hm, hx, hv, hrun, Result.andThen]
  exact hK' _ _ (hK w' r1 r2)
end Go
namespace Go.Proofs.YthikfifoomfjgaaGreat.PA
open Go.RowKit Go.WideMaps Go.Maps Go.Proofs.YthikfifoomfjgaaGreatW.PrintWords Go.Proofs.YthikfifoomfjgaaGreatW.PrintLast Go.Proofs.YthikfifoomfjgaaGreatW.PrintMore
set_option linter.unusedVariables false
set_option linter.unusedSimpArgs false
/-- The plain types' names. -/
def plainNames : List ByteArray := [(⟨#[105, 110, 116, 54, 52]⟩ : ByteArray), (⟨#[115, 105, 110, 116, 54, 52]⟩ : ByteArray), (⟨#[117, 105, 110, 116, 51, 50]⟩ : ByteArray), (⟨#[98, 111, 111, 108]⟩ : ByteArray), (⟨#[102, 105, 120, 101, 100, 51, 50]⟩ : ByteArray), (⟨#[115, 102, 105, 120, 101, 100, 54, 52]⟩ : ByteArray), (⟨#[115, 116, 114, 105, 110, 103]⟩ : ByteArray), (⟨#[98, 121, 116, 101, 115]⟩ : ByteArray)]
def plainD : DataW Unit := ((((((((DataW.map []).put (.string [105, 110, 116, 54, 52]) (Uniq.num 0)).put (.string [115, 105, 110, 116, 54, 52]) (Uniq.num 1)).put (.string [117, 105, 110, 116, 51, 50]) (Uniq.num 2)).put (.string [98, 111, 111, 108]) (Uniq.num 3)).put (.string [102, 105, 120, 101, 100, 51, 50]) (Uniq.num 4)).put (.string [115, 102, 105, 120, 101, 100, 54, 52]) (Uniq.num 5)).put (.string [115, 116, 114, 105, 110, 103]) (Uniq.num 7)).put (.string [98, 121, 116, 101, 115]) (Uniq.num 8)
theorem plainD_keys : (strKeys plainD).Perm (plainNames.map (·.data.toList)) := by
  have h : (strKeys plainD).isPerm (plainNames.map (·.data.toList)) = true := by decide +kernel
  exact List.isPerm_iff.1 h
set_option maxHeartbeats 2000000 in
set_option maxRecDepth 100000 in
theorem table_plain (w : World) : Calls Tryz.prog 66 #[] w fun e w' => e = .returned (.map (some w.heap.size)) ∧ w'.ownsMap Tryz.prog 9 (plainElem Tryz.prog 3) w.heap.size 8 plainD ∧ Below w.heap.size w w' := by
  have hmm := @run_makeMap Tryz.prog
  go_enter Tryz.func66, Tryz.ntmps66
  have HO : (w.alloc (.map #[] 0)).ownsMap Tryz.prog 9 (plainElem Tryz.prog 3) w.heap.size 0 (DataW.map [] : DataW Unit) := World.ownsMap_made _ _ _ _
  have HB := al1 w (.map #[] 0)
  have tok := Aside0.mk HO
  have HB' := Aside0.mk HB
  clear HO HB
  go_wp2_with (refine wpList_insert_own _ rfl _ _ _ 88 rfl 9 3 lawStr Tryz.underlying88 _ w.heap.size _ _ rfl tok.out (by unfold maxLen; omega) _ _ _ rfl rfl (keyOf_string_mk Tryz.underlying9 (by unfold maxLen; decide)) _ [] (plainElem_int Tryz.underlying3 (by decide)) ?_; intro w1 HO hg; have HB2 := Aside0.mk (HB'.out.grown hg HB'.out.size (fun j hj => by cases hj; exact Nat.le_refl _)); clear tok HB' hg; have tok := Aside0.mk HO; have HB' := HB2; clear HO HB2)
  go_ret
  exact ⟨rfl, tok.out, HB'.out⟩
end Go.Proofs.YthikfifoomfjgaaGreat.PA
