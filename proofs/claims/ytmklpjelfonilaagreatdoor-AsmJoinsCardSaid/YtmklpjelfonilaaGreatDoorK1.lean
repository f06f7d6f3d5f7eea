/- What a row's list of variables gives: the world's own tables and sentinels; and one start that fits. -/
import Derived.Test.YtmklpjelfonilaaGreatDoorCards
import Derived.Test.YtmklpjelfonilaaGreatDoorTie
import Derived.Test.YtmklpjelfonilaaGreatDoorG2
import Derived.ProofKit
import Derived.OpenShut
import Derived.Deep.DeepHandedRow
import Derived.Lib.LaidTab
import Derived.Lay
import Derived.Stop.LaidErr
import Derived.MakeChecks
namespace Go.Proofs.YtmklpjelfonilaaGreatDoor
open Go.ChangeShapes Go.WideShapes Go.ChangeAt Go.RowKit
set_option linter.unusedVariables false

def theLaid : List (String × DataW Unit) := [("math/bits.deBruijn32tab", Rows.laid_math_bits_deBruijn32tab), ("math/bits.deBruijn64tab", Rows.laid_math_bits_deBruijn64tab), ("internal/strconv.uint64pow10", Rows.laid_internal_strconv_uint64pow10), ("unicode/utf8.acceptRanges", Rows.laid_unicode_utf8_acceptRanges), ("strconv.ErrRange", Rows.laid_strconv_ErrRange), ("strconv.ErrSyntax", Rows.laid_strconv_ErrSyntax), ("unicode/utf8.first", Rows.laid_unicode_utf8_first)]

theorem own : ownKnob Tryz.prog.godebug = none := by kernel_rfl
theorem g1 : Tryz.prog.globalNamed "internal/strconv.uint64pow10" = some 1 := by kernel_rfl
theorem g1Type : (Tryz.prog.globals[1]?).map (·.type) = some 149 := by kernel_rfl
theorem g2 : Tryz.prog.globalNamed "strconv.ErrSyntax" = some 2 := by kernel_rfl
theorem g2Type : (Tryz.prog.globals[2]?).map (·.type) = some 57 := by kernel_rfl
theorem g3 : Tryz.prog.globalNamed "strconv.ErrRange" = some 3 := by kernel_rfl
theorem g3Type : (Tryz.prog.globals[3]?).map (·.type) = some 57 := by kernel_rfl
theorem cells149 : Tryz.prog.cellsOf 149 = 20 := by kernel_rfl
theorem cells82 : Tryz.prog.cellsOf 82 = 1 := by kernel_rfl
theorem cells159 : Tryz.prog.cellsOf 159 = 1 := by kernel_rfl
theorem cells9 : Tryz.prog.cellsOf 9 = 1 := by kernel_rfl
theorem plainLaid : (theLaid.all fun x => x.2.handleName?.isNone) = true := by kernel_rfl
theorem star157 : "*" ++ "errors.errorString" = "*errors.errorString" := by decide
theorem row157 (u : TypeId) (h : Tryz.prog.typeName? 3 u = some "*errors.errorString") : u = 157 :=
  typeName_ptr_named (nm := "errors.errorString") (by rw [star157]; kernel_rfl) (by kernel_rfl) (by decide) u (by rw [star157]; exact h)

theorem env_of {W : World} (hL0 : laidMetH Tryz.prog theLaid W) (hsh : W.ShapedOpen Tryz.prog) : Env W ∧ MaxL W := by
  have hL := hL0
  rw [MakeChecks.laidMetH_plain _ _ _ plainLaid] at hL
  have htab : Lib.TabIs Tryz.prog W "internal/strconv.uint64pow10" .u64 Lib.pow10Tab :=
    Lib.tabIs_of_head g1 g1Type Tryz.underlying149 Tryz.underlying82 cells82 cells149 hL.tail.tail
  obtain ⟨a0, s0, hv0, -, -, -⟩ := laid_sentinel hL.tail.tail.tail.tail g3 g3Type Tryz.underlying57 row157 Tryz.underlying157 Tryz.underlying159 rfl rfl Tryz.underlying9 cells159 cells9
  obtain ⟨a1, s1, hv1, -, -, -⟩ := laid_sentinel hL.tail.tail.tail.tail.tail g2 g2Type Tryz.underlying57 row157 Tryz.underlying157 Tryz.underlying159 rfl rfl Tryz.underlying9 cells159 cells9
  refine ⟨⟨htab, ⟨_, _, hv1⟩, ⟨_, _, hv0⟩, ?_⟩, ?_⟩
  · rcases Nat.lt_or_ge 3 W.heap.size with h | h
    · omega
    · simp [World.var?, g3, Array.getElem?_eq_none h] at hv0
  · exact Go.Proofs.cell_of_shapedOpen_int (zero := #[.int .i64 0]) (t := 3) hsh (of_decide_eq_true (by kernel_rfl)) (by kernel_rfl) rfl (by kernel_rfl) (by kernel_rfl) Tryz.underlying3

/-- A world for the witness: the settled one, the listed variables laid. -/
noncomputable def startW (os : Os) : World := World.laidAll Tryz.prog os theLaid
theorem start_shaped (os : Os) (args : Array Value) : ((startW os).forCall (fun _ _ => 0) ⟨#[], args, []⟩).Shaped Tryz.prog :=
  World.shaped_of_ZipB (by kernel_rfl) (by kernel_rfl)
theorem start_laid (os : Os) (args : Array Value) : laidMetH Tryz.prog theLaid ((startW os).forCall (fun _ _ => 0) ⟨#[], args, []⟩).memory := by
  rw [MakeChecks.laidMetH_plain _ _ _ plainLaid]
  exact laidMet_laidAll _ (by kernel_rfl) (by kernel_rfl)
theorem witness_of {H : Type} {enc : TypeId × Value → H} {f : FuncId} {fn : Func} {s : OpenSpec} (os : Os) (args : Array Value)
    (hok : Input.okWideB Tryz.prog ((startW os).forCall (fun _ _ => 0) ⟨#[], args, []⟩) f ⟨#[], args, []⟩ = true)
    (hrow : s.preRow enc Tryz.prog fn [] false theLaid ((startW os).forCall (fun _ _ => 0) ⟨#[], args, []⟩).memory args) :
    ∃ (w : World) (tape : Tape) (i : Input), w.os = os ∧ (w.forCall tape i).Shaped Tryz.prog ∧ i.vars = [] ∧ Input.okWide Tryz.prog (w.forCall tape i) .any w.heap.size f i ∧
      s.preRow enc Tryz.prog fn [] false theLaid (w.forCall tape i).memory i.args ∧ ({} : Assume).holds Tryz.prog (lone (Frame.enter Tryz.prog f i.args .normal) [] (w.forCall tape i)) :=
  ⟨startW os, fun _ _ => 0, ⟨#[], args, []⟩, World.laidAll_os _ _ _, start_shaped os args, (Input.okWide_of_okWideB (base := 0) hok).1, (Input.okWide_of_okWideB hok).2, hrow, by
    simp only [Assume.holds]
    exact ⟨by simp, by simp, by simp, by simp, by simp⟩⟩
end Go.Proofs.YtmklpjelfonilaaGreatDoor
