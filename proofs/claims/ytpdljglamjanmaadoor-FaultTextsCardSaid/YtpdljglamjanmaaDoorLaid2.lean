/-
  FROM 'the four listed variables read as listed' TO what the walk wants; a world that meets it.
-/
import Derived.Test.YtpdljglamjanmaaDoorLaid
import Derived.Lib.LaidTab
import Derived.Lib.ItoaNum
import Derived.Lay
namespace Go.Proofs.YtpdljglamjanmaaDoor
open Go.ChangeShapes Go.WideShapes Go.RowKit Go.ChangeAt

noncomputable abbrev laidD : List (String × DataW Unit) := [("math/bits.deBruijn32tab", Rows.laid_math_bits_deBruijn32tab), ("math/bits.deBruijn64tab", Rows.laid_math_bits_deBruijn64tab), ("internal/strconv.uint64pow10", Rows.laid_internal_strconv_uint64pow10)]
noncomputable abbrev laidT : List (String × DataW Unit) := [("math/bits.deBruijn32tab", Rows.laid_math_bits_deBruijn32tab), ("math/bits.deBruijn64tab", Rows.laid_math_bits_deBruijn64tab), ("internal/strconv.uint64pow10", Rows.laid_internal_strconv_uint64pow10), ("errors.errorType", Rows.laid_errors_errorType)]

theorem laidT_parts {W : World} (h : laidMetH Tryd.prog laidT W) : laidMet Tryd.prog laidD W ∧ handlesMet Tryd.prog laidE W := h
theorem errT_of_laidT {W : World} (h : laidMetH Tryd.prog laidT W) : ErrT W := errT_of_handles (laidT_parts h).2 (List.mem_singleton.2 rfl)
theorem pow1K : Tryd.prog.globalNamed "internal/strconv.uint64pow10" = some 1 := by kernel_rfl
theorem powTyK : (Tryd.prog.globals[1]?).map (·.type) = some 112 := by kernel_rfl
theorem cells88K : Tryd.prog.cellsOf 88 = 1 := by kernel_rfl
theorem cells112K : Tryd.prog.cellsOf 112 = 20 := by kernel_rfl
theorem powDK : (Rows.laid_internal_strconv_uint64pow10 : DataW Unit) = Lib.tabData .u64 Lib.pow10Tab := by kernel_rfl
theorem tab_of_laidT {W : World} (h : laidMetH Tryd.prog laidT W) : Lib.TabIs Tryd.prog W "internal/strconv.uint64pow10" .u64 Lib.pow10Tab := by
  obtain ⟨ps, ⟨_, _, _, _, _, _, _, _, _, _, ⟨_, _, _, _, _, _, _, _, _, _, ⟨g, t, cs, fuel, p, q, hg, ht, hvar, hd, _⟩, _⟩, _⟩, _⟩ := (laidT_parts h).1
  obtain rfl := Option.some.inj (pow1K.symm.trans hg)
  obtain rfl := Option.some.inj (powTyK.symm.trans ht)
  unfold Lib.TabIs
  rw [powDK] at hd
  rw [hvar, ← Lib.cells_of_tab Tryd.underlying112 Tryd.underlying88 cells88K cells112K hd]

noncomputable def laidWorldT (os : Os) : World :=
  let w0 := (World.holding Tryd.prog os ⟨#[], #[], []⟩).layVars Tryd.prog laidD
  { w0 with heap := w0.heap.modify 0 fun
      | .cells _ t frozen => .cells #[.iface 91 (.agg #[.pointer (some ⟨5, 29, none⟩)])] t frozen
      | o => o }
theorem laidWorldT_met (os : Os) (args : Array Value) : laidMetH Tryd.prog laidT ((laidWorldT os).forCall (fun _ _ => 0) ⟨#[], args, []⟩).memory :=
  laidMetH_of_parts (laidMet_of_run' 8 (by kernel_rfl) (by kernel_rfl)) (by kernel_rfl)
end Go.Proofs.YtpdljglamjanmaaDoor
