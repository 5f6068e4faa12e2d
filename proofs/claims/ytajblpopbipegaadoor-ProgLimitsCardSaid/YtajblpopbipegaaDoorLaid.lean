/-
  FROM 'the listed variables read as listed' TO the table that the walk wants; a world that meets it.
-/
import Derived.Test.YtajblpopbipegaaDoorRows
import Derived.Test.YtajblpopbipegaaDoorAwake
import Derived.Test.YtajblpopbipegaaDoorOpen
import Derived.ChangeSame
import Derived.ChangeVars
import Derived.JoinedOf
import Derived.RowKit
import Derived.RowKitTokens
import Derived.LaidLaws
import Derived.LaidHandle
import Derived.ProofKit
import Derived.OpenShut
import Derived.ChangeOld
import Derived.Below
import Derived.Lib.LaidTab
import Derived.Lay
import Derived.Carry
namespace Go.Proofs.YtajblpopbipegaaDoor
open Go.ChangeShapes Go.WideShapes Go.RowKit Go.ChangeAt

theorem ownK : ownKnob Tryd.prog.godebug = none := by kernel_rfl
noncomputable abbrev laidL : List (String × DataW Unit) := [("unicode.White_Space", Rows.laid_unicode_White_Space), ("strings.asciiSpace", Rows.laid_strings_asciiSpace)]
theorem laid_parts {W : World} (h : laidMetH Tryd.prog laidL W) : laidMet Tryd.prog laidL W := h
theorem spaceTyK : (Tryd.prog.globalNamed "strings.asciiSpace").bind (fun g => (Tryd.prog.globals[g]?).map (·.type)) = some 55 := by kernel_rfl
theorem cells5K : Tryd.prog.cellsOf 5 = 1 := by kernel_rfl
theorem cells55K : Tryd.prog.cellsOf 55 = 256 := by kernel_rfl
theorem spaceDK : (Rows.laid_strings_asciiSpace : DataW Unit) = Lib.tabData .u8 Lib.asciiSpaceTab := by kernel_rfl
theorem tab_of_laid {W : World} (h : laidMetH Tryd.prog laidL W) : TabS W := by
  obtain ⟨ps, ⟨_, _, _, _, _, _, _, _, _, _, ⟨g, t, cs, fuel, p, q, hg, ht, hvar, hd, _⟩, _⟩, _⟩ := laid_parts h
  have hty := spaceTyK
  rw [hg] at hty
  obtain rfl := Option.some.inj (ht.symm.trans hty)
  show Lib.TabIs Tryd.prog W "strings.asciiSpace" .u8 Lib.asciiSpaceTab
  unfold Lib.TabIs
  rw [spaceDK] at hd
  rw [hvar, ← Lib.cells_of_tab Tryd.underlying55 Tryd.underlying5 cells5K cells55K hd]

noncomputable def laidWorld (os : Os) : World := (World.holding Tryd.prog os ⟨#[], #[], []⟩).layVars Tryd.prog laidL
theorem laidWorld_met (os : Os) (args : Array Value) : laidMetH Tryd.prog laidL ((laidWorld os).forCall (fun _ _ => 0) ⟨#[], args, []⟩).memory :=
  laidMetH_of_parts (laidMet_of_run' 8 (by kernel_rfl) (by kernel_rfl)) (by kernel_rfl)
end Go.Proofs.YtajblpopbipegaaDoor
