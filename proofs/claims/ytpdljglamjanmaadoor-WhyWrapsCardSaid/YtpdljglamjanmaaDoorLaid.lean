/-
  FROM 'errors.errorType READS AS LISTED' TO THE VARIABLE's CELL; a world that meets it.
-/
import Derived.Test.YtpdljglamjanmaaDoorRows
import Derived.Test.YtpdljglamjanmaaDoorAs
import Derived.ChangeSame
import Derived.ChangeVars
import Derived.JoinedOf
import Derived.RowKit
import Derived.RowKitTokens
import Derived.LaidLaws
import Derived.LaidHandle
import Derived.Stop.Joined
import Derived.ProofKit
import Derived.OpenShut
import Derived.ShutString
import Derived.ChangeOld
import Derived.Below
namespace Go.Proofs.YtpdljglamjanmaaDoor
open Go.ChangeShapes Go.WideShapes Go.RowKit Go.ChangeAt
open Go.ChangeMaps (open_string shut_string)

theorem ownK : ownKnob Tryd.prog.godebug = none := by kernel_rfl
theorem laidOutK : laidOutB Tryd.prog = true := by kernel_rfl
theorem etK : Tryd.prog.globalNamed "errors.errorType" = some 0 := by kernel_rfl
theorem rtK : (Tryd.prog.cutTypes.find? (·.1 == "internal/reflectlite.rtype")).map (·.2) = some 91 := by kernel_rfl
theorem oneRowK : ((List.range 160).filter fun t => Tryd.prog.rowNamed t [101, 114, 114, 111, 114]) = [29] := by kernel_rfl
theorem sizeK : Tryd.prog.types.size = 160 := by kernel_rfl

/-- What the listed variable is. -/
noncomputable abbrev laidE : List (String × DataW Unit) := [("errors.errorType", Rows.laid_errors_errorType)]

theorem errT_of_handles {W : World} {l : List (String × DataW Unit)} (h : handlesMet Tryd.prog l W) (hm : ("errors.errorType", (Rows.laid_errors_errorType : DataW Unit)) ∈ l) : ErrT W := by
  obtain ⟨name, u, ty, e1, e2, e3, e4, e5⟩ := h _ hm
  have en : name = [101, 114, 114, 111, 114] := (Option.some.inj e1).symm
  subst en
  obtain rfl := Option.some.inj (rtK.symm.trans e2)
  have hm : ty ∈ (List.range 160).filter fun t => Tryd.prog.rowNamed t [101, 114, 114, 111, 114] := List.mem_filter.2 ⟨List.mem_range.2 (by rw [← sizeK]; exact e3), e4⟩
  rw [oneRowK] at hm
  obtain rfl := List.mem_singleton.1 hm
  have hh : typeHandle Tryd.prog 29 = .pointer (some ⟨5, 29, none⟩) := by kernel_rfl
  rw [hh] at e5
  show W.cell? ⟨0, 0, none⟩ = some (.iface 91 (.agg #[.pointer (some ⟨5, 29, none⟩)]))
  simpa using World.var?_cell etK e5 0

theorem errT_of_laid {W : World} (h : laidMetH Tryd.prog laidE W) : ErrT W := by
  have h' : laidMet Tryd.prog [] W ∧ handlesMet Tryd.prog laidE W := h
  exact errT_of_handles h'.2 (List.mem_singleton.2 rfl)

/-- A world that meets the condition: the settled one, the variable's cell laid. -/
noncomputable def laidWorld (os : Os) : World :=
  let w0 := World.holding Tryd.prog os ⟨#[], #[], []⟩
  { w0 with heap := w0.heap.modify 0 fun
      | .cells _ t frozen => .cells #[.iface 91 (.agg #[.pointer (some ⟨5, 29, none⟩)])] t frozen
      | o => o }
theorem laidWorld_met (os : Os) (args : Array Value) : laidMetH Tryd.prog laidE ((laidWorld os).forCall (fun _ _ => 0) ⟨#[], args, []⟩).memory :=
  laidMetH_of_parts (laidMet_nil _ _) (by kernel_rfl)
end Go.Proofs.YtpdljglamjanmaaDoor
