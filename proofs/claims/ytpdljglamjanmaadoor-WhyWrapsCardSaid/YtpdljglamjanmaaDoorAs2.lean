/-
  errors.As AT A VARIABLE OF TYPE *wrap.
-/
import Derived.Test.YtpdljglamjanmaaDoorAs
namespace Go.Proofs.YtpdljglamjanmaaDoor
open Go.RowKit Go.Extern.Stop Go.Stop Go.Extern

set_option maxHeartbeats 1000000 in
theorem as_wrap_wrap (x : Addr) (t : Addr) (a : Nat) (old : Value) (w : World) (ha : w.cell? ⟨a, 0, none⟩ = some (.pointer (some t))) (ht0 : w.cell? t = some old) (hf0 : w.frozen? t = false) :
    Calls Tryd.prog 46 #[.iface 66 (.pointer (some x)), .iface 67 (.pointer (some t)), rv 67 ⟨a, 0, none⟩ 150, .iface 91 (rt 66)] w fun e w' => e = .returned (.bool true) ∧ Below w.heap.size (w.setCell t (.pointer (some x))) w' := by
  have h41 := @run_callFunc_extern Tryd.prog 41 _ ReflectliteType.typeOf Tryd.func41 (by kernel_rfl) (by kernel_rfl) (by kernel_rfl) (by kernel_rfl)
  have h95 := @run_callFunc_extern Tryd.prog 95 _ (ReflectliteType.relation "AssignableTo" ReflectliteType.assignableTo) Tryd.func95 (by kernel_rfl) (by kernel_rfl) (by kernel_rfl) (by kernel_rfl)
  have h43 := @run_callFunc_extern Tryd.prog 43 _ (fun args => ReflectliteValue.unpack (args.getD 0 (.tuple #[]))) Tryd.func43 (by kernel_rfl) (by kernel_rfl) (by kernel_rfl) (by kernel_rfl)
  have h48 := @run_callFunc_extern Tryd.prog 48 _ (ReflectliteValue.method (ReflectliteValue.valueError "reflectlite.Value.Elem" 0) ReflectliteValue.elem) Tryd.func48 (by kernel_rfl) (by kernel_rfl) (by kernel_rfl) (by kernel_rfl)
  have h49 := @run_callFunc_extern Tryd.prog 49 _ ReflectliteValue.set Tryd.func49 (by kernel_rfl) (by kernel_rfl) (by kernel_rfl) (by kernel_rfl)
  have tO := typeOf66
  have a4 := assign6666
  have v4 := valueOf66
  have mA := mAssign
  have hal := cell_lt ha
  have htl := cell_lt ht0
  have el := elemV67 ⟨a, 0, none⟩ t (w.alloc (.cells #[.pointer (some ⟨5, 67, none⟩), .pointer (some ⟨a, 0, none⟩), .int .u64 150] 81)) (keep_alloc ha)
  have st := set66 t ⟨w.heap.size + 1, 0, none⟩ x old ((w.alloc (.cells #[.pointer (some ⟨5, 67, none⟩), .pointer (some ⟨a, 0, none⟩), .int .u64 150] 81)).alloc (.cells #[.pointer (some x)] 66))
    (by rw [World.cell?_alloc_at _ _ _ _ (by simp)]; rfl) (keep_alloc (keep_alloc ht0)) (by rw [World.frozen?_alloc_old _ _ t (by simp; omega), World.frozen?_alloc_old _ _ t (by omega)]; exact hf0)
  go_enter Tryd.func46, Tryd.ntmps46
  go_wp2
  refine wp_loop_rounds 1 ?_
  rw [rounds_succ]
  go_wp2
  go_ret
  exact ⟨rfl, below_set2 (bnew (bnew (Below.refl _ w) _) _) _ _⟩
set_option maxHeartbeats 1000000 in
/-- On an error of errors.New's make: nothing is found. -/
theorem as_wrap_str (p : Value) (t : Addr) (a : Nat) (w : World) :
    Calls Tryd.prog 46 #[.iface 71 p, .iface 67 (.pointer (some t)), rv 67 ⟨a, 0, none⟩ 150, .iface 91 (rt 66)] w fun e w' => e = .returned (.bool false) ∧ Below w.heap.size w w' := by
  have h41 := @run_callFunc_extern Tryd.prog 41 _ ReflectliteType.typeOf Tryd.func41 (by kernel_rfl) (by kernel_rfl) (by kernel_rfl) (by kernel_rfl)
  have h95 := @run_callFunc_extern Tryd.prog 95 _ (ReflectliteType.relation "AssignableTo" ReflectliteType.assignableTo) Tryd.func95 (by kernel_rfl) (by kernel_rfl) (by kernel_rfl) (by kernel_rfl)
  have tO := typeOf71
  have a4 := assign7166
  have mA := mAssign
  have la := lacks71a
  have lu := lacks71u
  have hu := lacks71us
  go_enter Tryd.func46, Tryd.ntmps46
  go_wp2_with fail
  refine wp_loop_rounds 1 ?_
  rw [rounds_succ]
  go_wp2_with fail
  go_ret
  exact ⟨rfl, bnew (Below.refl _ w) _⟩

set_option maxHeartbeats 2000000 in
theorem As_wrap (x : Addr) (t : Addr) (old : Value) (w : World) (hT : ErrT w) (ht0 : w.cell? t = some old) (hf0 : w.frozen? t = false) :
    Calls Tryd.prog 37 #[.iface 66 (.pointer (some x)), .iface 67 (.pointer (some t))] w fun e w' => e = .returned (.bool true) ∧ Below w.heap.size (w.setCell t (.pointer (some x))) w' := by
  have h43 := @run_callFunc_extern Tryd.prog 43 _ (fun args => ReflectliteValue.unpack (args.getD 0 (.tuple #[]))) Tryd.func43 (by kernel_rfl) (by kernel_rfl) (by kernel_rfl) (by kernel_rfl)
  have h44 := @run_callFunc_extern Tryd.prog 44 _ (ReflectliteValue.methodAny (ReflectliteValue.valueError "reflectlite.Value.Type" 0) (fun t _ _ _ => ReflectliteType.toType t)) Tryd.func44 (by kernel_rfl) (by kernel_rfl) (by kernel_rfl) (by kernel_rfl)
  have h45 := @run_callFunc_extern Tryd.prog 45 _ (ReflectliteValue.method (ReflectliteValue.valueError "reflectlite.Value.IsNil" 0) ReflectliteValue.isNil) Tryd.func45 (by kernel_rfl) (by kernel_rfl) (by kernel_rfl) (by kernel_rfl)
  have h76 := @run_callFunc_extern Tryd.prog 76 _ (ReflectliteType.abiMethod fun t => do pure (.int .u8 (← Rtype.kind t))) Tryd.func76 (by kernel_rfl) (by kernel_rfl) (by kernel_rfl) (by kernel_rfl)
  have h97 := @run_callFunc_extern Tryd.prog 97 _ (ReflectliteType.method ReflectliteType.elem) Tryd.func97 (by kernel_rfl) (by kernel_rfl) (by kernel_rfl) (by kernel_rfl)
  have h98 := @run_callFunc_extern Tryd.prog 98 _ (ReflectliteType.relation "Implements" ReflectliteType.implements_) Tryd.func98 (by kernel_rfl) (by kernel_rfl) (by kernel_rfl) (by kernel_rfl)
  have v6 := valueOf67
  have f7 := type67
  have mK := mKind
  have mE := mElem
  have mI := mImplements
  have k67 := kind67
  have k66 := kind66
  have e67 := elem67
  have i66 := implements66
  have hT' : w.cell? ⟨0, 0, none⟩ = some (.iface 91 (rt 29)) := hT
  have hT2 := keep_alloc (o := Obj.cells #[.pointer (some ⟨5, 67, none⟩), .pointer (some ⟨w.heap.size, 0, none⟩), .int .u64 150] 81) (keep_alloc (o := Obj.cells #[.pointer (some t)] 67) hT')
  have n8 := isNil67 ⟨w.heap.size, 0, none⟩ t ((w.alloc (.cells #[.pointer (some t)] 67)).alloc (.cells #[.pointer (some ⟨5, 67, none⟩), .pointer (some ⟨w.heap.size, 0, none⟩), .int .u64 150] 81)) (by simp)
  have C := as_wrap_wrap x t w.heap.size old ((w.alloc (.cells #[.pointer (some t)] 67)).alloc (.cells #[.pointer (some ⟨5, 67, none⟩), .pointer (some ⟨w.heap.size, 0, none⟩), .int .u64 150] 81)) (by simp) (keep_alloc (keep_alloc ht0)) (by
    rw [World.frozen?_alloc_old _ _ t (by have := cell_lt ht0; simp; omega), World.frozen?_alloc_old _ _ t (by have := cell_lt ht0; omega)]; exact hf0)
  have CH := Lib.hid C
  have hb := Lib.hid (below_set2 (bnew (bnew (Below.refl _ w) (.cells #[.pointer (some t)] 67)) (.cells #[.pointer (some ⟨5, 67, none⟩), .pointer (some ⟨w.heap.size, 0, none⟩), .int .u64 150] 81)) t (.pointer (some x)))
  clear C hT hT' ht0 hf0
  go_enter Tryd.func37, Tryd.ntmps37
  go_wp2_with (go_at_call 46; refine CH.out.mono ?_; rintro e w2 ⟨rfl, hB2⟩)
  go_ret
  exact ⟨rfl, hb.out.trans (hB2.mono (by simp; omega))⟩

set_option maxHeartbeats 2000000 in
theorem As_wrap_str (p : Value) (t : Addr) (w : World) (hT : ErrT w) :
    Calls Tryd.prog 37 #[.iface 71 p, .iface 67 (.pointer (some t))] w fun e w' => e = .returned (.bool false) ∧ Below w.heap.size w w' := by
  have h43 := @run_callFunc_extern Tryd.prog 43 _ (fun args => ReflectliteValue.unpack (args.getD 0 (.tuple #[]))) Tryd.func43 (by kernel_rfl) (by kernel_rfl) (by kernel_rfl) (by kernel_rfl)
  have h44 := @run_callFunc_extern Tryd.prog 44 _ (ReflectliteValue.methodAny (ReflectliteValue.valueError "reflectlite.Value.Type" 0) (fun t _ _ _ => ReflectliteType.toType t)) Tryd.func44 (by kernel_rfl) (by kernel_rfl) (by kernel_rfl) (by kernel_rfl)
  have h45 := @run_callFunc_extern Tryd.prog 45 _ (ReflectliteValue.method (ReflectliteValue.valueError "reflectlite.Value.IsNil" 0) ReflectliteValue.isNil) Tryd.func45 (by kernel_rfl) (by kernel_rfl) (by kernel_rfl) (by kernel_rfl)
  have h76 := @run_callFunc_extern Tryd.prog 76 _ (ReflectliteType.abiMethod fun t => do pure (.int .u8 (← Rtype.kind t))) Tryd.func76 (by kernel_rfl) (by kernel_rfl) (by kernel_rfl) (by kernel_rfl)
  have h97 := @run_callFunc_extern Tryd.prog 97 _ (ReflectliteType.method ReflectliteType.elem) Tryd.func97 (by kernel_rfl) (by kernel_rfl) (by kernel_rfl) (by kernel_rfl)
  have h98 := @run_callFunc_extern Tryd.prog 98 _ (ReflectliteType.relation "Implements" ReflectliteType.implements_) Tryd.func98 (by kernel_rfl) (by kernel_rfl) (by kernel_rfl) (by kernel_rfl)
  have v6 := valueOf67
  have f7 := type67
  have mK := mKind
  have mE := mElem
  have mI := mImplements
  have k67 := kind67
  have k66 := kind66
  have e67 := elem67
  have i66 := implements66
  have hT' : w.cell? ⟨0, 0, none⟩ = some (.iface 91 (rt 29)) := hT
  have hT2 := keep_alloc (o := Obj.cells #[.pointer (some ⟨5, 67, none⟩), .pointer (some ⟨w.heap.size, 0, none⟩), .int .u64 150] 81) (keep_alloc (o := Obj.cells #[.pointer (some t)] 67) hT')
  have n8 := isNil67 ⟨w.heap.size, 0, none⟩ t ((w.alloc (.cells #[.pointer (some t)] 67)).alloc (.cells #[.pointer (some ⟨5, 67, none⟩), .pointer (some ⟨w.heap.size, 0, none⟩), .int .u64 150] 81)) (by simp)
  have C := as_wrap_str p t w.heap.size ((w.alloc (.cells #[.pointer (some t)] 67)).alloc (.cells #[.pointer (some ⟨5, 67, none⟩), .pointer (some ⟨w.heap.size, 0, none⟩), .int .u64 150] 81))
  have CH := Lib.hid C
  have hb := Lib.hid (bnew (bnew (Below.refl _ w) (.cells #[.pointer (some t)] 67)) (.cells #[.pointer (some ⟨5, 67, none⟩), .pointer (some ⟨w.heap.size, 0, none⟩), .int .u64 150] 81))
  clear C hT hT'
  go_enter Tryd.func37, Tryd.ntmps37
  go_wp2_with (go_at_call 46; refine CH.out.mono ?_; rintro e w2 ⟨rfl, hB2⟩)
  go_ret
  exact ⟨rfl, bcall hb.out hB2⟩
end Go.Proofs.YtpdljglamjanmaaDoor
