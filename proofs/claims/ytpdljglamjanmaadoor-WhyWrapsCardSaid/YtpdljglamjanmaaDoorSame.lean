/-
  tarpaulinref9.SameShape AT TWO READINGS OF ONE SHAPE: true.
-/
import Derived.Test.YtpdljglamjanmaaDoorKids
import Derived.RegionTactic
import Derived.ChangeAlike
import Derived.BigRegion
import Derived.Deep.RegionHeld3
import Derived.Deep.DrawnRows
import Derived.Outline
namespace Go.Proofs.YtpdljglamjanmaaDoor
open Go.RowKit

set_option maxHeartbeats 2000000 in
theorem same_any {A A' : Nat → Prop} {w : World} {s : Sh} {x y z : Value} (h : FRep A w s x y z) : ∀ (x' y' z' : Value) (W : World), Ext A w W → FRep A' W s x' y' z' →
    Calls Tryd.prog 16 #[.agg #[x, y, z], .agg #[x', y', z']] W fun e w' => e = .returned (.bool true) ∧ Below W.heap.size W w' := by
  induction h with
  | mk c op ks a cap b off cs hop hks hcap hcm ha hc hr ih =>
  intro x' y' z' W hE h'
  cases h' with
  | mk c op ks a2 cap2 b2 off2 cs2 hop2 hks2 hcap2 hcm2 ha2 hc2 hr2 =>
  have HA := Lib.hid ha
  have HC := Lib.hid hc
  have HR := Lib.hid hr
  have HI := Lib.hid ih
  have HA2 := Lib.hid ha2
  have HC2 := Lib.hid hc2
  have HR2 := Lib.hid hr2
  have HE := Lib.hid hE
  have e1 : (c != c) = false := by simp
  have e2 : (!op.toList == op.toList) = false := by simp
  have e3 : (op.toList != op.toList) = false := by simp
  clear ha hc hr ih ha2 hc2 hr2 hE
  go_enter Tryd.func16, Tryd.ntmps16
  go_wp2_with fail
  go_loopw [5] (fun vi wr => ∃ k : Nat, k ≤ ks.length ∧ vi = .int .i64 k ∧ Below W.heap.size W wr ∧ wr.cell? ⟨W.heap.size, 2, none⟩ = some (.slice a ks.length cap) ∧ wr.cell? ⟨W.heap.size + 1, 2, none⟩ = some (.slice a2 ks.length cap2)) (fun vi _ => ks.length - (intOf vi).toNat)
  case atStart => exact ⟨0, by omega, rfl, bnew (bnew (Below.refl _ W) _) _, keep_alloc (by simp), by simp⟩
  case round =>
    obtain ⟨k, hkl, rfl, HB, q1, q2⟩ := hrel
    by_cases hlt : k < ks.length
    · obtain ⟨rfl, hAb⟩ := HA.out (by omega)
      obtain ⟨rfl, hAb2⟩ := HA2.out (by omega)
      have hkc : (k : Int) < (ks.length : Int) := by omega
      have hk0 : (0 : Int) ≤ (k : Int) := by omega
      have EX : Ext A w wr := HE.out.trans (Ext.of_below HB)
      have hs' : ks[k]? = some ks[k] := List.getElem?_eq_getElem hlt
      obtain ⟨a', cp', f0, f1, f2⟩ := (HR.out k _ hs').form
      obtain ⟨c0, c1, c2⟩ := three_cells HC.out hlt
      have c0 := EX _ _ hAb c0
      have c1 := EX _ _ hAb c1
      have c2 := EX _ _ hAb c2
      have C := HI.out k _ hs'
      rw [f0] at c0 C
      rw [f1] at c1 C
      rw [f2] at c2 C
      obtain ⟨s2, a2', cp2', hs2, d0, d1, d2, R2⟩ := kid_cells HC2.out HR2.out hAb2 (Ext.of_below HB) hlt
      obtain rfl : ks[k] = s2 := by rw [hs'] at hs2; injection hs2
      have C := C _ _ _ wr.drew (Ext.drew EX) (R2.ext (Ext.drew (Ext.refl _ wr)))
      generalize ks[k] = s' at c0 c1 c2 d0 d1 d2 C
      have CH := Lib.hid C
      clear C EX hs' f0 f1 f2 hs2 R2
      go_wp2_with fail
      go_region_held3 (fun w' => w'.cell? ⟨W.heap.size, 2, none⟩ = some (.slice (some ⟨b, off, none⟩) ks.length cap) ∧ w'.cell? ⟨W.heap.size + 1, 2, none⟩ = some (.slice (some ⟨b2, off2, none⟩) ks.length cap2) ∧
          w'.cell? ⟨b, off + k * 3, none⟩ = some (.int .i64 s'.code) ∧ w'.cell? ⟨b, off + k * 3 + 1, none⟩ = some (.string s'.op) ∧ w'.cell? ⟨b, off + k * 3 + 2, none⟩ = some (.slice a' s'.kids.length cp') ∧
          w'.cell? ⟨b2, off2 + k * 3, none⟩ = some (.int .i64 s'.code) ∧ w'.cell? ⟨b2, off2 + k * 3 + 1, none⟩ = some (.string s'.op) ∧ w'.cell? ⟨b2, off2 + k * 3 + 2, none⟩ = some (.slice a2' s'.kids.length cp2'))
        (first | go_keep | (go_split_ands; refine ⟨?_, ?_, ?_, ?_, ?_, ?_, ?_, ?_⟩ <;> exact keep_below hB (by assumption)))
        (first | (go_at_call 16; refine CH.out.mono ?_; rintro e w1 ⟨rfl, hB⟩))
      go_wp2_with fail
      go_roundw
      case rel => exact ⟨k + 1, by omega, by go_num, bcall (bdrewN HB 1) hB, keep_below hB q1, keep_below hB q2⟩
      case measure => simp [intOf]; omega
    · go_wp2_with fail
      go_ret
      exact ⟨rfl, HB⟩
end Go.Proofs.YtpdljglamjanmaaDoor
