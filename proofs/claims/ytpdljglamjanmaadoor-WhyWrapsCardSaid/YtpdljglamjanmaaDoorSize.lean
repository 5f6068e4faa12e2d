/-
  THE WALK OF fault.size: it comes to 'sizeP', and nothing that was there turns.
-/
import Derived.Test.YtpdljglamjanmaaDoorMem
import Derived.Outline
import Derived.RegionTactic
import Derived.ChangeAlike
import Derived.Deep.QuietTactic
import Derived.BigQuiet
import Derived.Lib.Hide
namespace Go.Proofs.YtpdljglamjanmaaDoor
open Go.RowKit

theorem sizeL_nil (f : Sh → Nat × Nat × Bool) (ks : List Sh) (k n d : Nat) (ok : Bool) (h : ks.length ≤ k) : sizeL f (ks.drop k) n d ok = (n, d + 1, ok) := by
  rw [List.drop_eq_nil_of_le h]; rfl
theorem sizeL_cons (f : Sh → Nat × Nat × Bool) (ks : List Sh) (k n d : Nat) (ok : Bool) (s : Sh) (h : ks[k]? = some s) :
    sizeL f (ks.drop k) n d ok = if (!(ok && (f s).2.2) || decide (50 < n + (f s).1)) then (0, 0, false) else sizeL f (ks.drop (k + 1)) (n + (f s).1) (max d (f s).2.1) (ok && (f s).2.2) := by
  obtain ⟨hl, hs⟩ := List.getElem?_eq_some_iff.1 h
  rw [List.drop_eq_getElem_cons hl, hs]; rfl

set_option maxHeartbeats 1000000 in
theorem size_any (l : Nat) : l ≤ 20 → ∀ (A : Nat → Prop) (s : Sh) (v0 v1 v2 : Value) (w : World), FRep A w s v0 v1 v2 →
    Calls Tryd.prog 35 #[.agg #[v0, v1, v2], .int .i64 l] w fun e w' => e = .returned (.tuple #[.int .i64 (sizeP l s).1, .int .i64 (sizeP l s).2.1, .bool (sizeP l s).2.2]) ∧ Below w.heap.size w w' := by
  induction l with
  | zero =>
    intro _ A s v0 v1 v2 w h
    go_enter Tryd.func35, Tryd.ntmps35
    go_wp2_with fail
    go_ret3
    exact ⟨rfl, (Below.refl _ _).alloc (Nat.le_refl _) _⟩
  | succ l ih =>
    intro hl A s v0 v1 v2 w h
    cases h with
    | mk c op ks a cap b off cs hop hks hcap hcm ha hc hr =>
    by_cases h0 : 0 < c
    · have HS := Lib.hid (sizeP_code l c op ks h0)
      cases ho : op.toList.isEmpty
      all_goals
        have HO := Lib.hid ho
        go_enter Tryd.func35, Tryd.ntmps35
        go_wp2_with fail
        go_quiet (fail)
        go_wp2_with fail
        go_ret3
        rw [HS.out, HO.out]
        refine ⟨?_, bdrewN ((Below.refl _ _).alloc (Nat.le_refl _) _) _⟩
        cases ks <;> simp <;> omega
    · have HS := Lib.hid (sizeP_kids l c op ks h0)
      have IH := Lib.hid (ih (by omega))
      clear ih
      have HR := Lib.hid hr
      have HC := Lib.hid hc
      have HA := Lib.hid ha
      clear hr hc ha
      obtain ⟨X, HF, hc⟩ : ∃ X : Bool, Hid (((c == 0) && !op.toList.isEmpty && !ks.isEmpty) = X) ∧ ((c == 0) = false ∧ X = false ∨ ((c == 0) = true ∧ op.toList.isEmpty = true) ∧ X = false ∨ ((c == 0) = true ∧ op.toList.isEmpty = false) ∧ X = decide (0 < ks.length)) := by
        cases hc0 : (c == 0)
        · exact ⟨false, rfl, .inl ⟨rfl, rfl⟩⟩
        · cases ho : op.toList.isEmpty
          · exact ⟨decide (0 < ks.length), by cases ks <;> simp [Hid], .inr (.inr ⟨⟨rfl, rfl⟩, rfl⟩)⟩
          · exact ⟨false, rfl, .inr (.inl ⟨⟨rfl, rfl⟩, rfl⟩)⟩
      rcases hc with ⟨hc0, rfl⟩ | ⟨⟨hc0, ho⟩, rfl⟩ | ⟨⟨hc0, ho⟩, rfl⟩
      all_goals
        go_enter Tryd.func35, Tryd.ntmps35
        go_wp2_with fail
        go_quiet (fail)
        go_wp2_with fail
        go_loopw [43, 4, 5, 6] (fun vi vn vd vo wr => ∃ (k n d : Nat) (ok : Bool), k ≤ ks.length ∧ n ≤ 50 ∧ d ≤ 1000000 ∧ vi = .int .i64 k ∧ vn = .int .i64 n ∧ vd = .int .i64 d ∧ vo = .bool ok ∧ Hid (sizeL (sizeP l) (ks.drop k) n d ok = sizeP (l + 1) (.mk c op ks)) ∧ Below w.heap.size w wr) (fun vi _ _ _ _ => ks.length - (intOf vi).toNat)
        case atStart => exact ⟨0, 1, 0, _, by omega, by omega, by omega, rfl, rfl, rfl, rfl, by rw [HS.out, HF.out]; exact Lib.hid rfl, bdrewN ((Below.refl _ _).alloc (Nat.le_refl _) _) _⟩
        case round =>
          obtain ⟨k, n, d, ok, hk, hn, hd, rfl, rfl, rfl, rfl, HL, HB⟩ := hrel
          by_cases hlt : k < ks.length
          · obtain ⟨ea, hAb⟩ := HA.out (by omega)
            subst ea
            obtain ⟨s', a', cap', hs', c0, c1, c2, R⟩ := kid_cells HC.out HR.out hAb (Ext.of_below HB) hlt
            have R1 := R.ext (Ext.alloc wr (Obj.cells #[Value.int IntKind.i64 s'.code, Value.string s'.op, Value.slice a' s'.kids.length cap'] 27))
            have HL' := sizeL_cons (sizeP l) ks k n d ok s' hs'
            have hbd := sizeP_bd l s'
            have C := IH.out A s' _ _ _ _ R1
            rw [HL.out] at HL'
            generalize sizeP l s' = r at hbd HL' C
            obtain ⟨m, e, is⟩ := r
            simp only at hbd HL' C
            obtain ⟨hm, he⟩ := hbd
            have CH := Lib.hid C
            by_cases hgo : ok = true ∧ is = true ∧ n + m ≤ 50
            · obtain ⟨rfl, rfl, h50⟩ := hgo
              have HLh : Hid (sizeL (sizeP l) (ks.drop (k + 1)) (n + m) (max d e) true = sizeP (l + 1) (.mk c op ks)) := by
                rw [HL', if_neg (by simp; omega)]; rfl
              have HBh := Lib.hid HB
              clear hs' HL R R1 C HL' HB
              go_wp2_with (refine CH.out.mono ?_; rintro e w1 ⟨rfl, hB1⟩)
              go_roundw
              case rel => exact ⟨k + 1, n + m, max d e, true, by omega, by omega, by omega, by go_num, by go_num, congrArg (Value.int .i64) (by split <;> omega), rfl, HLh.out, bcall (bnew HBh.out _) hB1⟩
              case measure => simp [intOf]; omega
            · have HLh : Hid (sizeP (l + 1) (.mk c op ks) = (0, 0, false)) := by
                rw [HL', if_pos]; · rfl
                revert hgo
                cases ok <;> cases is <;> simp
              clear hs' HL R R1 C HL'
              have HG := Lib.hid hgo
              clear hgo
              cases ok
              · go_wp2_with (refine CH.out.mono ?_; rintro e w1 ⟨rfl, hB1⟩)
                all_goals
                  go_ret3
                  exact ⟨by rw [HLh.out]; rfl, bcall (bnew HB _) hB1⟩
              · cases is
                · go_wp2_with (refine CH.out.mono ?_; rintro e w1 ⟨rfl, hB1⟩)
                  all_goals
                    go_ret3
                    exact ⟨by rw [HLh.out]; rfl, bcall (bnew HB _) hB1⟩
                · have h50 : (50 : Int) < n + m := by have := HG.out; simp at this; omega
                  go_wp2_with (refine CH.out.mono ?_; rintro e w1 ⟨rfl, hB1⟩)
                  all_goals
                    go_ret3
                    exact ⟨by rw [HLh.out]; rfl, bcall (bnew HB _) hB1⟩
          · have HL' := HL.out
            rw [sizeL_nil _ _ _ _ _ _ (by omega)] at HL'
            have HLh := Lib.hid HL'
            clear HL'
            go_wp2_with fail
            go_ret3
            exact ⟨by rw [← HLh.out]; simp, HB⟩
end Go.Proofs.YtpdljglamjanmaaDoor
