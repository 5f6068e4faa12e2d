/-
  tarpaulinlaw16.WhyIs: THE WALK.
-/
import Derived.Test.YtpdljglamjanmaaDoorWhy
namespace Go.Proofs.YtpdljglamjanmaaDoor
open Go.RowKit Go.Extern.Stop Go.Stop Go.Extern

set_option maxHeartbeats 4000000 in
theorem whyis_any (asked : Bool) (c : Int) (w : World) (hT : ErrT w) : Calls Tryd.prog 8 #[.bool asked, .int .i64 c] w fun e w' => e = .returned (.bool true) ∧ Below w.heap.size w w' := by
  have HT := Lib.hid hT
  clear hT
  cases asked with
  | true =>
    have CC := Lib.hid (wcause_any 2 c (.inr rfl) w HT.out)
    have E2 := Lib.hid (show hasO 2 (causeS 2 c) = true by rw [hasO_cause _ _ _ (.inr rfl)]; exact decide_eq_true (.inl rfl))
    have E1 := Lib.hid (show hasO 1 (causeS 2 c) = (c == 1) by
      rw [hasO_cause _ _ _ (.inr rfl), Bool.beq_eq_decide_eq]
      exact decide_eq_decide.2 (by omega))
    by_cases hc : c < 1
    · have d0 : decide (c < 1) = true := by simpa using hc
      have d1 : (c == 1) = false := by simp; omega
      go_enter Tryd.func8, Tryd.ntmps8
      go_wp2_with fail
      refine CC.out.mono ?_
      rintro e w1 ⟨v, rfl, hv, hB1⟩
      have C1 := wis_any 2 w1 hv
      rw [E2.out] at C1
      have C1h := Lib.hid C1
      clear C1
      go_wp2_with fail
      refine C1h.out.mono ?_
      rintro e w2 ⟨rfl, hB2⟩
      have hb2 := bcall hB1 hB2
      have C2 := wis_any 1 w2 (hv.ext (Ext.of_below hB2))
      rw [E1.out, d1] at C2
      have C2h := Lib.hid C2
      clear C2
      go_wp2_with fail
      refine C2h.out.mono ?_
      rintro e w3 ⟨rfl, hB3⟩
      have hb3 := bcall hb2 hB3
      have C3 := wtime_any w3 ((hv.ext (Ext.of_below hB2)).ext (Ext.of_below hB3))
      rw [E2.out] at C3
      have C3h := Lib.hid C3
      clear C3
      go_wp2_with fail
      refine C3h.out.mono ?_
      rintro e w4 ⟨rfl, hB4⟩
      have hb4 := bcall hb3 hB4
      go_wp2_with fail
      refine (wawake_any w4 (errT_keep HT.out hb4)).mono ?_
      rintro e w5 ⟨rfl, hB5⟩
      go_wp2_with fail
      go_ret
      exact ⟨rfl, bcall hb4 hB5⟩
    · have d0 : decide (c < 1) = false := by simpa using hc
      have E3 := Lib.hid (show hasO c (causeS 2 c) = true by rw [hasO_cause _ _ _ (.inr rfl)]; exact decide_eq_true (.inr ⟨by omega, rfl⟩))
      cases d1 : (c == 1) <;> (
        go_enter Tryd.func8, Tryd.ntmps8
        go_wp2_with fail
        refine CC.out.mono ?_
        rintro e w1 ⟨v, rfl, hv, hB1⟩
        have C1 := wis_any 2 w1 hv
        rw [E2.out] at C1
        have C1h := Lib.hid C1
        clear C1
        go_wp2_with fail
        refine C1h.out.mono ?_
        rintro e w1' ⟨rfl, hB1'⟩
        have hb1' := bcall hB1 hB1'
        have hv' := hv.ext (Ext.of_below hB1')
        have C4 := wis_any c w1' hv'
        rw [E3.out] at C4
        have C4h := Lib.hid C4
        clear C4
        go_wp2_with fail
        refine C4h.out.mono ?_
        rintro e w2 ⟨rfl, hB2⟩
        have hb2 := bcall hb1' hB2
        have C2 := wis_any 1 w2 (hv'.ext (Ext.of_below hB2))
        rw [E1.out, d1] at C2
        have C2h := Lib.hid C2
        clear C2
        go_wp2_with fail
        refine C2h.out.mono ?_
        rintro e w3 ⟨rfl, hB3⟩
        have hb3 := bcall hb2 hB3
        have C3 := wtime_any w3 ((hv'.ext (Ext.of_below hB2)).ext (Ext.of_below hB3))
        rw [E2.out] at C3
        have C3h := Lib.hid C3
        clear C3
        go_wp2_with fail
        refine C3h.out.mono ?_
        rintro e w4 ⟨rfl, hB4⟩
        have hb4 := bcall hb3 hB4
        go_wp2_with fail
        refine (wawake_any w4 (errT_keep HT.out hb4)).mono ?_
        rintro e w5 ⟨rfl, hB5⟩
        go_wp2_with fail
        go_ret
        exact ⟨rfl, bcall hb4 hB5⟩)
  | false =>
    have CC := Lib.hid (wcause_any 1 c (.inl rfl) w HT.out)
    have E2 := Lib.hid (show hasO 1 (causeS 1 c) = true by rw [hasO_cause _ _ _ (.inl rfl)]; exact decide_eq_true (.inl rfl))
    have E1 := Lib.hid (show hasO 2 (causeS 1 c) = (c == 2) by
      rw [hasO_cause _ _ _ (.inl rfl), Bool.beq_eq_decide_eq]
      exact decide_eq_decide.2 (by omega))
    by_cases hc : c < 1
    · have d0 : decide (c < 1) = true := by simpa using hc
      have d1 : (c == 2) = false := by simp; omega
      go_enter Tryd.func8, Tryd.ntmps8
      go_wp2_with fail
      refine CC.out.mono ?_
      rintro e w1 ⟨v, rfl, hv, hB1⟩
      have C1 := wis_any 1 w1 hv
      rw [E2.out] at C1
      have C1h := Lib.hid C1
      clear C1
      go_wp2_with fail
      refine C1h.out.mono ?_
      rintro e w2 ⟨rfl, hB2⟩
      have hb2 := bcall hB1 hB2
      have C2 := wis_any 2 w2 (hv.ext (Ext.of_below hB2))
      rw [E1.out, d1] at C2
      have C2h := Lib.hid C2
      clear C2
      go_wp2_with fail
      refine C2h.out.mono ?_
      rintro e w3 ⟨rfl, hB3⟩
      have hb3 := bcall hb2 hB3
      have C3 := wtime_any w3 ((hv.ext (Ext.of_below hB2)).ext (Ext.of_below hB3))
      rw [E1.out, d1] at C3
      have C3h := Lib.hid C3
      clear C3
      go_wp2_with fail
      refine C3h.out.mono ?_
      rintro e w4 ⟨rfl, hB4⟩
      have hb4 := bcall hb3 hB4
      go_wp2_with fail
      refine (wawake_any w4 (errT_keep HT.out hb4)).mono ?_
      rintro e w5 ⟨rfl, hB5⟩
      go_wp2_with fail
      go_ret
      exact ⟨rfl, bcall hb4 hB5⟩
    · have d0 : decide (c < 1) = false := by simpa using hc
      have E3 := Lib.hid (show hasO c (causeS 1 c) = true by rw [hasO_cause _ _ _ (.inl rfl)]; exact decide_eq_true (.inr ⟨by omega, rfl⟩))
      cases d1 : (c == 2) <;> (
        go_enter Tryd.func8, Tryd.ntmps8
        go_wp2_with fail
        refine CC.out.mono ?_
        rintro e w1 ⟨v, rfl, hv, hB1⟩
        have C1 := wis_any 1 w1 hv
        rw [E2.out] at C1
        have C1h := Lib.hid C1
        clear C1
        go_wp2_with fail
        refine C1h.out.mono ?_
        rintro e w1' ⟨rfl, hB1'⟩
        have hb1' := bcall hB1 hB1'
        have hv' := hv.ext (Ext.of_below hB1')
        have C4 := wis_any c w1' hv'
        rw [E3.out] at C4
        have C4h := Lib.hid C4
        clear C4
        go_wp2_with fail
        refine C4h.out.mono ?_
        rintro e w2 ⟨rfl, hB2⟩
        have hb2 := bcall hb1' hB2
        have C2 := wis_any 2 w2 (hv'.ext (Ext.of_below hB2))
        rw [E1.out, d1] at C2
        have C2h := Lib.hid C2
        clear C2
        go_wp2_with fail
        refine C2h.out.mono ?_
        rintro e w3 ⟨rfl, hB3⟩
        have hb3 := bcall hb2 hB3
        have C3 := wtime_any w3 ((hv'.ext (Ext.of_below hB2)).ext (Ext.of_below hB3))
        rw [E1.out, d1] at C3
        have C3h := Lib.hid C3
        clear C3
        go_wp2_with fail
        refine C3h.out.mono ?_
        rintro e w4 ⟨rfl, hB4⟩
        have hb4 := bcall hb3 hB4
        go_wp2_with fail
        refine (wawake_any w4 (errT_keep HT.out hb4)).mono ?_
        rintro e w5 ⟨rfl, hB5⟩
        go_wp2_with fail
        go_ret
        exact ⟨rfl, bcall hb4 hB5⟩)
end Go.Proofs.YtpdljglamjanmaaDoor
