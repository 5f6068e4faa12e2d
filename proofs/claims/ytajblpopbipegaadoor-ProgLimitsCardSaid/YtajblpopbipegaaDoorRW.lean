/-
  prog.Reads, prog.Writes, OF ANY INSTRUCTION.
-/
import Derived.Test.YtajblpopbipegaaDoorReads
import Derived.Test.YtajblpopbipegaaDoorWrites
import Derived.Test.YtajblpopbipegaaDoorSel
namespace Go.Proofs.YtajblpopbipegaaDoor
open Go.RowKit Go.Lib

theorem good_parts {i : Ins} {p : Int} (h : goodB i p = true) : 1 ≤ i.op ∧ i.op ≤ 32 ∧ i.cases.length ≤ 16 := by
  unfold goodB headB at h
  simp only [Bool.and_eq_true, decide_eq_true_eq] at h
  exact ⟨h.1.1.1.1.1.1.1, h.1.1.1.1.1.1.2, h.1.1.1.1.2⟩

set_option maxRecDepth 100000 in
theorem reads_no (i : Ins) (cv : Value) (w : World) (hcs : CRep w i.cases cv) (hg : goodB i 100 = false) : Calls Tryd.prog 16 #[.agg #[.int .i64 i.op, .int .i64 i.a, .int .i64 i.b, .int .i64 i.c, cv, .bool i.dflt]] w (RPost w []) := by
  have C := good_any i 100 cv _ (hcs.ext (Ext.alloc w (.cells #[.int .i64 i.op, .int .i64 i.a, .int .i64 i.b, .int .i64 i.c, cv, .bool i.dflt] 36)))
  rw [hg] at C
  have Ch := Lib.hid C
  obtain ⟨ca, ccap, rfl⟩ := hcs.form
  clear C hg hcs
  go_enter Tryd.func16, Tryd.ntmps16
  go_wp2_with fail
  refine Ch.out.mono ?_
  rintro e w1 ⟨rfl, hB⟩
  go_wp2_with fail
  go_ret
  exact ⟨_, rfl, ⟨none, 0, 0, 0, rfl, Nat.le_refl _, by unfold maxLen; omega, fun h => by simp at h, fun j z hj => by simp at hj⟩, bcall (bnew (Below.refl _ w) _) hB⟩

theorem reads_any (i : Ins) (cv : Value) (w : World) (hcs : CRep w i.cases cv) : Calls Tryd.prog 16 #[.agg #[.int .i64 i.op, .int .i64 i.a, .int .i64 i.b, .int .i64 i.c, cv, .bool i.dflt]] w (RPost w (readsB i)) := by
  unfold readsB
  cases hg : goodB i 100 with
  | false =>
    rw [if_neg (by simp)]
    exact reads_no i cv w hcs hg
  | true =>
    rw [if_pos rfl]
    obtain ⟨h1, h2, h3⟩ := good_parts hg
    obtain ⟨op, a, b, c, cs, d⟩ := i
    have h := ops_32 ⟨op, a, b, c, cs, d⟩ h1 h2
    simp only at h
    rcases h with h | h | h | h | h | h | h | h | h | h | h | h | h | h | h | h | h | h | h | h | h | h | h | h | h | h | h | h | h | h | h | h
    · subst h; exact reads_1 a b c cs d cv w hcs hg
    · subst h; exact reads_2 a b c cs d cv w hcs hg
    · subst h; exact reads_3 a b c cs d cv w hcs hg
    · subst h; exact reads_4 a b c cs d cv w hcs hg
    · subst h; exact reads_5 a b c cs d cv w hcs hg
    · subst h; exact reads_6 a b c cs d cv w hcs hg
    · subst h; exact reads_7 a b c cs d cv w hcs hg
    · subst h; exact reads_8 a b c cs d cv w hcs hg
    · subst h; exact reads_9 a b c cs d cv w hcs hg
    · subst h; exact reads_10 a b c cs d cv w hcs hg
    · subst h; exact reads_11 a b c cs d cv w hcs hg
    · subst h; exact reads_12 a b c cs d cv w hcs hg
    · subst h; exact reads_13 a b c cs d cv w hcs hg
    · subst h; exact reads_14 a b c cs d cv w hcs hg
    · subst h; exact reads_15 a b c cs d cv w hcs h3 hg
    · subst h; exact reads_16 a b c cs d cv w hcs hg
    · subst h; exact reads_17 a b c cs d cv w hcs hg
    · subst h; exact reads_18 a b c cs d cv w hcs hg
    · subst h; exact reads_19 a b c cs d cv w hcs hg
    · subst h; exact reads_20 a b c cs d cv w hcs hg
    · subst h; exact reads_21 a b c cs d cv w hcs hg
    · subst h; exact reads_22 a b c cs d cv w hcs hg
    · subst h; exact reads_23 a b c cs d cv w hcs hg
    · subst h; exact reads_24 a b c cs d cv w hcs hg
    · subst h; exact reads_25 a b c cs d cv w hcs hg
    · subst h; exact reads_26 a b c cs d cv w hcs hg
    · subst h; exact reads_27 a b c cs d cv w hcs hg
    · subst h; exact reads_28 a b c cs d cv w hcs hg
    · subst h; exact reads_29 a b c cs d cv w hcs hg
    · subst h; exact reads_30 a b c cs d cv w hcs hg
    · subst h; exact reads_31 a b c cs d cv w hcs hg
    · subst h; exact reads_32 a b c cs d cv w hcs hg

set_option maxRecDepth 100000 in
theorem writes_no (i : Ins) (cv : Value) (w : World) (hcs : CRep w i.cases cv) (hg : goodB i 100 = false) : Calls Tryd.prog 18 #[.agg #[.int .i64 i.op, .int .i64 i.a, .int .i64 i.b, .int .i64 i.c, cv, .bool i.dflt]] w (RPost w []) := by
  have C := good_any i 100 cv _ (hcs.ext (Ext.alloc w (.cells #[.int .i64 i.op, .int .i64 i.a, .int .i64 i.b, .int .i64 i.c, cv, .bool i.dflt] 36)))
  rw [hg] at C
  have Ch := Lib.hid C
  obtain ⟨ca, ccap, rfl⟩ := hcs.form
  clear C hg hcs
  go_enter Tryd.func18, Tryd.ntmps18
  go_wp2_with fail
  refine Ch.out.mono ?_
  rintro e w1 ⟨rfl, hB⟩
  go_wp2_with fail
  go_ret
  exact ⟨_, rfl, ⟨none, 0, 0, 0, rfl, Nat.le_refl _, by unfold maxLen; omega, fun h => by simp at h, fun j z hj => by simp at hj⟩, bcall (bnew (Below.refl _ w) _) hB⟩

theorem writes_any (i : Ins) (cv : Value) (w : World) (hcs : CRep w i.cases cv) : Calls Tryd.prog 18 #[.agg #[.int .i64 i.op, .int .i64 i.a, .int .i64 i.b, .int .i64 i.c, cv, .bool i.dflt]] w (RPost w (writesB i)) := by
  unfold writesB
  cases hg : goodB i 100 with
  | false =>
    rw [if_neg (by simp)]
    exact writes_no i cv w hcs hg
  | true =>
    rw [if_pos rfl]
    obtain ⟨h1, h2, h3⟩ := good_parts hg
    obtain ⟨op, a, b, c, cs, d⟩ := i
    have h := ops_32 ⟨op, a, b, c, cs, d⟩ h1 h2
    simp only at h
    rcases h with h | h | h | h | h | h | h | h | h | h | h | h | h | h | h | h | h | h | h | h | h | h | h | h | h | h | h | h | h | h | h | h
    · subst h; exact writes_1 a b c cs d cv w hcs hg
    · subst h; exact writes_2 a b c cs d cv w hcs hg
    · subst h; exact writes_3 a b c cs d cv w hcs hg
    · subst h; exact writes_4 a b c cs d cv w hcs hg
    · subst h; exact writes_5 a b c cs d cv w hcs hg
    · subst h; exact writes_6 a b c cs d cv w hcs hg
    · subst h; exact writes_7 a b c cs d cv w hcs hg
    · subst h; exact writes_8 a b c cs d cv w hcs hg
    · subst h; exact writes_9 a b c cs d cv w hcs hg
    · subst h; exact writes_10 a b c cs d cv w hcs hg
    · subst h; exact writes_11 a b c cs d cv w hcs hg
    · subst h; exact writes_12 a b c cs d cv w hcs hg
    · subst h; exact writes_13 a b c cs d cv w hcs hg
    · subst h; exact writes_14 a b c cs d cv w hcs hg
    · subst h; exact writes_15 a b c cs d cv w hcs hg
    · subst h; exact writes_16 a b c cs d cv w hcs hg
    · subst h; exact writes_17 a b c cs d cv w hcs hg
    · subst h; exact writes_18 a b c cs d cv w hcs hg
    · subst h; exact writes_19 a b c cs d cv w hcs hg
    · subst h; exact writes_20 a b c cs d cv w hcs hg
    · subst h; exact writes_21 a b c cs d cv w hcs hg
    · subst h; exact writes_22 a b c cs d cv w hcs hg
    · subst h; exact writes_23 a b c cs d cv w hcs hg
    · subst h; exact writes_24 a b c cs d cv w hcs hg
    · subst h; exact writes_25 a b c cs d cv w hcs hg
    · subst h; exact writes_26 a b c cs d cv w hcs hg
    · subst h; exact writes_27 a b c cs d cv w hcs hg
    · subst h; exact writes_28 a b c cs d cv w hcs hg
    · subst h; exact writes_29 a b c cs d cv w hcs hg
    · subst h; exact writes_30 a b c cs d cv w hcs hg
    · subst h; exact writes_31 a b c cs d cv w hcs hg
    · subst h; exact writes_32 a b c cs d cv w hcs hg
end Go.Proofs.YtajblpopbipegaaDoor
