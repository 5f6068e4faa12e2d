/-
  tarpaulinref1.form: THE WALK AT EACH OPERATION (printed by genform.py).
-/
import Derived.Test.YtajblpopbipegaaDoorMem
namespace Go.Proofs.YtajblpopbipegaaDoor
open Go.RowKit

def FPost (W : World) (a b c : Int) (e : Ending) (w' : World) : Prop := e = .returned (.agg #[.int .i64 a, .int .i64 b, .int .i64 c]) ∧ w' = W.alloc (.cells #[.int .i64 a, .int .i64 b, .int .i64 c] 51)

set_option maxRecDepth 100000 in
theorem form_1 (w : World) : Calls Tryd.prog 29 #[.int .i64 1] w (FPost w 2 5 0) := by
  go_enter Tryd.func29, Tryd.ntmps29
  go_wp2_with fail
  refine bodyPost_ret (v := .agg #[.int .i64 2, .int .i64 5, .int .i64 0]) ?_ rfl ?_
  · simp [results, Tryd.f29, go_sem]
  · exact ⟨rfl, rfl⟩

set_option maxRecDepth 100000 in
theorem form_2 (w : World) : Calls Tryd.prog 29 #[.int .i64 2] w (FPost w 2 1 0) := by
  go_enter Tryd.func29, Tryd.ntmps29
  go_wp2_with fail
  refine bodyPost_ret (v := .agg #[.int .i64 2, .int .i64 1, .int .i64 0]) ?_ rfl ?_
  · simp [results, Tryd.f29, go_sem]
  · exact ⟨rfl, rfl⟩

set_option maxRecDepth 100000 in
theorem form_3 (w : World) : Calls Tryd.prog 29 #[.int .i64 3] w (FPost w 6 5 0) := by
  go_enter Tryd.func29, Tryd.ntmps29
  go_wp2_with fail
  refine bodyPost_ret (v := .agg #[.int .i64 6, .int .i64 5, .int .i64 0]) ?_ rfl ?_
  · simp [results, Tryd.f29, go_sem]
  · exact ⟨rfl, rfl⟩

set_option maxRecDepth 100000 in
theorem form_4 (w : World) : Calls Tryd.prog 29 #[.int .i64 4] w (FPost w 3 0 0) := by
  go_enter Tryd.func29, Tryd.ntmps29
  go_wp2_with fail
  refine bodyPost_ret (v := .agg #[.int .i64 3, .int .i64 0, .int .i64 0]) ?_ rfl ?_
  · simp [results, Tryd.f29, go_sem]
  · exact ⟨rfl, rfl⟩

set_option maxRecDepth 100000 in
theorem form_5 (w : World) : Calls Tryd.prog 29 #[.int .i64 5] w (FPost w 1 3 0) := by
  go_enter Tryd.func29, Tryd.ntmps29
  go_wp2_with fail
  refine bodyPost_ret (v := .agg #[.int .i64 1, .int .i64 3, .int .i64 0]) ?_ rfl ?_
  · simp [results, Tryd.f29, go_sem]
  · exact ⟨rfl, rfl⟩

set_option maxRecDepth 100000 in
theorem form_6 (w : World) : Calls Tryd.prog 29 #[.int .i64 6] w (FPost w 1 0 0) := by
  go_enter Tryd.func29, Tryd.ntmps29
  go_wp2_with fail
  refine bodyPost_ret (v := .agg #[.int .i64 1, .int .i64 0, .int .i64 0]) ?_ rfl ?_
  · simp [results, Tryd.f29, go_sem]
  · exact ⟨rfl, rfl⟩

set_option maxRecDepth 100000 in
theorem form_7 (w : World) : Calls Tryd.prog 29 #[.int .i64 7] w (FPost w 0 0 0) := by
  go_enter Tryd.func29, Tryd.ntmps29
  go_wp2_with fail
  refine bodyPost_ret (v := .agg #[.int .i64 0, .int .i64 0, .int .i64 0]) ?_ rfl ?_
  · simp [results, Tryd.f29, go_sem]
  · exact ⟨rfl, rfl⟩

set_option maxRecDepth 100000 in
theorem form_8 (w : World) : Calls Tryd.prog 29 #[.int .i64 8] w (FPost w 2 4 0) := by
  go_enter Tryd.func29, Tryd.ntmps29
  go_wp2_with fail
  refine bodyPost_ret (v := .agg #[.int .i64 2, .int .i64 4, .int .i64 0]) ?_ rfl ?_
  · simp [results, Tryd.f29, go_sem]
  · exact ⟨rfl, rfl⟩

set_option maxRecDepth 100000 in
theorem form_9 (w : World) : Calls Tryd.prog 29 #[.int .i64 9] w (FPost w 2 5 0) := by
  go_enter Tryd.func29, Tryd.ntmps29
  go_wp2_with fail
  refine bodyPost_ret (v := .agg #[.int .i64 2, .int .i64 5, .int .i64 0]) ?_ rfl ?_
  · simp [results, Tryd.f29, go_sem]
  · exact ⟨rfl, rfl⟩

set_option maxRecDepth 100000 in
theorem form_10 (w : World) : Calls Tryd.prog 29 #[.int .i64 10] w (FPost w 1 1 0) := by
  go_enter Tryd.func29, Tryd.ntmps29
  go_wp2_with fail
  refine bodyPost_ret (v := .agg #[.int .i64 1, .int .i64 1, .int .i64 0]) ?_ rfl ?_
  · simp [results, Tryd.f29, go_sem]
  · exact ⟨rfl, rfl⟩

set_option maxRecDepth 100000 in
theorem form_11 (w : World) : Calls Tryd.prog 29 #[.int .i64 11] w (FPost w 1 2 2) := by
  go_enter Tryd.func29, Tryd.ntmps29
  go_wp2_with fail
  refine bodyPost_ret (v := .agg #[.int .i64 1, .int .i64 2, .int .i64 2]) ?_ rfl ?_
  · simp [results, Tryd.f29, go_sem]
  · exact ⟨rfl, rfl⟩

set_option maxRecDepth 100000 in
theorem form_12 (w : World) : Calls Tryd.prog 29 #[.int .i64 12] w (FPost w 1 0 0) := by
  go_enter Tryd.func29, Tryd.ntmps29
  go_wp2_with fail
  refine bodyPost_ret (v := .agg #[.int .i64 1, .int .i64 0, .int .i64 0]) ?_ rfl ?_
  · simp [results, Tryd.f29, go_sem]
  · exact ⟨rfl, rfl⟩

set_option maxRecDepth 100000 in
theorem form_13 (w : World) : Calls Tryd.prog 29 #[.int .i64 13] w (FPost w 1 2 0) := by
  go_enter Tryd.func29, Tryd.ntmps29
  go_wp2_with fail
  refine bodyPost_ret (v := .agg #[.int .i64 1, .int .i64 2, .int .i64 0]) ?_ rfl ?_
  · simp [results, Tryd.f29, go_sem]
  · exact ⟨rfl, rfl⟩

set_option maxRecDepth 100000 in
theorem form_14 (w : World) : Calls Tryd.prog 29 #[.int .i64 14] w (FPost w 1 2 0) := by
  go_enter Tryd.func29, Tryd.ntmps29
  go_wp2_with fail
  refine bodyPost_ret (v := .agg #[.int .i64 1, .int .i64 2, .int .i64 0]) ?_ rfl ?_
  · simp [results, Tryd.f29, go_sem]
  · exact ⟨rfl, rfl⟩

set_option maxRecDepth 100000 in
theorem form_15 (w : World) : Calls Tryd.prog 29 #[.int .i64 15] w (FPost w 2 2 2) := by
  go_enter Tryd.func29, Tryd.ntmps29
  go_wp2_with fail
  refine bodyPost_ret (v := .agg #[.int .i64 2, .int .i64 2, .int .i64 2]) ?_ rfl ?_
  · simp [results, Tryd.f29, go_sem]
  · exact ⟨rfl, rfl⟩

set_option maxRecDepth 100000 in
theorem form_16 (w : World) : Calls Tryd.prog 29 #[.int .i64 16] w (FPost w 2 0 0) := by
  go_enter Tryd.func29, Tryd.ntmps29
  go_wp2_with fail
  refine bodyPost_ret (v := .agg #[.int .i64 2, .int .i64 0, .int .i64 0]) ?_ rfl ?_
  · simp [results, Tryd.f29, go_sem]
  · exact ⟨rfl, rfl⟩

set_option maxRecDepth 100000 in
theorem form_17 (w : World) : Calls Tryd.prog 29 #[.int .i64 17] w (FPost w 2 1 2) := by
  go_enter Tryd.func29, Tryd.ntmps29
  go_wp2_with fail
  refine bodyPost_ret (v := .agg #[.int .i64 2, .int .i64 1, .int .i64 2]) ?_ rfl ?_
  · simp [results, Tryd.f29, go_sem]
  · exact ⟨rfl, rfl⟩

set_option maxRecDepth 100000 in
theorem form_18 (w : World) : Calls Tryd.prog 29 #[.int .i64 18] w (FPost w 2 1 2) := by
  go_enter Tryd.func29, Tryd.ntmps29
  go_wp2_with fail
  refine bodyPost_ret (v := .agg #[.int .i64 2, .int .i64 1, .int .i64 2]) ?_ rfl ?_
  · simp [results, Tryd.f29, go_sem]
  · exact ⟨rfl, rfl⟩

set_option maxRecDepth 100000 in
theorem form_19 (w : World) : Calls Tryd.prog 29 #[.int .i64 19] w (FPost w 2 1 4) := by
  go_enter Tryd.func29, Tryd.ntmps29
  go_wp2_with fail
  refine bodyPost_ret (v := .agg #[.int .i64 2, .int .i64 1, .int .i64 4]) ?_ rfl ?_
  · simp [results, Tryd.f29, go_sem]
  · exact ⟨rfl, rfl⟩

set_option maxRecDepth 100000 in
theorem form_20 (w : World) : Calls Tryd.prog 29 #[.int .i64 20] w (FPost w 1 2 0) := by
  go_enter Tryd.func29, Tryd.ntmps29
  go_wp2_with fail
  refine bodyPost_ret (v := .agg #[.int .i64 1, .int .i64 2, .int .i64 0]) ?_ rfl ?_
  · simp [results, Tryd.f29, go_sem]
  · exact ⟨rfl, rfl⟩

set_option maxRecDepth 100000 in
theorem form_21 (w : World) : Calls Tryd.prog 29 #[.int .i64 21] w (FPost w 1 1 2) := by
  go_enter Tryd.func29, Tryd.ntmps29
  go_wp2_with fail
  refine bodyPost_ret (v := .agg #[.int .i64 1, .int .i64 1, .int .i64 2]) ?_ rfl ?_
  · simp [results, Tryd.f29, go_sem]
  · exact ⟨rfl, rfl⟩

set_option maxRecDepth 100000 in
theorem form_22 (w : World) : Calls Tryd.prog 29 #[.int .i64 22] w (FPost w 2 1 0) := by
  go_enter Tryd.func29, Tryd.ntmps29
  go_wp2_with fail
  refine bodyPost_ret (v := .agg #[.int .i64 2, .int .i64 1, .int .i64 0]) ?_ rfl ?_
  · simp [results, Tryd.f29, go_sem]
  · exact ⟨rfl, rfl⟩

set_option maxRecDepth 100000 in
theorem form_23 (w : World) : Calls Tryd.prog 29 #[.int .i64 23] w (FPost w 2 1 1) := by
  go_enter Tryd.func29, Tryd.ntmps29
  go_wp2_with fail
  refine bodyPost_ret (v := .agg #[.int .i64 2, .int .i64 1, .int .i64 1]) ?_ rfl ?_
  · simp [results, Tryd.f29, go_sem]
  · exact ⟨rfl, rfl⟩

set_option maxRecDepth 100000 in
theorem form_24 (w : World) : Calls Tryd.prog 29 #[.int .i64 24] w (FPost w 2 1 1) := by
  go_enter Tryd.func29, Tryd.ntmps29
  go_wp2_with fail
  refine bodyPost_ret (v := .agg #[.int .i64 2, .int .i64 1, .int .i64 1]) ?_ rfl ?_
  · simp [results, Tryd.f29, go_sem]
  · exact ⟨rfl, rfl⟩

set_option maxRecDepth 100000 in
theorem form_25 (w : World) : Calls Tryd.prog 29 #[.int .i64 25] w (FPost w 2 1 0) := by
  go_enter Tryd.func29, Tryd.ntmps29
  go_wp2_with fail
  refine bodyPost_ret (v := .agg #[.int .i64 2, .int .i64 1, .int .i64 0]) ?_ rfl ?_
  · simp [results, Tryd.f29, go_sem]
  · exact ⟨rfl, rfl⟩

set_option maxRecDepth 100000 in
theorem form_26 (w : World) : Calls Tryd.prog 29 #[.int .i64 26] w (FPost w 1 1 0) := by
  go_enter Tryd.func29, Tryd.ntmps29
  go_wp2_with fail
  refine bodyPost_ret (v := .agg #[.int .i64 1, .int .i64 1, .int .i64 0]) ?_ rfl ?_
  · simp [results, Tryd.f29, go_sem]
  · exact ⟨rfl, rfl⟩

set_option maxRecDepth 100000 in
theorem form_27 (w : World) : Calls Tryd.prog 29 #[.int .i64 27] w (FPost w 1 2 0) := by
  go_enter Tryd.func29, Tryd.ntmps29
  go_wp2_with fail
  refine bodyPost_ret (v := .agg #[.int .i64 1, .int .i64 2, .int .i64 0]) ?_ rfl ?_
  · simp [results, Tryd.f29, go_sem]
  · exact ⟨rfl, rfl⟩

set_option maxRecDepth 100000 in
theorem form_28 (w : World) : Calls Tryd.prog 29 #[.int .i64 28] w (FPost w 1 2 0) := by
  go_enter Tryd.func29, Tryd.ntmps29
  go_wp2_with fail
  refine bodyPost_ret (v := .agg #[.int .i64 1, .int .i64 2, .int .i64 0]) ?_ rfl ?_
  · simp [results, Tryd.f29, go_sem]
  · exact ⟨rfl, rfl⟩

set_option maxRecDepth 100000 in
theorem form_29 (w : World) : Calls Tryd.prog 29 #[.int .i64 29] w (FPost w 1 2 0) := by
  go_enter Tryd.func29, Tryd.ntmps29
  go_wp2_with fail
  refine bodyPost_ret (v := .agg #[.int .i64 1, .int .i64 2, .int .i64 0]) ?_ rfl ?_
  · simp [results, Tryd.f29, go_sem]
  · exact ⟨rfl, rfl⟩

set_option maxRecDepth 100000 in
theorem form_30 (w : World) : Calls Tryd.prog 29 #[.int .i64 30] w (FPost w 1 2 2) := by
  go_enter Tryd.func29, Tryd.ntmps29
  go_wp2_with fail
  refine bodyPost_ret (v := .agg #[.int .i64 1, .int .i64 2, .int .i64 2]) ?_ rfl ?_
  · simp [results, Tryd.f29, go_sem]
  · exact ⟨rfl, rfl⟩

set_option maxRecDepth 100000 in
theorem form_31 (w : World) : Calls Tryd.prog 29 #[.int .i64 31] w (FPost w 2 1 4) := by
  go_enter Tryd.func29, Tryd.ntmps29
  go_wp2_with fail
  refine bodyPost_ret (v := .agg #[.int .i64 2, .int .i64 1, .int .i64 4]) ?_ rfl ?_
  · simp [results, Tryd.f29, go_sem]
  · exact ⟨rfl, rfl⟩

set_option maxRecDepth 100000 in
theorem form_32 (w : World) : Calls Tryd.prog 29 #[.int .i64 32] w (FPost w 1 2 0) := by
  go_enter Tryd.func29, Tryd.ntmps29
  go_wp2_with fail
  refine bodyPost_ret (v := .agg #[.int .i64 1, .int .i64 2, .int .i64 0]) ?_ rfl ?_
  · simp [results, Tryd.f29, go_sem]
  · exact ⟨rfl, rfl⟩

set_option maxRecDepth 100000 in
theorem form_no (op : Int) (h : op < 1 ∨ 32 < op) (w : World) : Calls Tryd.prog 29 #[.int .i64 op] w (FPost w 0 0 0) := by
  have b1 : (op == 1) = false := by simp; omega
  have b2 : (op == 2) = false := by simp; omega
  have b3 : (op == 3) = false := by simp; omega
  have b4 : (op == 4) = false := by simp; omega
  have b5 : (op == 5) = false := by simp; omega
  have b6 : (op == 6) = false := by simp; omega
  have b7 : (op == 7) = false := by simp; omega
  have b8 : (op == 8) = false := by simp; omega
  have b9 : (op == 9) = false := by simp; omega
  have b10 : (op == 10) = false := by simp; omega
  have b11 : (op == 11) = false := by simp; omega
  have b12 : (op == 12) = false := by simp; omega
  have b13 : (op == 13) = false := by simp; omega
  have b14 : (op == 14) = false := by simp; omega
  have b15 : (op == 15) = false := by simp; omega
  have b16 : (op == 16) = false := by simp; omega
  have b17 : (op == 17) = false := by simp; omega
  have b18 : (op == 18) = false := by simp; omega
  have b19 : (op == 19) = false := by simp; omega
  have b20 : (op == 20) = false := by simp; omega
  have b21 : (op == 21) = false := by simp; omega
  have b22 : (op == 22) = false := by simp; omega
  have b23 : (op == 23) = false := by simp; omega
  have b24 : (op == 24) = false := by simp; omega
  have b25 : (op == 25) = false := by simp; omega
  have b26 : (op == 26) = false := by simp; omega
  have b27 : (op == 27) = false := by simp; omega
  have b28 : (op == 28) = false := by simp; omega
  have b29 : (op == 29) = false := by simp; omega
  have b30 : (op == 30) = false := by simp; omega
  have b31 : (op == 31) = false := by simp; omega
  have b32 : (op == 32) = false := by simp; omega
  clear h
  go_enter Tryd.func29, Tryd.ntmps29
  go_wp2_with fail
  refine bodyPost_ret (v := .agg #[.int .i64 0, .int .i64 0, .int .i64 0]) ?_ rfl ?_
  · simp [results, Tryd.f29, go_sem]
  · exact ⟨rfl, rfl⟩

theorem form_any (op : Int) (w : World) : Calls Tryd.prog 29 #[.int .i64 op] w (FPost w (formAt op).1 (formAt op).2.1 (formAt op).2.2) := by
  by_cases h : op < 1 ∨ 32 < op
  · have e : formAt op = (0, 0, 0) := by
      unfold formAt
      split
      · by_cases h0 : op = 0
        · subst h0; rfl
        · rw [List.getD_eq_getElem?_getD, List.getElem?_eq_none (by simp [formsL]; omega)]; rfl
      · rfl
    rw [e]
    exact form_no op h w
  · have h32 := ops_32 ⟨op, 0, 0, 0, [], false⟩ (by simp; omega) (by simp; omega)
    simp only at h32
    rcases h32 with h | h | h | h | h | h | h | h | h | h | h | h | h | h | h | h | h | h | h | h | h | h | h | h | h | h | h | h | h | h | h | h
    · subst h; exact form_1 w
    · subst h; exact form_2 w
    · subst h; exact form_3 w
    · subst h; exact form_4 w
    · subst h; exact form_5 w
    · subst h; exact form_6 w
    · subst h; exact form_7 w
    · subst h; exact form_8 w
    · subst h; exact form_9 w
    · subst h; exact form_10 w
    · subst h; exact form_11 w
    · subst h; exact form_12 w
    · subst h; exact form_13 w
    · subst h; exact form_14 w
    · subst h; exact form_15 w
    · subst h; exact form_16 w
    · subst h; exact form_17 w
    · subst h; exact form_18 w
    · subst h; exact form_19 w
    · subst h; exact form_20 w
    · subst h; exact form_21 w
    · subst h; exact form_22 w
    · subst h; exact form_23 w
    · subst h; exact form_24 w
    · subst h; exact form_25 w
    · subst h; exact form_26 w
    · subst h; exact form_27 w
    · subst h; exact form_28 w
    · subst h; exact form_29 w
    · subst h; exact form_30 w
    · subst h; exact form_31 w
    · subst h; exact form_32 w
end Go.Proofs.YtajblpopbipegaaDoor
