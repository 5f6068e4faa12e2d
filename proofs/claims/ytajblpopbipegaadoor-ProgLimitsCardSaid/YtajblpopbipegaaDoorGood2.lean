/-
  prog.good: THE WALK.
-/
import Derived.Test.YtajblpopbipegaaDoorGood
namespace Go.Proofs.YtajblpopbipegaaDoor
open Go.RowKit Go.Lib

def fieldsB : ByteArray := ⟨#[114, 110, 45, 114, 114, 45, 114, 110, 45, 112, 45, 45, 114, 112, 45, 114, 45, 45, 45, 45, 45, 114, 103, 45, 114, 110, 45, 114, 114, 45, 114, 114, 114, 114, 45, 45, 114, 114, 45, 114, 114, 45, 114, 114, 114, 114, 45, 45, 114, 114, 114, 114, 114, 114, 114, 114, 103, 114, 114, 45, 114, 114, 114, 114, 114, 45, 114, 114, 114, 114, 114, 114, 114, 114, 45, 114, 114, 45, 114, 114, 45, 114, 114, 45, 114, 114, 45, 114, 114, 114, 114, 114, 103, 114, 114, 45]⟩
theorem kind_all : ∀ n : Fin 96, (fieldsB[n.val]'n.isLt).toNat = fieldsL.getD n.val 0 := by decide
theorem kind_of (n : Nat) (h : n < fieldsB.size) : (fieldsB[n]).toNat = fieldsL.getD n 0 := kind_all ⟨n, h⟩
theorem may_at (op : Int) (j : Nat) (k : Nat) (n p : Int) (w : World) (hk : k = kindAt op j) : Calls Tryd.prog 34 #[.int .u8 k, .int .i64 n, .int .i64 p] w fun e w' => e = .returned (.bool (mayB (kindAt op j) n p)) ∧ w = w' := by
  subst hk
  exact may_any _ n p w
theorem good_eq {i : Ins} (h : headB i = true) (p : Int) : goodB i p = (mayB (kindAt i.op 0) i.a p && mayB (kindAt i.op 1) i.b p && mayB (kindAt i.op 2) i.c p && !(i.cases.any badC)) := by
  unfold goodB
  rw [h]
  simp
theorem good_no {i : Ins} (h : headB i = false) (p : Int) : goodB i p = false := by
  unfold goodB
  rw [h]
  rfl

set_option maxRecDepth 100000 in
set_option maxHeartbeats 2000000 in
theorem good_plain (op a b c : Int) (cs : List Cs) (d : Bool) (p : Int) (cv : Value) (w : World) (hcs : CRep w cs cv) (h1 : 1 ≤ op) (h2 : op ≤ 32) (h3 : op ≠ 15) (h4 : cs = []) (h5 : d = false) :
    Calls Tryd.prog 26 #[.agg #[.int .i64 op, .int .i64 a, .int .i64 b, .int .i64 c, cv, .bool d], .int .i64 p] w fun e w' => e = .returned (.bool (goodB ⟨op, a, b, c, cs, d⟩ p)) ∧ Below w.heap.size w w' := by
  have b3 : (op != 15) = true := bne_iff_ne.2 h3
  have CB := Lib.hid (bads_any cs cv)
  obtain ⟨ca, cap, rfl⟩ := hcs.form
  have HC := Lib.hid hcs
  subst h4 h5
  have G := Lib.hid (good_eq (i := ⟨op, a, b, c, [], false⟩) (by simp [headB]; omega) p)
  clear hcs h3
  go_enter Tryd.func26, Tryd.ntmps26
  go_wp2_with fail
  refine wp_loop_rounds 4 ?_
  rw [rounds_succ]
  go_wp2_with fail
  refine (may_at op 0 _ _ _ _ ?_).mono ?_
  · refine (kind_of _ _).trans ?_
    unfold kindAt
    congr 1
    omega
  rintro e w1 ⟨rfl, rfl⟩
  cases m0 : mayB (kindAt op 0) a p with
  | false =>
    have M0 := Lib.hid m0
    clear m0
    go_wp2_with fail
    go_ret
    exact ⟨by rw [G.out, M0.out]; simp, bnew (bnew (Below.refl _ w) _) _⟩
  | true =>
    have M0 := Lib.hid m0
    clear m0
    go_wp2_with fail
    rw [rounds_succ]
    go_wp2_with fail
    refine (may_at op 1 _ _ _ _ ?_).mono ?_
    · refine (kind_of _ _).trans ?_
      unfold kindAt
      congr 1
      omega
    rintro e w1 ⟨rfl, rfl⟩
    cases m1 : mayB (kindAt op 1) b p with
    | false =>
      have M1 := Lib.hid m1
      clear m1
      go_wp2_with fail
      go_ret
      exact ⟨by rw [G.out, M0.out, M1.out]; simp, bnew (bnew (Below.refl _ w) _) _⟩
    | true =>
      have M1 := Lib.hid m1
      clear m1
      go_wp2_with fail
      rw [rounds_succ]
      go_wp2_with fail
      refine (may_at op 2 _ _ _ _ ?_).mono ?_
      · refine (kind_of _ _).trans ?_
        unfold kindAt
        congr 1
        omega
      rintro e w1 ⟨rfl, rfl⟩
      cases m2 : mayB (kindAt op 2) c p with
      | false =>
        have M2 := Lib.hid m2
        clear m2
        go_wp2_with fail
        go_ret
        exact ⟨by rw [G.out, M0.out, M1.out, M2.out]; simp, bnew (bnew (Below.refl _ w) _) _⟩
      | true =>
        have M2 := Lib.hid m2
        clear m2
        go_wp2_with fail
        rw [rounds_succ]
        go_wp2_with fail
        refine (CB.out _ ((HC.out.ext (Ext.alloc _ _)).ext (Ext.alloc _ _))).mono ?_
        rintro e w2 ⟨rfl, hB⟩
        go_wp2_with fail
        go_ret
        exact ⟨by rw [G.out, M0.out, M1.out, M2.out]; simp, bcall (bnew (bnew (Below.refl _ w) _) _) hB⟩

set_option maxRecDepth 100000 in
set_option maxHeartbeats 2000000 in
theorem good_sel (op a b c : Int) (cs : List Cs) (d : Bool) (p : Int) (cv : Value) (w : World) (hcs : CRep w cs cv) (h1 : 1 ≤ op) (h2 : op ≤ 32) (h3 : op = 15) (h4 : cs.length ≤ 16) :
    Calls Tryd.prog 26 #[.agg #[.int .i64 op, .int .i64 a, .int .i64 b, .int .i64 c, cv, .bool d], .int .i64 p] w fun e w' => e = .returned (.bool (goodB ⟨op, a, b, c, cs, d⟩ p)) ∧ Below w.heap.size w w' := by
  subst h3
  have CB := Lib.hid (bads_any cs cv)
  obtain ⟨ca, cap, rfl⟩ := hcs.form
  have HC := Lib.hid hcs
  have G := Lib.hid (good_eq (i := ⟨15, a, b, c, cs, d⟩) (by simp [headB]; omega) p)
  clear hcs
  go_enter Tryd.func26, Tryd.ntmps26
  go_wp2_with fail
  refine wp_loop_rounds 4 ?_
  rw [rounds_succ]
  go_wp2_with fail
  refine (may_at 15 0 _ _ _ _ ?_).mono ?_
  · exact (kind_of _ _).trans rfl
  rintro e w1 ⟨rfl, rfl⟩
  cases m0 : mayB (kindAt 15 0) a p with
  | false =>
    have M0 := Lib.hid m0
    clear m0
    go_wp2_with fail
    go_ret
    exact ⟨by rw [G.out, M0.out]; simp, bnew (bnew (Below.refl _ w) _) _⟩
  | true =>
    have M0 := Lib.hid m0
    clear m0
    go_wp2_with fail
    rw [rounds_succ]
    go_wp2_with fail
    refine (may_at 15 1 _ _ _ _ ?_).mono ?_
    · exact (kind_of _ _).trans rfl
    rintro e w1 ⟨rfl, rfl⟩
    cases m1 : mayB (kindAt 15 1) b p with
    | false =>
      have M1 := Lib.hid m1
      clear m1
      go_wp2_with fail
      go_ret
      exact ⟨by rw [G.out, M0.out, M1.out]; simp, bnew (bnew (Below.refl _ w) _) _⟩
    | true =>
      have M1 := Lib.hid m1
      clear m1
      go_wp2_with fail
      rw [rounds_succ]
      go_wp2_with fail
      refine (may_at 15 2 _ _ _ _ ?_).mono ?_
      · exact (kind_of _ _).trans rfl
      rintro e w1 ⟨rfl, rfl⟩
      cases m2 : mayB (kindAt 15 2) c p with
      | false =>
        have M2 := Lib.hid m2
        clear m2
        go_wp2_with fail
        go_ret
        exact ⟨by rw [G.out, M0.out, M1.out, M2.out]; simp, bnew (bnew (Below.refl _ w) _) _⟩
      | true =>
        have M2 := Lib.hid m2
        clear m2
        go_wp2_with fail
        rw [rounds_succ]
        go_wp2_with fail
        refine (CB.out _ ((HC.out.ext (Ext.alloc _ _)).ext (Ext.alloc _ _))).mono ?_
        rintro e w2 ⟨rfl, hB⟩
        go_wp2_with fail
        go_ret
        exact ⟨by rw [G.out, M0.out, M1.out, M2.out]; simp, bcall (bnew (bnew (Below.refl _ w) _) _) hB⟩

set_option maxRecDepth 100000 in
theorem good_head (op a b c : Int) (cs : List Cs) (d : Bool) (p : Int) (cv : Value) (w : World) (hcs : CRep w cs cv) (h : headB ⟨op, a, b, c, cs, d⟩ = false) :
    Calls Tryd.prog 26 #[.agg #[.int .i64 op, .int .i64 a, .int .i64 b, .int .i64 c, cv, .bool d], .int .i64 p] w fun e w' => e = .returned (.bool (goodB ⟨op, a, b, c, cs, d⟩ p)) ∧ Below w.heap.size w w' := by
  have G := Lib.hid (good_no h p)
  obtain ⟨ca, cap, rfl⟩ := hcs.form
  have hl : cs.length ≤ 9223372036854775807 := by obtain ⟨_, cap', _, _, _, h2, h3, _⟩ := hcs; unfold maxLen at h3; omega
  have hh : op < 1 ∨ 32 < op ∨ (op ≠ 15 ∧ 0 < cs.length) ∨ (op ≠ 15 ∧ d = true) ∨ 16 < cs.length := by
    refine Decidable.byContradiction fun hn => ?_
    have h1 : headB ⟨op, a, b, c, cs, d⟩ = true := by
      simp only [not_or, not_and] at hn
      obtain ⟨n1, n2, n3, n4, n5⟩ := hn
      simp only [headB, Bool.and_eq_true, Bool.or_eq_true, decide_eq_true_eq]
      refine ⟨⟨⟨by omega, by omega⟩, ?_⟩, by omega⟩
      by_cases e : op = 15
      · exact .inl e
      · have z := n3 e
        have z2 := n4 e
        exact .inr ⟨by rw [List.isEmpty_iff]; exact List.length_eq_zero_iff.1 (by omega), by cases d <;> simp_all⟩
    rw [h1] at h; cases h
  clear hcs h
  by_cases h1 : op < 1
  · go_enter Tryd.func26, Tryd.ntmps26
    go_wp2_with fail
    go_ret
    exact ⟨by rw [G.out]; simp, bnew (Below.refl _ w) _⟩
  by_cases h2 : 32 < op
  · go_enter Tryd.func26, Tryd.ntmps26
    go_wp2_with fail
    go_ret
    exact ⟨by rw [G.out]; simp, bnew (Below.refl _ w) _⟩
  by_cases h3 : op = 15
  · subst h3
    have h4 : 16 < cs.length := by rcases hh with h | h | h | h | h <;> omega
    clear hh h1 h2
    go_enter Tryd.func26, Tryd.ntmps26
    go_wp2_with fail
    go_ret
    exact ⟨by rw [G.out]; simp, bnew (Below.refl _ w) _⟩
  · have b3 : (op != 15) = true := bne_iff_ne.2 h3
    by_cases h4 : 0 < cs.length
    · clear hh h3
      go_enter Tryd.func26, Tryd.ntmps26
      go_wp2_with fail
      go_ret
      exact ⟨by rw [G.out]; simp, bnew (Below.refl _ w) _⟩
    · obtain rfl : cs = [] := List.length_eq_zero_iff.1 (by omega)
      obtain rfl : d = true := by rcases hh with h | h | h | h | h <;> simp_all
      clear hh h3
      go_enter Tryd.func26, Tryd.ntmps26
      go_wp2_with fail
      go_ret
      exact ⟨by rw [G.out]; simp, bnew (Below.refl _ w) _⟩
/-- prog.good. -/
theorem good_any (i : Ins) (p : Int) (cv : Value) (w : World) (hcs : CRep w i.cases cv) :
    Calls Tryd.prog 26 #[.agg #[.int .i64 i.op, .int .i64 i.a, .int .i64 i.b, .int .i64 i.c, cv, .bool i.dflt], .int .i64 p] w fun e w' => e = .returned (.bool (goodB i p)) ∧ Below w.heap.size w w' := by
  obtain ⟨op, a, b, c, cs, d⟩ := i
  cases h : headB ⟨op, a, b, c, cs, d⟩ with
  | false => exact good_head op a b c cs d p cv w hcs h
  | true =>
    simp only [headB, Bool.and_eq_true, Bool.or_eq_true, decide_eq_true_eq] at h
    obtain ⟨⟨⟨h1, h2⟩, h3⟩, h4⟩ := h
    by_cases h5 : op = 15
    · exact good_sel op a b c cs d p cv w hcs h1 h2 h5 h4
    · rcases h3 with h3 | ⟨h3, h6⟩
      · exact absurd h3 h5
      · exact good_plain op a b c cs d p cv w hcs h1 h2 h5 (List.isEmpty_iff.1 h3) (by cases d <;> simp_all)
end Go.Proofs.YtajblpopbipegaaDoor
