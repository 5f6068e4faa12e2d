/-
  prog.good: THE WALK.
-/
import Derived.Test.YtajblpopbipegaaDoorMem
import Derived.Test.YtajblpopbipegaaDoorShelf
namespace Go.Proofs.YtajblpopbipegaaDoor
open Go.RowKit Go.Lib

theorem may_any (k : Nat) (n p : Int) (w : World) : Calls Tryd.prog 34 #[.int .u8 k, .int .i64 n, .int .i64 p] w fun e w' => e = .returned (.bool (mayB k n p)) ∧ w = w' := by
  by_cases h1 : k = 114
  · subst h1
    have C := Lib.hid (reg_any n w)
    have e : mayB 114 n p = regB n := rfl
    rw [e]
    clear e
    go_enter Tryd.func34, Tryd.ntmps34
    go_wp2_with fail
    refine C.out.mono ?_
    rintro e w1 ⟨rfl, rfl⟩
    go_wp2_with fail
    go_ret
    exact ⟨rfl, rfl⟩
  · have b1 : ((k : Int) == 114) = false := by simp; omega
    by_cases h2 : k = 112
    · subst h2
      by_cases g1 : 0 ≤ n
      · by_cases g2 : n ≤ p
        · have e : mayB 112 n p = true := by simp [mayB, g1, g2]
          rw [e]
          clear e
          go_enter Tryd.func34, Tryd.ntmps34
          go_wp2_with fail
          go_ret
          exact ⟨rfl, rfl⟩
        · have e : mayB 112 n p = false := by simp [mayB, g2]
          rw [e]
          clear e
          go_enter Tryd.func34, Tryd.ntmps34
          go_wp2_with fail
          go_ret
          exact ⟨rfl, rfl⟩
      · have e : mayB 112 n p = false := by simp [mayB, g1]
        rw [e]
        clear e
        go_enter Tryd.func34, Tryd.ntmps34
        go_wp2_with fail
        go_ret
        exact ⟨rfl, rfl⟩
    · have b2 : ((k : Int) == 112) = false := by simp; omega
      by_cases h3 : k = 103
      · subst h3
        by_cases g1 : 0 ≤ n
        · by_cases g2 : n < 16
          · have e : mayB 103 n p = true := by simp [mayB, g1, g2]
            rw [e]
            clear e
            go_enter Tryd.func34, Tryd.ntmps34
            go_wp2_with fail
            go_ret
            exact ⟨rfl, rfl⟩
          · have e : mayB 103 n p = false := by simp [mayB, g2]
            rw [e]
            clear e
            go_enter Tryd.func34, Tryd.ntmps34
            go_wp2_with fail
            go_ret
            exact ⟨rfl, rfl⟩
        · have e : mayB 103 n p = false := by simp [mayB, g1]
          rw [e]
          clear e
          go_enter Tryd.func34, Tryd.ntmps34
          go_wp2_with fail
          go_ret
          exact ⟨rfl, rfl⟩
      · have b3 : ((k : Int) == 103) = false := by simp; omega
        by_cases h4 : k = 45
        · subst h4
          by_cases g : n = 0
          · subst g
            have e : mayB 45 0 p = true := rfl
            rw [e]
            clear e
            go_enter Tryd.func34, Tryd.ntmps34
            go_wp2_with fail
            go_ret
            exact ⟨rfl, rfl⟩
          · have e : mayB 45 n p = false := by simp [mayB, g]
            have b5 : (n == 0) = false := by simpa using g
            rw [e]
            clear e
            go_enter Tryd.func34, Tryd.ntmps34
            go_wp2_with fail
            go_ret
            exact ⟨rfl, rfl⟩
        · have b4 : ((k : Int) == 45) = false := by simp; omega
          have e : mayB k n p = true := by simp [mayB, h1, h2, h3, h4]
          rw [e]
          clear e
          go_enter Tryd.func34, Tryd.ntmps34
          go_wp2_with fail
          go_ret
          exact ⟨rfl, rfl⟩

/-- The closure of good: a case that may not be. -/
theorem bad_any (c : Cs) (w : World) : Calls Tryd.prog 36 #[.agg #[.bool c.send, .int .i64 c.ch, .int .i64 c.val]] w fun e w' => e = .returned (.bool (badC c)) ∧ Below w.heap.size w w' := by
  obtain ⟨s, ch, val⟩ := c
  unfold badC
  simp only
  cases h1 : regB ch with
  | false =>
    have C1 := Lib.hid (reg_any ch (w.alloc (.cells #[.bool s, .int .i64 ch, .int .i64 val] 41)))
    rw [h1] at C1
    clear h1
    go_enter Tryd.func36, Tryd.ntmps36
    go_wp2_with (go_at_call 37; refine C1.out.mono ?_; rintro e w1 ⟨rfl, rfl⟩)
    go_ret
    exact ⟨rfl, bnew (Below.refl _ _) _⟩
  | true =>
    have C1 := Lib.hid (reg_any ch (w.alloc (.cells #[.bool s, .int .i64 ch, .int .i64 val] 41)))
    rw [h1] at C1
    clear h1
    cases h2 : regB val with
    | false =>
      have C2 := Lib.hid (reg_any val (w.alloc (.cells #[.bool s, .int .i64 ch, .int .i64 val] 41)))
      rw [h2] at C2
      clear h2
      go_enter Tryd.func36, Tryd.ntmps36
      go_wp2_with fail
      refine C1.out.mono ?_
      rintro e w1 ⟨rfl, rfl⟩
      go_wp2_with fail
      refine C2.out.mono ?_
      rintro e w1 ⟨rfl, rfl⟩
      go_wp2_with fail
      go_ret
      exact ⟨rfl, bnew (Below.refl _ _) _⟩
    | true =>
      have C2 := Lib.hid (reg_any val (w.alloc (.cells #[.bool s, .int .i64 ch, .int .i64 val] 41)))
      rw [h2] at C2
      clear h2
      cases s with
      | true =>
        go_enter Tryd.func36, Tryd.ntmps36
        go_wp2_with fail
        refine C1.out.mono ?_
        rintro e w1 ⟨rfl, rfl⟩
        go_wp2_with fail
        refine C2.out.mono ?_
        rintro e w1 ⟨rfl, rfl⟩
        go_wp2_with fail
        go_ret
        exact ⟨rfl, bnew (Below.refl _ _) _⟩
      | false =>
        go_enter Tryd.func36, Tryd.ntmps36
        go_wp2_with fail
        refine C1.out.mono ?_
        rintro e w1 ⟨rfl, rfl⟩
        go_wp2_with fail
        refine C2.out.mono ?_
        rintro e w1 ⟨rfl, rfl⟩
        go_wp2_with fail
        go_ret
        exact ⟨by simp; rfl, bnew (Below.refl _ _) _⟩

def encC (c : Cs) : List Value := [.bool c.send, .int .i64 c.ch, .int .i64 c.val]
theorem eg36 : ∀ args w, (callFunc 36 args).run Tryd.prog w = .ok (.enter 36 args) w := enters_of Tryd.func36 (by kernel_rfl) rfl
theorem idx42_empty (a : Option Addr) (cap : Nat) (fv : Value) (w : World) : Calls Tryd.prog 42 #[.slice a 0 cap, fv] w fun e w' => e = .returned (.int .i64 (-1)) ∧ w = w' := by
  go_enter Tryd.func42, Tryd.ntmps42
  go_wp2_with fail
  refine wp_loop_rounds 1 ?_
  rw [rounds_succ]
  go_wp2_with fail
  go_ret
  exact ⟨rfl, rfl⟩
theorem con35_empty (a : Option Addr) (cap : Nat) (fv : Value) (w : World) : Calls Tryd.prog 35 #[.slice a 0 cap, fv] w fun e w' => e = .returned (.bool false) ∧ w = w' := by
  go_enter Tryd.func35, Tryd.ntmps35
  go_wp2_with fail
  refine (idx42_empty _ _ _ _).mono ?_
  rintro e w1 ⟨rfl, rfl⟩
  go_wp2_with fail
  go_ret
  exact ⟨rfl, rfl⟩
theorem idx31_empty (a : Option Addr) (cap : Nat) (fv : Value) (w : World) : Calls Tryd.prog 31 #[.slice a 0 cap, fv] w fun e w' => e = .returned (.int .i64 (-1)) ∧ w = w' := by
  go_enter Tryd.func31, Tryd.ntmps31
  go_wp2_with fail
  refine wp_loop_rounds 1 ?_
  rw [rounds_succ]
  go_wp2_with fail
  go_ret
  exact ⟨rfl, rfl⟩
theorem con21_empty (a : Option Addr) (cap : Nat) (fv : Value) (w : World) : Calls Tryd.prog 21 #[.slice a 0 cap, fv] w fun e w' => e = .returned (.bool false) ∧ w = w' := by
  go_enter Tryd.func21, Tryd.ntmps21
  go_wp2_with fail
  refine (idx31_empty _ _ _ _).mono ?_
  rintro e w1 ⟨rfl, rfl⟩
  go_wp2_with fail
  go_ret
  exact ⟨rfl, rfl⟩
/-- Is there a case that may not be? -/
theorem bads_any (cs : List Cs) (v : Value) (w : World) (h : CRep w cs v) : Calls Tryd.prog 35 #[v, .func (.func 36) #[] #[]] w fun e w' => e = .returned (.bool (cs.any badC)) ∧ Below w.heap.size w w' := by
  obtain ⟨a, cap, b, off, rfl, hcap, hmx, ha, hc⟩ := h
  unfold maxLen at hmx
  cases cs with
  | nil =>
    exact (con35_empty a cap _ w).mono fun _ _ ⟨he, hw⟩ => ⟨he, by rw [← hw]; exact Below.refl _ _⟩
  | cons c cs =>
    obtain rfl := ha (by simp)
    have hb : b < w.heap.size := cell_lt (hc 0 c rfl).1
    have hcon := AnyQ.slices_ContainsFunc Tryd.cf35 3 Tryd.isAgg41 Tryd.sizeOf41 encC (fun _ => rfl) badC 36 #[] eg36 b off (c :: cs).length cap (c :: cs) w
      (fun W x hB => (bad_any x W).mono fun _ _ ⟨he, hb'⟩ => ⟨he, bcall hB hb'⟩) (Nat.le_refl _) (by simp at hcap hmx ⊢; omega) hb
      (fun j hj i v hi => by
        have h1 := hc j (c :: cs)[j]! (by rw [getElem!_pos _ j hj]; exact List.getElem?_eq_getElem hj)
        generalize (c :: cs)[j]! = y at hi h1
        match i, hi with
        | 0, hi => simp [encC] at hi; rw [← hi]; exact h1.1
        | 1, hi => simp [encC] at hi; rw [← hi]; exact h1.2.1
        | 2, hi => simp [encC] at hi; rw [← hi]; exact h1.2.2
        | i + 3, hi => simp [encC] at hi)
    rw [List.take_length] at hcon
    exact hcon
end Go.Proofs.YtajblpopbipegaaDoor
