/-
  prog.Check, prog.All: THE WALKS.
-/
import Derived.Test.YtajblpopbipegaaDoorGood2
import Derived.Outline
namespace Go.Proofs.YtajblpopbipegaaDoor
open Go.RowKit Go.Lib

/-- Instructions with the slices of their cases. -/
structure InsAt (w : World) where
  i : Ins
  v : Value
  h : CRep w i.cases v
instance (w : World) : Inhabited (InsAt w) := ⟨⟨default, .slice none 0 0, none, 0, 0, 0, rfl, Nat.le_refl _, by unfold maxLen; omega, fun h => by simp [default] at h, fun j c hj => by simp [default] at hj⟩⟩
def encA {w : World} (x : InsAt w) : List Value := [.int .i64 x.i.op, .int .i64 x.i.a, .int .i64 x.i.b, .int .i64 x.i.c, x.v, .bool x.i.dflt]
theorem mkRow (w : World) : ∀ (l : List Ins) (vs : Nat → Value), (∀ j i, l[j]? = some i → CRep w i.cases (vs j)) →
    ∃ zs : List (InsAt w), zs.length = l.length ∧ (∀ j x, zs[j]? = some x → l[j]? = some x.i ∧ x.v = vs j) ∧ ∀ q : Ins → Bool, zs.any (fun x => q x.i) = l.any q
  | [], _, _ => ⟨[], rfl, fun j x h => by simp at h, fun q => rfl⟩
  | i :: l, vs, h => by
    obtain ⟨zs, h1, h2, h3⟩ := mkRow w l (fun j => vs (j + 1)) (fun j t hj => h (j + 1) t (by simpa using hj))
    refine ⟨⟨i, vs 0, h 0 i rfl⟩ :: zs, by simp [h1], fun j x hj => ?_, fun q => by simp [h3]⟩
    cases j with
    | zero => simp at hj; subst hj; exact ⟨rfl, rfl⟩
    | succ j => simp at hj; obtain ⟨a, b⟩ := h2 j x hj; exact ⟨by simpa using a, b⟩

theorem eg25 : ∀ args w, (callFunc 25 args).run Tryd.prog w = .ok (.enter 25 args) w := enters_of Tryd.func25 (by kernel_rfl) rfl
theorem eg22 : ∀ args w, (callFunc 22 args).run Tryd.prog w = .ok (.enter 22 args) w := enters_of Tryd.func22 (by kernel_rfl) rfl

/-- The closure of Check: it may not be, among the places of the program in that box. -/
theorem chk1_any (i : Ins) (cv : Value) (B n cap : Nat) (a : Option Addr) (w : World) (hcs : CRep w i.cases cv) (hB : w.cell? ⟨B, 0, none⟩ = some (.slice a n cap)) :
    Calls Tryd.prog 25 #[.agg #[.int .i64 i.op, .int .i64 i.a, .int .i64 i.b, .int .i64 i.c, cv, .bool i.dflt], .pointer (some ⟨B, 0, none⟩)] w fun e w' => e = .returned (.bool (!goodB i n)) ∧ Below w.heap.size w w' := by
  have hB' := keep_alloc (o := .cells #[.int .i64 i.op, .int .i64 i.a, .int .i64 i.b, .int .i64 i.c, cv, .bool i.dflt] 36) hB
  have C := Lib.hid (good_any i n cv _ (hcs.ext (Ext.alloc w (.cells #[.int .i64 i.op, .int .i64 i.a, .int .i64 i.b, .int .i64 i.c, cv, .bool i.dflt] 36))))
  obtain ⟨ca, ccap, rfl⟩ := hcs.form
  clear hcs hB
  generalize goodB i n = g at C
  go_enter Tryd.func25, Tryd.ntmps25
  go_wp2_with fail
  refine C.out.mono ?_
  rintro e w1 ⟨rfl, hB1⟩
  go_wp2_with fail
  go_ret
  exact ⟨rfl, bcall (bnew (Below.refl _ w) _) hB1⟩

/-- slices.ContainsFunc over a program. -/
theorem has_ins (l : List Ins) (v : Value) (q : Ins → Bool) (g : Nat) (lb : Array Value) (eg : ∀ args w, (callFunc g args).run Tryd.prog w = .ok (.enter g args) w) (w : World) (h : LRep w l v)
    (hq : ∀ (W : World) (i : Ins) (cv : Value), Below w.heap.size w W → CRep W i.cases cv → Calls Tryd.prog g (#[.agg #[.int .i64 i.op, .int .i64 i.a, .int .i64 i.b, .int .i64 i.c, cv, .bool i.dflt]] ++ lb) W fun e w' => e = .returned (.bool (q i)) ∧ Below W.heap.size W w') :
    Calls Tryd.prog 21 #[v, .func (.func g) #[] lb] w fun e w' => e = .returned (.bool (l.any q)) ∧ Below w.heap.size w w' := by
  obtain ⟨a, cap, b, off, vs, rfl, hcap, hmx, ha, hc⟩ := h
  unfold maxLen at hmx
  cases l with
  | nil => exact (con21_empty a cap _ w).mono fun _ _ ⟨he, hw⟩ => ⟨he, by rw [← hw]; exact Below.refl _ _⟩
  | cons i0 l0 =>
    obtain rfl := ha (by simp)
    have hb : b < w.heap.size := cell_lt (hc 0 i0 rfl).2.1
    obtain ⟨zs, hz1, hz2, hz3⟩ := mkRow w (i0 :: l0) vs (fun j i hj => (hc j i hj).1)
    have hcon := AnyQ.slices_ContainsFunc Tryd.cf21 6 Tryd.isAgg36 Tryd.sizeOf36 (encA (w := w)) (fun _ => rfl) (fun x => q x.i) g lb eg b off (i0 :: l0).length cap zs w
      (fun W x hB => (hq W x.i x.v hB (x.h.ext (Ext.of_below hB))).mono fun _ _ ⟨he, hb'⟩ => ⟨he, bcall hB hb'⟩) (by omega) (by simp at hcap hmx ⊢; omega) hb
      (fun j hj i v hi => by
        have hgj : zs[j]? = some zs[j]! := by rw [getElem!_pos _ j hj]; exact List.getElem?_eq_getElem hj
        obtain ⟨h1, h2⟩ := hz2 j _ hgj
        have h3 := (hc j _ h1).2
        rw [← h2] at h3
        generalize zs[j]! = y at hi h3
        match i, hi with
        | 0, hi => simp [encA] at hi; rw [← hi]; exact h3.1
        | 1, hi => simp [encA] at hi; rw [← hi]; exact h3.2.1
        | 2, hi => simp [encA] at hi; rw [← hi]; exact h3.2.2.1
        | 3, hi => simp [encA] at hi; rw [← hi]; exact h3.2.2.2.1
        | 4, hi => simp [encA] at hi; rw [← hi]; exact h3.2.2.2.2.1
        | 5, hi => simp [encA] at hi; rw [← hi]; exact h3.2.2.2.2.2
        | i + 6, hi => simp [encA] at hi)
    rw [← hz1, List.take_length, hz3, hz1] at hcon
    exact hcon

/-- An answer as a number. -/
def errN (b : Bool) : Int := if b then 0 else 1
theorem errN_true : errN true = 0 := rfl
theorem errN_false : errN false = 1 := rfl
/-- prog.Check. -/
theorem check_any (l : List Ins) (v : Value) (w : World) (h : LRep w l v) : Calls Tryd.prog 13 #[v] w fun e w' => e = .returned (.int .i64 (errN (checkB l))) ∧ Below w.heap.size w w' := by
  obtain ⟨a, cap, rfl, hcap, hmx⟩ := h.form
  by_cases hl : 100 < l.length
  · have e : errN (checkB l) = 1 := by
      unfold errN
      rw [if_neg]
      unfold checkB
      simp; omega
    rw [e]
    unfold maxLen at hmx
    clear e h
    go_enter Tryd.func13, Tryd.ntmps13
    go_wp2_with fail
    go_ret
    exact ⟨rfl, bnew (Below.refl _ w) _⟩
  · have C := has_ins l _ (fun i => !goodB i l.length) 25 #[.pointer (some ⟨w.heap.size, 0, none⟩)] eg25 (w.alloc (.cells #[.slice a l.length cap] 29)) (h.ext (Ext.alloc _ _)) (fun W i cv hW hcv => chk1_any i cv w.heap.size l.length cap a W hcv (keep_below hW (by simp)))
    have hk : (l.any fun i => !goodB i l.length) = !checkB l := by
      unfold checkB
      rw [show decide (l.length ≤ 100) = true from decide_eq_true (by omega), Bool.true_and, List.any_eq_not_all_not]
      simp
    rw [hk] at C
    have Ch := Lib.hid C
    unfold maxLen at hmx
    clear C hk h
    cases hb : checkB l with
    | true =>
      rw [hb] at Ch
      clear hb
      go_enter Tryd.func13, Tryd.ntmps13
      go_wp2_with (go_at_call 21; refine Ch.out.mono ?_; rintro e w1 ⟨rfl, hB⟩)
      go_ret
      exact ⟨rfl, bcall (bnew (Below.refl _ w) _) hB⟩
    | false =>
      rw [hb] at Ch
      clear hb
      go_enter Tryd.func13, Tryd.ntmps13
      go_wp2_with (go_at_call 21; refine Ch.out.mono ?_; rintro e w1 ⟨rfl, hB⟩)
      go_ret
      exact ⟨rfl, bcall (bnew (Below.refl _ w) _) hB⟩

theorem starts_any (i : Ins) (cv : Value) (w : World) (hcs : CRep w i.cases cv) : Calls Tryd.prog 23 #[.agg #[.int .i64 i.op, .int .i64 i.a, .int .i64 i.b, .int .i64 i.c, cv, .bool i.dflt]] w fun e w' => e = .returned (.int .i64 (startsN i)) ∧ Below w.heap.size w w' := by
  obtain ⟨op, a, b, c, cs, d⟩ := i
  obtain ⟨ca, ccap, rfl⟩ := hcs.form
  clear hcs
  unfold startsN
  simp only
  by_cases h1 : op = 8
  · subst h1
    go_enter Tryd.func23, Tryd.ntmps23
    go_wp2_with fail
    go_ret
    exact ⟨rfl, bnew (Below.refl _ w) _⟩
  · have b1 : (op == 8) = false := by simpa using h1
    rw [if_neg h1]
    by_cases h2 : op = 19
    · subst h2
      go_enter Tryd.func23, Tryd.ntmps23
      go_wp2_with fail
      go_ret
      exact ⟨rfl, bnew (Below.refl _ w) _⟩
    · have b2 : (op == 19) = false := by simpa using h2
      by_cases h3 : op = 31
      · subst h3
        go_enter Tryd.func23, Tryd.ntmps23
        go_wp2_with fail
        go_ret
        exact ⟨rfl, bnew (Below.refl _ w) _⟩
      · have b3 : (op == 31) = false := by simpa using h3
        rw [if_neg (by omega)]
        clear h1 h2 h3
        go_enter Tryd.func23, Tryd.ntmps23
        go_wp2_with fail
        go_ret
        exact ⟨rfl, bnew (Below.refl _ w) _⟩
end Go.Proofs.YtajblpopbipegaaDoor
