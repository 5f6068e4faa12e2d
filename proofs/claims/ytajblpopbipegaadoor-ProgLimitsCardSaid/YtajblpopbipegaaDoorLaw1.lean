/-
  tarpaulinlaw4.ProgOne: WHAT THE CHANGED PROGRAMS ARE.
-/
import Derived.Test.YtajblpopbipegaaDoorRows6
namespace Go.Proofs.YtajblpopbipegaaDoor
open Go.RowKit Go.Lib

theorem check_parts {l : List Ins} (h : checkB l = true) : l.length ≤ 100 ∧ ∀ i ∈ l, goodB i l.length = true := by
  unfold checkB at h
  simp only [Bool.and_eq_true, decide_eq_true_eq, List.all_eq_true] at h
  exact h
theorem check_no {l : List Ins} {k : Nat} {i : Ins} (hi : l[k]? = some i) (h : goodB i l.length = false) : checkB l = false := by
  unfold checkB
  have : (l.all fun i => goodB i l.length) = false := by
    rw [List.all_eq_false]
    exact ⟨i, List.mem_of_getElem? hi, by rw [h]; simp⟩
  rw [this, Bool.and_false]
theorem set_at {l : List Ins} {k : Nat} (hk : k < l.length) (y : Ins) : (l.set k y)[k]? = some y := by
  rw [List.getElem?_set_self hk]
/-- Another first field. -/
def withA (i : Ins) (a : Int) : Ins := { i with a := a }
def withOp (i : Ins) (op : Int) : Ins := { i with op := op }
theorem kind_a : ∀ n : Fin 32, (n.val + 1 = 4 ∧ fieldsL.getD (3 * n.val) 0 = 112) ∨ (n.val + 1 ≠ 4 ∧ (fieldsL.getD (3 * n.val) 0 = 114 ∨ fieldsL.getD (3 * n.val) 0 = 45)) := by decide
theorem odd_good (i : Ins) (p : Int) (h1 : 1 ≤ i.op) (h2 : i.op ≤ 32) : goodB (withA i (if i.op = 4 then p + 1 else 8)) p = false := by
  obtain ⟨n, hn⟩ := Int.eq_ofNat_of_zero_le (show 0 ≤ i.op by omega)
  have hk := kind_a ⟨n - 1, by omega⟩
  simp only at hk
  have e0 : kindAt i.op 0 = fieldsL.getD (3 * (n - 1)) 0 := by unfold kindAt; rw [hn, Int.toNat_natCast]; rfl
  have hm : mayB (kindAt i.op 0) (if i.op = 4 then p + 1 else 8) p = false := by
    rw [e0]
    rcases hk with ⟨h4, hk⟩ | ⟨h4, hk | hk⟩
    · rw [hk, if_pos (by omega)]; simp [mayB]; omega
    · rw [hk, if_neg (by omega)]; simp [mayB, regB]
    · rw [hk, if_neg (by omega)]; simp [mayB]
  unfold goodB
  show (headB (withA i _) && mayB (kindAt i.op 0) (if i.op = 4 then p + 1 else 8) p && mayB (kindAt (withA i _).op 1) (withA i _).b p && mayB (kindAt (withA i _).op 2) (withA i _).c p && !((withA i _).cases.any badC)) = false
  rw [hm]
  simp
theorem op_good (i : Ins) (op p : Int) (h : op < 1 ∨ 32 < op) : goodB (withOp i op) p = false := by
  refine good_no ?_ p
  unfold headB
  show (decide (1 ≤ op) && decide (op ≤ 32) && _ && _) = false
  rcases h with h | h
  · rw [decide_eq_false (show ¬ 1 ≤ op by omega)]; simp
  · rw [decide_eq_false (show ¬ op ≤ 32 by omega)]; simp
theorem may_more {k : Nat} {n p : Int} (h : mayB k n p = true) : mayB k n (p + 1) = true := by
  unfold mayB at h ⊢
  split
  · rename_i h1; rw [if_pos h1] at h; exact h
  · rename_i h1
    rw [if_neg h1] at h
    split
    · rename_i h2
      rw [if_pos h2] at h
      simp only [Bool.and_eq_true, decide_eq_true_eq] at h ⊢
      omega
    · rename_i h2
      rw [if_neg h2] at h
      exact h
theorem good_more {i : Ins} {p : Int} (h : goodB i p = true) : goodB i (p + 1) = true := by
  unfold goodB at h ⊢
  simp only [Bool.and_eq_true] at h ⊢
  obtain ⟨⟨⟨⟨a, b⟩, c⟩, d⟩, e⟩ := h
  exact ⟨⟨⟨⟨a, may_more b⟩, may_more c⟩, may_more d⟩, e⟩
def exI : Ins := ⟨7, 0, 0, 0, [], false⟩
theorem ex_good (p : Int) : goodB exI p = true := rfl
theorem check_more {l : List Ins} (h : checkB l = true) (hl : l.length ≤ 60) : checkB (l ++ [exI]) = true := by
  obtain ⟨_, h2⟩ := check_parts h
  unfold checkB
  rw [List.length_append, List.length_singleton, decide_eq_true (by omega), Bool.true_and, List.all_eq_true]
  intro i hi
  rcases List.mem_append.1 hi with hi | hi
  · have := good_more (h2 i hi)
    rw [show ((l.length + 1 : Nat) : Int) = (l.length : Int) + 1 by omega]
    exact this
  · rw [List.mem_singleton.1 hi]; exact ex_good _
theorem check_odd {l : List Ins} {k : Nat} {x : Ins} (h : checkB l = true) (hx : l[k]? = some x) : checkB (l.set k (withA x (if x.op = 4 then l.length + 1 else 8))) = false := by
  have hk : k < l.length := (List.getElem?_eq_some_iff.1 hx).1
  obtain ⟨h1, h2, _⟩ := good_parts ((check_parts h).2 x (List.mem_of_getElem? hx))
  refine check_no (set_at hk _) ?_
  rw [List.length_set]
  exact odd_good x l.length h1 h2
theorem check_op {l : List Ins} {k : Nat} {x : Ins} (hk : k < l.length) (op : Int) (h : op < 1 ∨ 32 < op) : checkB (l.set k (withOp x op)) = false := check_no (set_at hk _) (op_good x op _ h)
theorem all_one_no {l : List Ins} (h : checkB l = false) : allB [l] = false := by
  unfold allB
  simp [h]
theorem alike_one {l : List Ins} (h : alikeB [l] = true) : l.length ≤ 60 := by
  unfold alikeB at h
  simp only [Bool.and_eq_true, List.all_eq_true] at h
  have := h.1 l (by simp)
  unfold smallP at this
  simp only [Bool.and_eq_true, decide_eq_true_eq] at this
  exact this.1

theorem pairs_of : ∀ (l : List Ins) (vs : Nat → Value), ∃ zs : List (Ins × Value), zs.map (·.1) = l ∧ ∀ j x, zs[j]? = some x → l[j]? = some x.1 ∧ x.2 = vs j
  | [], _ => ⟨[], rfl, fun j x h => by simp at h⟩
  | i :: l, vs => by
    obtain ⟨zs, h1, h2⟩ := pairs_of l (fun j => vs (j + 1))
    refine ⟨(i, vs 0) :: zs, by simp [h1], fun j x hj => ?_⟩
    cases j with
    | zero => simp at hj; subst hj; exact ⟨rfl, rfl⟩
    | succ j => simp at hj; obtain ⟨a, b⟩ := h2 j x hj; exact ⟨by simpa using a, b⟩
/-- The cells of a program, in a row. -/
theorem lrep_flat {w : World} {l : List Ins} {v : Value} (h : LRep w l v) (hl : 0 < l.length) :
    ∃ (b off cap : Nat) (zs : List (Ins × Value)), v = .slice (some ⟨b, off, none⟩) l.length cap ∧ l.length ≤ cap ∧ cap ≤ maxLen ∧ zs.map (·.1) = l ∧ (∀ x ∈ zs, CRep w x.1.cases x.2) ∧ ∀ j u, (flat6 zs)[j]? = some u → w.cell? ⟨b, off + j, none⟩ = some u := by
  obtain ⟨a, cap, b, off, vs, rfl, hcap, hm, ha, hc⟩ := h
  obtain rfl := ha hl
  obtain ⟨zs, hz1, hz2⟩ := pairs_of l vs
  refine ⟨b, off, cap, zs, rfl, hcap, hm, hz1, fun x hx => ?_, fun j u hj => ?_⟩
  · obtain ⟨j, hj⟩ := List.getElem?_of_mem hx
    obtain ⟨h1, h2⟩ := hz2 j x hj
    rw [h2]
    exact (hc j _ h1).1
  · have hjl : j < zs.length * 6 := by rw [← flat6_len]; exact (List.getElem?_eq_some_iff.1 hj).1
    obtain ⟨x, hx⟩ : ∃ x, zs[j / 6]? = some x := ⟨_, List.getElem?_eq_getElem (by omega)⟩
    have h1 := flat6_at zs (j / 6) (j % 6) x (by omega) hx
    rw [show j / 6 * 6 + j % 6 = j by omega, hj] at h1
    obtain ⟨h2, h3⟩ := hz2 _ x hx
    obtain ⟨_, y0, y1, y2, y3, y4, y5⟩ := hc _ _ h2
    rw [← h3] at y4
    have hm6 : j % 6 < 6 := by omega
    rw [show off + j = off + j / 6 * 6 + j % 6 by omega]
    generalize j % 6 = r at h1 hm6
    match r, hm6 with
    | 0, _ => simp [encI] at h1; rw [h1]; exact y0
    | 1, _ => simp [encI] at h1; rw [h1]; exact y1
    | 2, _ => simp [encI] at h1; rw [h1]; exact y2
    | 3, _ => simp [encI] at h1; rw [h1]; exact y3
    | 4, _ => simp [encI] at h1; rw [h1]; exact y4
    | 5, _ => simp [encI] at h1; rw [h1]; exact y5
theorem map_set (zs : List (Ins × Value)) (k : Nat) (y : Ins × Value) : (zs.set k y).map (·.1) = (zs.map (·.1)).set k y.1 := by rw [List.map_set]
/-- A row that a call owns, changed at one place, as a program. -/
theorem own_set {w : World} {base g n cap : Nat} {zs : List (Ins × Value)} {k i : Nat} {x y : Ins × Value} {v : Value} (h : w.ownsRow base 36 6 (.slice (some ⟨g, 0, none⟩) n cap) n (flat6 zs)) (hx : zs[k]? = some x) (hi : i < 6) (hy : (encI x.1 x.2).set i v = encI y.1 y.2) :
    (w.setCell ⟨g, k * 6 + i, none⟩ v).ownsRow base 36 6 (.slice (some ⟨g, 0, none⟩) n cap) n (flat6 (zs.set k y)) := by
  have := (h.stored (k * 6 + i) v).1
  rw [flat6_set zs k i x v y hi hx hy] at this
  exact this
end Go.Proofs.YtajblpopbipegaaDoor
