/-
  tarpaulinlaw4.ProgLimits: WHAT THE ROWS ARE; the struct variable whose cases grow beside a row of programs.
-/
import Derived.Test.YtajblpopbipegaaDoorLaw1W
namespace Go.Proofs.YtajblpopbipegaaDoor
open Go.RowKit Go.Lib

def selI (k : Nat) : Ins := ⟨15, 0, 0, 0, List.replicate k ⟨false, 0, 0⟩, false⟩
theorem lim_one (n : Nat) : checkB (List.replicate n exI) = decide (n ≤ 100) := by
  unfold checkB
  have h : ((List.replicate n exI).all fun i => goodB i (List.replicate n exI).length) = true := by
    rw [List.all_eq_true]
    intro i hi
    rw [List.eq_of_mem_replicate hi]
    exact ex_good _
  rw [h, List.length_replicate, Bool.and_true]
theorem lim_all (k : Nat) : allB (List.replicate k []) = (decide (1 ≤ k) && decide (k ≤ 16)) := by
  rw [all_eq, List.length_replicate]
  have h : (List.replicate k ([] : List Ins)).all (okP k) = true := by
    rw [List.all_eq_true]
    intro i hi
    rw [List.eq_of_mem_replicate hi]
    rfl
  rw [h, Bool.and_true]
theorem lim_sel (k : Nat) : checkB [selI k] = decide (k ≤ 16) := by
  have hb : ((selI k).cases.any badC) = false := by
    rw [List.any_eq_false]
    intro c hc
    rw [List.eq_of_mem_replicate hc]
    decide
  have hg : goodB (selI k) 1 = decide (k ≤ 16) := by
    unfold goodB
    rw [hb]
    have e0 : mayB (kindAt (selI k).op 0) (selI k).a 1 = true := by show mayB (kindAt 15 0) 0 1 = true; decide
    have e1 : mayB (kindAt (selI k).op 1) (selI k).b 1 = true := by show mayB (kindAt 15 1) 0 1 = true; decide
    have e2 : mayB (kindAt (selI k).op 2) (selI k).c 1 = true := by show mayB (kindAt 15 2) 0 1 = true; decide
    rw [e0, e1, e2]
    unfold headB
    have : (selI k).cases.length = k := by simp [selI]
    rw [this]
    simp [selI]
  unfold checkB
  simp [hg]

/-- The cells of so many plain cases. -/
def flat3 (k : Nat) : List Value := (List.replicate k [Value.bool false, .int .i64 0, .int .i64 0]).flatten
theorem flat3_len (k : Nat) : (flat3 k).length = k * 3 := by
  unfold flat3
  rw [List.length_flatten, List.map_replicate, List.sum_replicate_nat]
  rfl
theorem flat3_at (k j i : Nat) (hj : j < k) (hi : i < 3) : (flat3 k)[j * 3 + i]? = [Value.bool false, .int .i64 0, .int .i64 0][i]? := by
  induction k generalizing j with
  | zero => omega
  | succ k ih =>
    unfold flat3 at ih ⊢
    rw [List.replicate_succ, List.flatten_cons]
    cases j with
    | zero =>
      rw [Nat.zero_mul, Nat.zero_add, List.getElem?_append_left (by simp; omega)]
    | succ j =>
      rw [List.getElem?_append_right (by simp; omega), ← ih j (by omega)]
      congr 1
      simp
      omega
theorem flat3_succ (k : Nat) : flat3 k ++ [.bool false, .int .i64 0, .int .i64 0] = flat3 (k + 1) := by
  unfold flat3
  rw [List.replicate_succ', List.flatten_append]
  simp
theorem ex_succ (j : Nat) : flat6 (List.replicate j (exI, .slice none 0 0)) ++ [.int .i64 7, .int .i64 0, .int .i64 0, .int .i64 0, .slice none 0 0, .bool false] = flat6 (List.replicate (j + 1) (exI, .slice none 0 0)) := by
  unfold flat6
  rw [List.replicate_succ', List.flatMap_append]
  simp [encI, exI]
theorem lim_crep {w : World} {base : Nat} {v : Value} {k : Nat} (h : w.ownsRow base 41 3 v k (flat3 k)) : CRep w (List.replicate k ⟨false, 0, 0⟩) v := by
  rcases h.2 with ⟨rfl, h0⟩ | ⟨g, cap, cur, rfl, _, hb, hn, hm, hs, ht⟩
  · subst h0
    exact crep0 w
  · refine ⟨some ⟨g, 0, none⟩, cap, g, 0, by simp, by simpa using hn, hm, fun _ => rfl, fun j c hj => ?_⟩
    have hjl : j < k := by simpa using (List.getElem?_eq_some_iff.1 hj).1
    have hc : c = ⟨false, 0, 0⟩ := List.eq_of_mem_replicate (List.mem_of_getElem? hj)
    subst hc
    have cell : ∀ i u, i < 3 → [Value.bool false, .int .i64 0, .int .i64 0][i]? = some u → w.cell? ⟨g, 0 + j * 3 + i, none⟩ = some u := fun i u hi hu => by
      rw [Nat.zero_add]
      exact (h.cellAt _ (by omega)).trans ((flat3_at k j i hjl hi).trans hu)
    exact ⟨by simpa using cell 0 _ (by omega) rfl, cell 1 _ (by omega) rfl, cell 2 _ (by omega) rfl⟩
theorem lim_prep {w : World} {base : Nat} {v : Value} {k : Nat} (h : w.ownsRow base 29 1 v k (List.replicate k (.slice none 0 0))) : PRep w (List.replicate k []) v := by
  rcases h.2 with ⟨rfl, h0⟩ | ⟨g, cap, cur, rfl, _, hb, hn, hm, hs, ht⟩
  · subst h0
    exact prep0 w
  · refine ⟨some ⟨g, 0, none⟩, cap, g, 0, fun _ => .slice none 0 0, by simp, by simpa using hn, hm, fun _ => rfl, fun j l hj => ?_⟩
    have hjl : j < k := by simpa using (List.getElem?_eq_some_iff.1 hj).1
    have hc : l = [] := List.eq_of_mem_replicate (List.mem_of_getElem? hj)
    subst hc
    refine ⟨lrep0 w, ?_⟩
    rw [Nat.zero_add]
    refine (h.cellAt _ (by omega)).trans ?_
    rw [List.getElem?_replicate, if_pos hjl]
theorem lim_lrep {w : World} {base : Nat} {v : Value} {n : Nat} (h : w.ownsRow base 36 6 v n (flat6 (List.replicate n (exI, .slice none 0 0)))) : LRep w (List.replicate n exI) v := by
  have := own_lrep (zs := List.replicate n (exI, .slice none 0 0)) (by rw [List.length_replicate]; exact h) (fun x hx => by rw [List.eq_of_mem_replicate hx]; exact crep0 _)
  rw [List.map_replicate] at this
  exact this

/-- The two rows that grow: their blocks differ; the struct variable lies ahead of both. -/
structure LimRel (W1 : World) (j : Nat) (v7 cv : Value) (wr : World) : Prop where
  box : wr.heap[W1.heap.size]? = some (.cells #[.int .i64 15, .int .i64 0, .int .i64 0, .int .i64 0, cv, .bool false] 36 (0, 0))
  own7 : wr.ownsRow (W1.heap.size + 1) 29 1 v7 j (List.replicate j (.slice none 0 0))
  own8 : wr.ownsRow (W1.heap.size + 1) 41 3 cv j (flat3 j)
  dis : ∀ g, v7.ownBlock = some g → cv.ownBlock ≠ some g
  bel : Below W1.heap.size W1 wr
theorem lim_start (W1 : World) : LimRel W1 0 (.slice none 0 0) (.slice none 0 0) (W1.alloc (.cells #[.int .i64 15, .int .i64 0, .int .i64 0, .int .i64 0, .slice none 0 0, .bool false] 36)) :=
  ⟨heap_alloc_new _ _, World.ownsRow_nil _ _ _ _, World.ownsRow_nil _ _ _ _, fun g h => by simp [Value.ownBlock] at h, bnew (Below.refl _ _) _⟩
theorem LimRel.lt {W1 wr : World} {j : Nat} {v7 cv : Value} (h : LimRel W1 j v7 cv wr) : W1.heap.size < wr.heap.size := cell_lt (p := ⟨W1.heap.size, 0, none⟩) (cell_of_row wr W1.heap.size 0 _ _ _ h.box)
theorem LimRel.n7 {W1 wr : World} {j : Nat} {v7 cv : Value} (h : LimRel W1 j v7 cv wr) : some W1.heap.size ≠ v7.ownBlock := fun e => by have := (h.own7.lt _ e.symm).1; omega
theorem LimRel.n8 {W1 wr : World} {j : Nat} {v7 cv : Value} (h : LimRel W1 j v7 cv wr) : some W1.heap.size ≠ cv.ownBlock := fun e => by have := (h.own8.lt _ e.symm).1; omega
theorem lim_mid {W1 wr u1 : World} {j : Nat} {v7 cv : Value} {o1 : Obj} (h : LimRel W1 j v7 cv wr) (grow1 : (wr.alloc o1).grownBy u1 v7.ownBlock) :
    u1.heap[W1.heap.size]? = some (.cells #[.int .i64 15, .int .i64 0, .int .i64 0, .int .i64 0, cv, .bool false] 36 (0, 0)) ∧ u1.ownsRow (W1.heap.size + 1) 41 3 cv j (flat3 j) ∧ W1.heap.size < u1.heap.size := by
  have hl := h.lt
  have hb : u1.heap[W1.heap.size]? = some (.cells #[.int .i64 15, .int .i64 0, .int .i64 0, .int .i64 0, cv, .bool false] 36 (0, 0)) := by
    rw [grow1.block _ (by simp; omega) h.n7, Below.heap_alloc _ _ _ hl]
    exact h.box
  refine ⟨hb, (h.own8.alloc o1).kept grow1 ?_, cell_lt (p := ⟨W1.heap.size, 0, none⟩) (cell_of_row u1 W1.heap.size 0 _ _ _ hb)⟩
  cases hc : cv.ownBlock with
  | none => exact Or.inl rfl
  | some g => exact Or.inr fun e => h.dis g e.symm hc
theorem lim_step {W1 wr u1 u2 : World} {j g7 c7 g8 c8 : Nat} {v7 cv : Value} {o1 o2 : Obj} (h : LimRel W1 j v7 cv wr)
    (own7 : u1.ownsRow (W1.heap.size + 1) 29 1 (.slice (some ⟨g7, 0, none⟩) (j + 1) c7) (j + 1) (List.replicate j (.slice none 0 0) ++ [.slice none 0 0])) (grow1 : (wr.alloc o1).grownBy u1 v7.ownBlock) (hat1 : v7.ownBlock = some g7 ∨ g7 = (wr.alloc o1).heap.size) (hlt1 : g7 < u1.heap.size)
    (own8 : u2.ownsRow (W1.heap.size + 1) 41 3 (.slice (some ⟨g8, 0, none⟩) (j + 1) c8) (j + 1) (flat3 j ++ [.bool false, .int .i64 0, .int .i64 0])) (grow2 : (u1.alloc o2).grownBy u2 cv.ownBlock) (hat2 : cv.ownBlock = some g8 ∨ g8 = (u1.alloc o2).heap.size) :
    LimRel W1 (j + 1) (.slice (some ⟨g7, 0, none⟩) (j + 1) c7) (.slice (some ⟨g8, 0, none⟩) (j + 1) c8) (u2.setCell ⟨W1.heap.size, 4, none⟩ (.slice (some ⟨g8, 0, none⟩) (j + 1) c8)) := by
  obtain ⟨hb1, hk8, hl1⟩ := lim_mid h grow1
  have hl := h.lt
  have hn : cv.ownBlock ≠ some g7 := by
    rcases hat1 with e | e
    · exact h.dis _ e
    · intro e'
      have := (h.own8.lt _ e').2
      simp at e
      omega
  have hb2 : u2.heap[W1.heap.size]? = some (.cells #[.int .i64 15, .int .i64 0, .int .i64 0, .int .i64 0, cv, .bool false] 36 (0, 0)) := by
    rw [grow2.block _ (by simp; omega) h.n8, Below.heap_alloc _ _ _ hl1]
    exact hb1
  have own7' := (own7.alloc o2).kept grow2 (Or.inr (by simp only [Value.ownBlock]; exact fun e => hn e.symm))
  rw [flat3_succ] at own8
  rw [← List.replicate_succ'] at own7'
  refine ⟨?_, ownsRow_setCell_below own7' (by simp) _, ownsRow_setCell_below own8 (by simp) _, fun g hg => ?_, ?_⟩
  · simp [World.setCell, Array.getElem?_modify, hb2]
  · simp [Value.ownBlock] at hg ⊢
    subst hg
    rcases hat2 with e | e
    · intro e'; subst e'; exact hn e
    · simp at e; omega
  · have b1 : Below W1.heap.size W1 u1 := (h.bel.alloc (by omega) o1).grown grow1 (by simp; omega) (fun k hk => by have := (h.own7.lt _ hk).1; omega)
    have b2 : Below W1.heap.size W1 u2 := (b1.alloc (by omega) o2).grown grow2 (by simp; omega) (fun k hk => by have := (h.own8.lt _ hk).1; omega)
    exact b2.setCell (Nat.le_refl _) _
end Go.Proofs.YtajblpopbipegaaDoor
