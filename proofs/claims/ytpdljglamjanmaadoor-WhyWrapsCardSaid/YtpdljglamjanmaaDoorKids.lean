/-
  A SHAPE IN THE MAKING: its kids are appended one by one to a slice in a struct variable.
-/
import Derived.Test.YtpdljglamjanmaaDoorMem
namespace Go.Proofs.YtpdljglamjanmaaDoor
open Go.RowKit

/-- The struct variable in block B0 has these kids; what has been made lies behind W0; nothing else has turned. -/
def KidsRel (W0 : World) (B0 : Nat) (op : ByteArray) (done : List Sh) (kv : Value) (xs : List Value) (wr : World) : Prop :=
  B0 < W0.heap.size ∧ wr.heap[B0]? = some (.cells #[.int .i64 0, .string op, kv] 27 (0, 0)) ∧ wr.ownsRow W0.heap.size 27 3 kv done.length xs ∧
  (∀ i s, done[i]? = some s → ∃ v0 v1 v2, xs[i * 3]? = some v0 ∧ xs[i * 3 + 1]? = some v1 ∧ xs[i * 3 + 2]? = some v2 ∧ FRep (fun b => W0.heap.size ≤ b ∧ some b ≠ kv.ownBlock) wr s v0 v1 v2) ∧
  W0.grownBy wr (some B0)

theorem kids_start {W0 : World} {B0 : Nat} {op : ByteArray} (h : W0.heap[B0]? = some (.cells #[.int .i64 0, .string op, .slice none 0 0] 27 (0, 0))) : KidsRel W0 B0 op [] (.slice none 0 0) [] W0 :=
  ⟨cell_lt (p := ⟨B0, 0, none⟩) (cell_of_row W0 B0 0 _ _ _ h), h, World.ownsRow_nil _ _ _ _, fun i s hs => by simp at hs, World.grownBy.refl _ _⟩

theorem only_trans {a b c : World} {row : Option Nat} (h : a.grownBy b row) (k : b.grownBy c row) : a.grownBy c row :=
  ⟨k.os.trans h.os, k.tape.trans h.tape, k.output.trans h.output, Nat.le_trans h.size k.size, fun i hi hne => (k.block i (Nat.lt_of_lt_of_le hi h.size) hne).trans (h.block i hi hne)⟩
theorem below_only {w w' : World} (h : Below w.heap.size w w') (row : Option Nat) : w.grownBy w' row := ⟨h.os, h.tape, h.output, h.size, fun k hk _ => h.block k hk⟩

/-- Nothing but draws, new blocks and calls: the relation stays. -/
theorem kids_keep {W0 wr w1 : World} {B0 : Nat} {op : ByteArray} {done : List Sh} {kv : Value} {xs : List Value} (h : KidsRel W0 B0 op done kv xs wr) (hB : Below wr.heap.size wr w1) : KidsRel W0 B0 op done kv xs w1 := by
  obtain ⟨h0, hb, hown, hd, hg⟩ := h
  refine ⟨h0, blk_below hb hB, own_below hown hB, fun i s hs => ?_, only_trans hg (below_only hB (some B0))⟩
  obtain ⟨v0, v1, v2, a, b, c, R⟩ := hd i s hs
  exact ⟨v0, v1, v2, a, b, c, R.ext (Ext.of_below hB)⟩

theorem kids_step {W0 wr w1 w2 : World} {B0 : Nat} {op : ByteArray} {done : List Sh} {kv : Value} {xs : List Value} {s : Sh} {v0 v1 v2 : Value} {gg cap2 : Nat}
    (h : KidsRel W0 B0 op done kv xs wr) (hB : Below wr.heap.size wr w1) (hv : FRep (fun b => wr.heap.size ≤ b) w1 s v0 v1 v2)
    (hown2 : w2.ownsRow W0.heap.size 27 3 (.slice (some ⟨gg, 0, none⟩) (done.length + 1) cap2) (done.length + 1) (xs ++ [v0, v1, v2])) (hgrow : w1.grownBy w2 kv.ownBlock) (hat : kv.ownBlock = some gg ∨ gg = w1.heap.size) :
    KidsRel W0 B0 op (done ++ [s]) (.slice (some ⟨gg, 0, none⟩) (done.length + 1) cap2) (xs ++ [v0, v1, v2]) (w2.setCell ⟨B0, 2, none⟩ (.slice (some ⟨gg, 0, none⟩) (done.length + 1) cap2)) := by
  have hown0 := h.2.2.1
  have hwr := h.2.2.2.2.size
  obtain ⟨h0, hb, hown, hd, hg⟩ := kids_keep h hB
  have hn1 : some B0 ≠ kv.ownBlock := fun e => by have := (hown.lt _ e.symm).1; omega
  have hgg : W0.heap.size ≤ gg := by
    rcases hat with e | e
    · exact (hown.lt _ e).1
    · have := hg.size; omega
  have hlen : xs.length = done.length * 3 := hown.1
  have hb2 : w2.heap[B0]? = some (.cells #[.int .i64 0, .string op, kv] 27 (0, 0)) := by
    have := hg.size
    rw [hgrow.block _ (by omega) hn1]; exact hb
  have E : ∀ (A : Nat → Prop), (∀ b, A b → b ≠ B0 ∧ some b ≠ kv.ownBlock) → Ext A w1 (w2.setCell ⟨B0, 2, none⟩ (.slice (some ⟨gg, 0, none⟩) (done.length + 1) cap2)) := fun A hA =>
    (Ext.grown hgrow fun b hb => (hA b hb).2).trans (Ext.setCell _ _ _ fun hb => (hA _ hb).1 rfl)
  have hngg : ∀ b, some b ≠ kv.ownBlock → b < w1.heap.size → some b ≠ (Value.slice (some ⟨gg, 0, none⟩) (done.length + 1) cap2).ownBlock := fun b hb hbl e => by
    have : b = gg := by simpa [Value.ownBlock] using e
    rcases hat with e' | e'
    · exact hb (by rw [e', this])
    · omega
  refine ⟨h0, ?_, ?_, ?_, ?_⟩
  · simp [World.setCell, Array.getElem?_modify, hb2]
  · have := ownsRow_setCell_below hown2 (a := ⟨B0, 2, none⟩) (by simpa using h0) (.slice (some ⟨gg, 0, none⟩) (done.length + 1) cap2)
    simpa using this
  · intro i t hi
    by_cases hik : i < done.length
    · rw [List.getElem?_append_left hik] at hi
      obtain ⟨u0, u1, u2, a, b, c, R⟩ := hd i t hi
      refine ⟨u0, u1, u2, ?_, ?_, ?_, ?_⟩
      · rw [List.getElem?_append_left (by omega)]; exact a
      · rw [List.getElem?_append_left (by omega)]; exact b
      · rw [List.getElem?_append_left (by omega)]; exact c
      · exact (R.lt.ext (E _ fun b hb => ⟨by omega, hb.1.2⟩)).mono fun b hb => ⟨hb.1.1, hngg b hb.1.2 hb.2⟩
    · have hl : i = done.length := by
        have := (List.getElem?_eq_some_iff.1 hi).1
        simp at this
        omega
      subst hl
      rw [List.getElem?_append_right (Nat.le_refl _)] at hi
      simp at hi
      subst hi
      have hfar : ∀ b, wr.heap.size ≤ b → some b ≠ kv.ownBlock := fun b hb e => by have := (hown0.lt _ e.symm).2; omega
      refine ⟨v0, v1, v2, ?_, ?_, ?_, ?_⟩
      · rw [List.getElem?_append_right (by omega), hlen, Nat.sub_self]; rfl
      · rw [List.getElem?_append_right (by omega), hlen, Nat.add_sub_cancel_left]; rfl
      · rw [List.getElem?_append_right (by omega), hlen, Nat.add_sub_cancel_left]; rfl
      · exact (hv.lt.ext (E _ fun b hb => ⟨by omega, hfar b hb.1⟩)).mono fun b hb => ⟨by omega, hngg b (hfar b hb.1) hb.2⟩
  · refine ⟨hgrow.os.trans hg.os, hgrow.tape.trans hg.tape, hgrow.output.trans hg.output, by have := hg.size; have := hgrow.size; simp [World.setCell]; omega, fun k hk hne => ?_⟩
    rw [Below.heap_setCell _ _ _ _ (fun e => hne (by rw [e])), hgrow.block k (by have := hg.size; omega) (fun e => by have := (hown.lt _ e.symm).1; omega)]
    exact hg.block k hk hne

/-- When all are there. -/
theorem kids_end {W0 wr : World} {B0 : Nat} {op : ByteArray} {done : List Sh} {kv : Value} {xs : List Value} (h : KidsRel W0 B0 op done kv xs wr) (hop : op.size ≤ 4096) (hn : done.length ≤ 4096) :
    ∃ a cap, kv = .slice a done.length cap ∧ FRep (fun b => W0.heap.size ≤ b) wr (.mk 0 op done) (.int .i64 0) (.string op) (.slice a done.length cap) := by
  obtain ⟨h0, hb, hown, hd, hg⟩ := h
  have hlen : xs.length = done.length * 3 := hown.1
  have key : ∀ i s, done[i]? = some s → FRep (fun b => W0.heap.size ≤ b) wr s ((xs[i * 3]?).getD undef) ((xs[i * 3 + 1]?).getD undef) ((xs[i * 3 + 2]?).getD undef) := fun i s hs => by
    obtain ⟨v0, v1, v2, a, b, c, R⟩ := hd i s hs
    rw [a, b, c]
    exact R.mono fun b hb => hb.1
  rcases hown.2 with ⟨rfl, hz⟩ | ⟨g, cap, cur, rfl, hgb, hh, h1, h2, _⟩
  · have : done = [] := List.eq_nil_of_length_eq_zero hz
    subst this
    exact ⟨none, 0, rfl, .mk 0 op [] none 0 0 0 (fun _ => undef) hop (by simp) (by simp) (by simp) (by simp) (by simp) (by simp)⟩
  · refine ⟨some ⟨g, 0, none⟩, cap, rfl, .mk 0 op done (some ⟨g, 0, none⟩) cap g 0 (fun j => (xs[j]?).getD undef) hop hn h1 h2 (fun _ => ⟨rfl, hgb⟩) (fun j hj => ?_) key⟩
    rw [Nat.zero_add, hown.cellAt j hj]
    rw [List.getElem?_eq_getElem (by omega)]; rfl
end Go.Proofs.YtpdljglamjanmaaDoor
