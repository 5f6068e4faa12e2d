/-
  A PROGRAM IN THE MAKING: a row of instructions that a call has made.
-/
import Derived.Test.YtajblpopbipegaaDoorAwake
namespace Go.Proofs.YtajblpopbipegaaDoor
open Go.RowKit Go.Lib

theorem info36 : ((Tryd.prog.info? 36).map (fun i => (i.zero, i.size, i.bytes))).isSome = true := by kernel_rfl
def flat6 (zs : List (Ins × Value)) : List Value := zs.flatMap fun x => encI x.1 x.2
theorem flat6_len (zs : List (Ins × Value)) : (flat6 zs).length = zs.length * 6 := by
  induction zs with
  | nil => rfl
  | cons x zs ih =>
    unfold flat6 at ih ⊢
    rw [List.flatMap_cons, List.length_append, ih]
    simp [encI]
    omega
theorem flat6_at (zs : List (Ins × Value)) (j i : Nat) (x : Ins × Value) (hi : i < 6) (hj : zs[j]? = some x) : (flat6 zs)[j * 6 + i]? = (encI x.1 x.2)[i]? := by
  induction zs generalizing j with
  | nil => simp at hj
  | cons y zs ih =>
    unfold flat6 at ih ⊢
    rw [List.flatMap_cons]
    cases j with
    | zero =>
      simp at hj
      subst hj
      rw [List.getElem?_append_left (by simp [encI]; omega)]
      simp
    | succ j =>
      simp at hj
      rw [List.getElem?_append_right (by simp [encI]; omega)]
      rw [← ih j hj]
      congr 1
      simp [encI]
      omega
theorem flat6_set (zs : List (Ins × Value)) (j i : Nat) (x : Ins × Value) (v : Value) (y : Ins × Value) (hi : i < 6) (hj : zs[j]? = some x) (hy : (encI x.1 x.2).set i v = encI y.1 y.2) : (flat6 zs).set (j * 6 + i) v = flat6 (zs.set j y) := by
  induction zs generalizing j with
  | nil => simp at hj
  | cons z zs ih =>
    unfold flat6 at ih ⊢
    cases j with
    | zero =>
      simp at hj
      subst hj
      rw [List.flatMap_cons, List.set_append_left _ _ (by simp [encI]; omega)]
      simp [hy]
    | succ j =>
      simp at hj
      rw [List.flatMap_cons, List.set_append_right _ _ (by simp [encI]; omega)]
      rw [List.set_cons_succ, List.flatMap_cons, ← ih j hj]
      congr 2
      simp [encI]
      omega
/-- A row that a call owns, as a program. -/
theorem own_lrep {w : World} {base : Nat} {v : Value} {zs : List (Ins × Value)} (h : w.ownsRow base 36 6 v zs.length (flat6 zs)) (hc : ∀ x ∈ zs, CRep w x.1.cases x.2) : LRep w (zs.map (·.1)) v := by
  rcases h.2 with ⟨rfl, h0⟩ | ⟨g, cap, cur, rfl, _, hb, hn, hm, hs, ht⟩
  · have : zs = [] := by
      cases zs with
      | nil => rfl
      | cons x zs => simp at h0
    subst this
    exact lrep0 w
  · refine ⟨some ⟨g, 0, none⟩, cap, g, 0, fun j => (zs.getD j (default, .nilIface)).2, by simp, by simpa using hn, hm, fun _ => rfl, fun j i hj => ?_⟩
    rw [List.getElem?_map] at hj
    cases hx : zs[j]? with
    | none => rw [hx] at hj; cases hj
    | some x =>
      rw [hx] at hj
      simp at hj
      subst hj
      have hjl : j < zs.length := (List.getElem?_eq_some_iff.1 hx).1
      have hl := flat6_len zs
      have cell : ∀ i u, i < 6 → (encI x.1 x.2)[i]? = some u → w.cell? ⟨g, 0 + j * 6 + i, none⟩ = some u := fun i u hi hu => by
        rw [Nat.zero_add]
        refine (cell_of_row w g _ _ _ _ hb).trans ?_
        have h1 := flat6_at zs j i x hi hx
        rw [hu, ← ht, List.getElem?_take, if_pos (by omega)] at h1
        simpa using h1
      simp only [List.getD_eq_getElem?_getD, hx, Option.getD_some]
      exact ⟨hc x (List.mem_of_getElem? hx), by simpa using cell 0 _ (by omega) rfl, cell 1 _ (by omega) rfl, cell 2 _ (by omega) rfl, cell 3 _ (by omega) rfl, cell 4 _ (by omega) rfl, cell 5 _ (by omega) rfl⟩
end Go.Proofs.YtajblpopbipegaaDoor
