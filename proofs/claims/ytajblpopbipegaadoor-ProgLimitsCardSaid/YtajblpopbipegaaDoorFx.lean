/-
  TWO ARRAYS THAT ARE MADE IN ONE STATEMENT, IN WHATEVER ORDER.
-/
import Derived.Test.YtajblpopbipegaaDoorForm
namespace Go.Proofs.YtajblpopbipegaaDoor
open Go.RowKit

def triI (a b c : Int) (k : Nat) : Int := if k = 0 then a else if k = 1 then b else c
/-- Behind the statement: the forms lie in block g, the fields in block h. -/
structure FX (wB wx : World) (g h : Nat) (f0 f1 f2 a b c : Int) : Prop where
  cf : ∀ k, k < 3 → wx.cell? ⟨g, k, none⟩ = some (.int .i64 (triI f0 f1 f2 k))
  cx : ∀ k, k < 3 → wx.cell? ⟨h, k, none⟩ = some (.int .i64 (triI a b c k))
  below : Below wB.heap.size wB wx
  gl : wB.heap.size ≤ g
  hl : wB.heap.size ≤ h
theorem FX.drew {wB wx : World} {g h : Nat} {f0 f1 f2 a b c : Int} (F : FX wB wx g h f0 f1 f2 a b c) : FX wB wx.drew g h f0 f1 f2 a b c := ⟨F.cf, F.cx, F.below.drew, F.gl, F.hl⟩
theorem tri_cells {w : World} {g : Nat} {x0 x1 x2 : Int} {t : TypeId} {fr : Nat × Nat} (h : w.heap[g]? = some (.cells #[.int .i64 x0, .int .i64 x1, .int .i64 x2] t fr)) (k : Nat) (hk : k < 3) : w.cell? ⟨g, k, none⟩ = some (.int .i64 (triI x0 x1 x2 k)) := by
  refine (cell_of_row w g k _ _ _ h).trans ?_
  match k, hk with
  | 0, _ => rfl
  | 1, _ => rfl
  | 2, _ => rfl
theorem three_blocks (wB : World) (A B C : Obj) (n : Nat) (hs : wB.heap.size = n) : (((wB.alloc A).alloc B).alloc C).heap[n]? = some A ∧ (((wB.alloc A).alloc B).alloc C).heap[n + 1]? = some B ∧ (((wB.alloc A).alloc B).alloc C).heap[n + 2]? = some C := by
  subst hs
  have s1 : (wB.alloc A).heap.size = wB.heap.size + 1 := by simp
  have s2 : ((wB.alloc A).alloc B).heap.size = wB.heap.size + 2 := by simp
  have b1 := heap_alloc_new wB A
  have b2 := heap_alloc_new (wB.alloc A) B
  have b3 := heap_alloc_new ((wB.alloc A).alloc B) C
  rw [s1] at b2
  rw [s2] at b3
  refine ⟨?_, ?_, b3⟩
  · rw [heap_alloc_old _ _ (by omega), heap_alloc_old _ _ (by omega)]; exact b1
  · rw [heap_alloc_old _ _ (by omega)]; exact b2
theorem three_below (wB : World) (A B C : Obj) : Below wB.heap.size wB (((wB.alloc A).alloc B).alloc C) := bnew (bnew (bnew (Below.refl _ _) _) _) _
theorem fx_12 (wB : World) (n : Nat) (hs : wB.heap.size = n) (f0 f1 f2 a b c : Int) : FX wB (((wB.alloc (.cells #[.int .i64 f0, .int .i64 f1, .int .i64 f2] 51)).alloc (.cells #[.int .i64 a, .int .i64 b, .int .i64 c] 51)).alloc (.cells #[.int .i64 f0, .int .i64 f1, .int .i64 f2] 51)) (n) (n + 1) f0 f1 f2 a b c :=
  have T := three_blocks wB _ _ _ n hs
  ⟨tri_cells T.1, tri_cells T.2.1, three_below wB _ _ _, by omega, by omega⟩
theorem fx_13 (wB : World) (n : Nat) (hs : wB.heap.size = n) (f0 f1 f2 a b c : Int) : FX wB (((wB.alloc (.cells #[.int .i64 f0, .int .i64 f1, .int .i64 f2] 51)).alloc (.cells #[.int .i64 f0, .int .i64 f1, .int .i64 f2] 51)).alloc (.cells #[.int .i64 a, .int .i64 b, .int .i64 c] 51)) (n) (n + 2) f0 f1 f2 a b c :=
  have T := three_blocks wB _ _ _ n hs
  ⟨tri_cells T.1, tri_cells T.2.2, three_below wB _ _ _, by omega, by omega⟩
theorem fx_21 (wB : World) (n : Nat) (hs : wB.heap.size = n) (f0 f1 f2 a b c : Int) : FX wB (((wB.alloc (.cells #[.int .i64 a, .int .i64 b, .int .i64 c] 51)).alloc (.cells #[.int .i64 f0, .int .i64 f1, .int .i64 f2] 51)).alloc (.cells #[.int .i64 f0, .int .i64 f1, .int .i64 f2] 51)) (n + 1) (n) f0 f1 f2 a b c :=
  have T := three_blocks wB _ _ _ n hs
  ⟨tri_cells T.2.1, tri_cells T.1, three_below wB _ _ _, by omega, by omega⟩
theorem fx_23 (wB : World) (n : Nat) (hs : wB.heap.size = n) (f0 f1 f2 a b c : Int) : FX wB (((wB.alloc (.cells #[.int .i64 f0, .int .i64 f1, .int .i64 f2] 51)).alloc (.cells #[.int .i64 f0, .int .i64 f1, .int .i64 f2] 51)).alloc (.cells #[.int .i64 a, .int .i64 b, .int .i64 c] 51)) (n + 1) (n + 2) f0 f1 f2 a b c :=
  have T := three_blocks wB _ _ _ n hs
  ⟨tri_cells T.2.1, tri_cells T.2.2, three_below wB _ _ _, by omega, by omega⟩
theorem fx_31 (wB : World) (n : Nat) (hs : wB.heap.size = n) (f0 f1 f2 a b c : Int) : FX wB (((wB.alloc (.cells #[.int .i64 a, .int .i64 b, .int .i64 c] 51)).alloc (.cells #[.int .i64 f0, .int .i64 f1, .int .i64 f2] 51)).alloc (.cells #[.int .i64 f0, .int .i64 f1, .int .i64 f2] 51)) (n + 2) (n) f0 f1 f2 a b c :=
  have T := three_blocks wB _ _ _ n hs
  ⟨tri_cells T.2.2, tri_cells T.1, three_below wB _ _ _, by omega, by omega⟩
theorem fx_32 (wB : World) (n : Nat) (hs : wB.heap.size = n) (f0 f1 f2 a b c : Int) : FX wB (((wB.alloc (.cells #[.int .i64 f0, .int .i64 f1, .int .i64 f2] 51)).alloc (.cells #[.int .i64 a, .int .i64 b, .int .i64 c] 51)).alloc (.cells #[.int .i64 f0, .int .i64 f1, .int .i64 f2] 51)) (n + 2) (n + 1) f0 f1 f2 a b c :=
  have T := three_blocks wB _ _ _ n hs
  ⟨tri_cells T.2.2, tri_cells T.2.1, three_below wB _ _ _, by omega, by omega⟩
end Go.Proofs.YtajblpopbipegaaDoor
