/-
  HOW A SHAPE AND AN ERROR LIE IN MEMORY; what of it stays when memory turns.
-/
import Derived.Test.YtpdljglamjanmaaDoorPure
import Derived.Test.YtpdljglamjanmaaDoorProg
import Derived.WalkKit
import Derived.Below
import Derived.Lib.Hide
import Derived.Deep.QuietTactic
import Derived.BigQuiet
import Derived.Deep.AppendLies
namespace Go.Proofs.YtpdljglamjanmaaDoor
open Go.RowKit

/-- Three cells that read as a shape; all that is read lies in blocks of A. -/
inductive FRep (A : Nat → Prop) (w : World) : Sh → Value → Value → Value → Prop
  | mk (c : Int) (op : ByteArray) (ks : List Sh) (a : Option Addr) (cap b off : Nat) (cs : Nat → Value)
      (hop : op.size ≤ 4096) (hks : ks.length ≤ 4096) (hcap : ks.length ≤ cap) (hcm : cap ≤ maxLen)
      (ha : 0 < ks.length → a = some ⟨b, off, none⟩ ∧ A b)
      (hc : ∀ j, j < ks.length * 3 → w.cell? ⟨b, off + j, none⟩ = some (cs j))
      (hr : ∀ i s, ks[i]? = some s → FRep A w s (cs (i * 3)) (cs (i * 3 + 1)) (cs (i * 3 + 2))) :
      FRep A w (.mk c op ks) (.int .i64 c) (.string op) (.slice a ks.length cap)

/-- A value that is an error of that shape. -/
inductive ERep (A : Nat → Prop) (w : World) : Sh → Value → Prop
  | code (n : Int) : ERep A w (.mk n ⟨#[]⟩ []) (.iface 40 (.agg #[.int .i64 n]))
  | wrap (op : ByteArray) (ks : List Sh) (b kb koff cap : Nat) (vs : Nat → Value)
      (hop : op.size ≤ 4096) (hks : ks.length ≤ 4096) (hpos : 0 < ks.length) (hcap : ks.length ≤ cap) (hcm : cap ≤ maxLen)
      (hA : A b) (hA' : A kb)
      (c0 : w.cell? ⟨b, 0, none⟩ = some (.string op)) (c1 : w.cell? ⟨b, 1, none⟩ = some (.slice (some ⟨kb, koff, none⟩) ks.length cap))
      (hc : ∀ i, i < ks.length → w.cell? ⟨kb, koff + i, none⟩ = some (vs i))
      (hr : ∀ i s, ks[i]? = some s → ERep A w s (vs i)) :
      ERep A w (.mk 0 op ks) (.iface 66 (.pointer (some ⟨b, 0, none⟩)))

/-- Every cell of a block of A that is there stays as it is. -/
def Ext (A : Nat → Prop) (w w' : World) : Prop := ∀ p x, A p.block → w.cell? p = some x → w'.cell? p = some x

theorem Ext.refl (A : Nat → Prop) (w : World) : Ext A w w := fun _ _ _ h => h
theorem Ext.trans {A : Nat → Prop} {a b c : World} (h : Ext A a b) (k : Ext A b c) : Ext A a c := fun p x hA hx => k p x hA (h p x hA hx)
theorem cell_lt {w : World} {p : Addr} {x : Value} (h : w.cell? p = some x) : p.block < w.heap.size := by
  rcases Nat.lt_or_ge p.block w.heap.size with hl | hl
  · exact hl
  · simp [World.cell?, Array.getElem?_eq_none hl] at h
theorem Ext.of_below {A : Nat → Prop} {w w' : World} (h : Below w.heap.size w w') : Ext A w w' := fun p x _ hx => by
  rw [h.cell (cell_lt hx)]; exact hx
theorem Ext.alloc {A : Nat → Prop} (w : World) (o : Obj) : Ext A w (w.alloc o) := fun p x _ hx => by
  rw [World.cell?_alloc_lt _ _ p (cell_lt hx)]; exact hx
theorem Ext.drewN {A : Nat → Prop} {a w : World} (h : Ext A a w) (n : Nat) : Ext A a (w.drewN n) := h
theorem Ext.drew {A : Nat → Prop} {a w : World} (h : Ext A a w) : Ext A a w.drew := h
theorem Ext.grown {A : Nat → Prop} {w w' : World} {row : Option Nat} (h : w.grownBy w' row) (hA : ∀ b, A b → some b ≠ row) : Ext A w w' := fun p x ha hx => by
  rw [h.cell_far p (cell_lt hx) (hA _ ha)]; exact hx
theorem Ext.setCell {A : Nat → Prop} (w : World) (p : Addr) (u : Value) (hA : ¬ A p.block) : Ext A w (w.setCell p u) := fun q x ha hx => by
  rw [World.cell?_setCell_other w p q u (fun e => by subst e; exact hA ha)]; exact hx
theorem bcall {w a b : World} (h : Below w.heap.size w a) (k : Below a.heap.size a b) : Below w.heap.size w b := h.trans (k.mono h.size)
theorem bnew {w a : World} (h : Below w.heap.size w a) (o : Obj) : Below w.heap.size w (a.alloc o) := h.alloc h.size o
theorem bdrewN {B : Nat} {a w : World} (h : Below B a w) (n : Nat) : Below B a (w.drewN n) := ⟨h.os, h.tape, h.output, h.size, h.block⟩

theorem keep_below {w w' : World} {p : Addr} {x : Value} (hb : Below w.heap.size w w') (h : w.cell? p = some x) : w'.cell? p = some x := by rw [hb.cell (cell_lt h)]; exact h
theorem keep_alloc {w : World} {o : Obj} {p : Addr} {x : Value} (h : w.cell? p = some x) : (w.alloc o).cell? p = some x := by rw [World.cell?_alloc_lt _ _ p (cell_lt h)]; exact h
theorem keep_grown {w w' : World} {row : Option Nat} {p : Addr} {x : Value} (hg : w.grownBy w' row) (hne : some p.block ≠ row) (h : w.cell? p = some x) : w'.cell? p = some x := by rw [hg.cell_far p (cell_lt h) hne]; exact h
/-- A box of three cells, behind a call. -/
theorem box3 {w w1 : World} {a b c : Value} {t : TypeId} (hB : Below (w.alloc (.cells #[a, b, c] t)).heap.size (w.alloc (.cells #[a, b, c] t)) w1) :
    w1.cell? ⟨w.heap.size, 0, none⟩ = some a ∧ w1.cell? ⟨w.heap.size, 1, none⟩ = some b ∧ w1.cell? ⟨w.heap.size, 2, none⟩ = some c :=
  ⟨keep_below hB (by simp), keep_below hB (by simp), keep_below hB (by simp)⟩
theorem below_set2 {B : Nat} {a b : World} (h : Below B a b) (t : Addr) (x : Value) : Below B (a.setCell t x) (b.setCell t x) :=
  ⟨h.os, h.tape, h.output, by simpa [World.setCell] using h.size, fun k hk => by
    simp only [World.setCell, Array.getElem?_modify]
    rw [h.block k hk]⟩
theorem own_below {w w' : World} {base size n : Nat} {e : TypeId} {v : Value} {xs : List Value} (h : w.ownsRow base e size v n xs) (hb : Below w.heap.size w w') : w'.ownsRow base e size v n xs :=
  h.kept (row := none) ⟨hb.os, hb.tape, hb.output, hb.size, fun k hk _ => hb.block k hk⟩ (by cases v.ownBlock <;> simp)
theorem blk_below {w w' : World} {g : Nat} {o : Obj} (h : w.heap[g]? = some o) (hb : Below w.heap.size w w') : w'.heap[g]? = some o := by
  rw [hb.block g (by
    rcases Nat.lt_or_ge g w.heap.size with hl | hl
    · exact hl
    · rw [Array.getElem?_eq_none hl] at h; cases h)]; exact h

theorem FRep.ext {A : Nat → Prop} {w w' : World} {s : Sh} {x y z : Value} (h : FRep A w s x y z) (e : Ext A w w') : FRep A w' s x y z := by
  induction h with
  | mk c op ks a cap b off cs hop hks hcap hcm ha hc hr ih =>
    exact .mk c op ks a cap b off cs hop hks hcap hcm ha (fun j hj => e _ _ (ha (by omega)).2 (hc j hj)) (fun i s hs => ih i s hs)
theorem FRep.lt {A : Nat → Prop} {w : World} {s : Sh} {x y z : Value} (h : FRep A w s x y z) : FRep (fun b => A b ∧ b < w.heap.size) w s x y z := by
  induction h with
  | mk c op ks a cap b off cs hop hks hcap hcm ha hc hr ih =>
    exact .mk c op ks a cap b off cs hop hks hcap hcm (fun h => ⟨(ha h).1, (ha h).2, cell_lt (hc 0 (by omega))⟩) hc (fun i s hs => ih i s hs)
theorem FRep.mono {A A' : Nat → Prop} {w : World} {s : Sh} {x y z : Value} (h : FRep A w s x y z) (e : ∀ b, A b → A' b) : FRep A' w s x y z := by
  induction h with
  | mk c op ks a cap b off cs hop hks hcap hcm ha hc hr ih =>
    exact .mk c op ks a cap b off cs hop hks hcap hcm (fun h => ⟨(ha h).1, e _ (ha h).2⟩) hc (fun i s hs => ih i s hs)

theorem ERep.ext {A : Nat → Prop} {w w' : World} {s : Sh} {x : Value} (h : ERep A w s x) (e : Ext A w w') : ERep A w' s x := by
  induction h with
  | code n => exact .code n
  | wrap op ks b kb koff cap vs hop hks hpos hcap hcm hA hA' c0 c1 hc hr ih =>
    exact .wrap op ks b kb koff cap vs hop hks hpos hcap hcm hA hA' (e _ _ hA c0) (e _ _ hA c1) (fun j hj => e _ _ hA' (hc j hj)) (fun i s hs => ih i s hs)
theorem ERep.lt {A : Nat → Prop} {w : World} {s : Sh} {x : Value} (h : ERep A w s x) : ERep (fun b => A b ∧ b < w.heap.size) w s x := by
  induction h with
  | code n => exact .code n
  | wrap op ks b kb koff cap vs hop hks hpos hcap hcm hA hA' c0 c1 hc hr ih =>
    exact .wrap op ks b kb koff cap vs hop hks hpos hcap hcm ⟨hA, cell_lt c0⟩ ⟨hA', cell_lt (hc 0 hpos)⟩ c0 c1 hc (fun i s hs => ih i s hs)
theorem ERep.mono {A A' : Nat → Prop} {w : World} {s : Sh} {x : Value} (h : ERep A w s x) (e : ∀ b, A b → A' b) : ERep A' w s x := by
  induction h with
  | code n => exact .code n
  | wrap op ks b kb koff cap vs hop hks hpos hcap hcm hA hA' c0 c1 hc hr ih =>
    exact .wrap op ks b kb koff cap vs hop hks hpos hcap hcm (e _ hA) (e _ hA') c0 c1 hc (fun i s hs => ih i s hs)

/-- The three cells' forms. -/
theorem FRep.form {A : Nat → Prop} {w : World} {s : Sh} {x y z : Value} (h : FRep A w s x y z) :
    ∃ (a : Option Addr) (cap : Nat), x = .int .i64 s.code ∧ y = .string s.op ∧ z = .slice a s.kids.length cap := by
  cases h with
  | mk c op ks a cap b off cs hop hks hcap hcm ha hc hr => exact ⟨a, cap, rfl, rfl, rfl⟩
/-- An error is an interface value that holds something. -/
theorem ERep.form {A : Nat → Prop} {w : World} {s : Sh} {x : Value} (h : ERep A w s x) : ∃ t u, x = .iface t u := by
  cases h with
  | code n => exact ⟨_, _, rfl⟩
  | wrap op ks b kb koff cap vs hop hks hpos hcap hcm hA hA' c0 c1 hc hr => exact ⟨_, _, rfl⟩

/-- The k-th of a row of shapes: its three cells, in the walk's own spelling. -/
theorem three_cells {w : World} {b off n : Nat} {cs : Nat → Value} (hc : ∀ j, j < n * 3 → w.cell? ⟨b, off + j, none⟩ = some (cs j)) {k : Nat} (hk : k < n) :
    w.cell? ⟨b, off + k * 3, none⟩ = some (cs (k * 3)) ∧ w.cell? ⟨b, off + k * 3 + 1, none⟩ = some (cs (k * 3 + 1)) ∧ w.cell? ⟨b, off + k * 3 + 2, none⟩ = some (cs (k * 3 + 2)) :=
  ⟨hc _ (by omega), by rw [Nat.add_assoc]; exact hc _ (by omega), by rw [Nat.add_assoc]; exact hc _ (by omega)⟩

/-- The k-th kid of a row of shapes, its cells written out, in a later world. -/
theorem kid_cells {A : Nat → Prop} {w wr : World} {b off : Nat} {cs : Nat → Value} {ks : List Sh} (hc : ∀ j, j < ks.length * 3 → w.cell? ⟨b, off + j, none⟩ = some (cs j))
    (hr : ∀ i s, ks[i]? = some s → FRep A w s (cs (i * 3)) (cs (i * 3 + 1)) (cs (i * 3 + 2))) (hA : A b) (E : Ext A w wr) {k : Nat} (hk : k < ks.length) :
    ∃ (s : Sh) (a : Option Addr) (cap : Nat), ks[k]? = some s ∧ wr.cell? ⟨b, off + k * 3, none⟩ = some (.int .i64 s.code) ∧ wr.cell? ⟨b, off + k * 3 + 1, none⟩ = some (.string s.op) ∧
      wr.cell? ⟨b, off + k * 3 + 2, none⟩ = some (.slice a s.kids.length cap) ∧ FRep A wr s (.int .i64 s.code) (.string s.op) (.slice a s.kids.length cap) := by
  have R := hr k ks[k] (List.getElem?_eq_getElem hk)
  obtain ⟨a, cap, e0, e1, e2⟩ := R.form
  obtain ⟨c0, c1, c2⟩ := three_cells hc hk
  rw [e0, e1, e2] at R
  rw [e0] at c0
  rw [e1] at c1
  rw [e2] at c2
  exact ⟨_, a, cap, List.getElem?_eq_getElem hk, E _ _ hA c0, E _ _ hA c1, E _ _ hA c2, R.ext E⟩

end Go.Proofs.YtpdljglamjanmaaDoor
