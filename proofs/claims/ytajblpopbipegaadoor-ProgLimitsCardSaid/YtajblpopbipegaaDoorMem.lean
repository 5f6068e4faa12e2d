/-
  HOW PROGRAMS LIE IN MEMORY; what of them stays when memory turns.
-/
import Derived.Test.YtajblpopbipegaaDoorPure2
import Derived.Test.YtajblpopbipegaaDoorProg
import Derived.WalkKit
import Derived.Below
import Derived.Lib.Hide
import Derived.Deep.QuietTactic
import Derived.BigQuiet
import Derived.Deep.AppendLies
namespace Go.Proofs.YtajblpopbipegaaDoor
open Go.RowKit

theorem cell_lt {w : World} {p : Addr} {x : Value} (h : w.cell? p = some x) : p.block < w.heap.size := by
  rcases Nat.lt_or_ge p.block w.heap.size with hl | hl
  · exact hl
  · simp [World.cell?, Array.getElem?_eq_none hl] at h
theorem bcall {w a b : World} (h : Below w.heap.size w a) (k : Below a.heap.size a b) : Below w.heap.size w b := h.trans (k.mono h.size)
theorem bnew {w a : World} (h : Below w.heap.size w a) (o : Obj) : Below w.heap.size w (a.alloc o) := h.alloc h.size o
theorem bdrewN {B : Nat} {a w : World} (h : Below B a w) (n : Nat) : Below B a (w.drewN n) := ⟨h.os, h.tape, h.output, h.size, h.block⟩
theorem bgrow {a w : World} {B : Nat} {row : Option Nat} {w' : World} (h : Below B a w) (hg : w.grownBy w' row) (hB : B ≤ w.heap.size) (hr : ∀ j, row = some j → B ≤ j) : Below B a w' := h.grown hg hB hr
theorem keep_below {w w' : World} {p : Addr} {x : Value} (hb : Below w.heap.size w w') (h : w.cell? p = some x) : w'.cell? p = some x := by rw [hb.cell (cell_lt h)]; exact h
theorem keep_alloc {w : World} {o : Obj} {p : Addr} {x : Value} (h : w.cell? p = some x) : (w.alloc o).cell? p = some x := by rw [World.cell?_alloc_lt _ _ p (cell_lt h)]; exact h
theorem keep_grown {w w' : World} {row : Option Nat} {p : Addr} {x : Value} (hg : w.grownBy w' row) (hne : some p.block ≠ row) (h : w.cell? p = some x) : w'.cell? p = some x := by rw [hg.cell_far p (cell_lt h) hne]; exact h

/-- Every cell that is there stays as it is. -/
def Ext (w w' : World) : Prop := ∀ p x, w.cell? p = some x → w'.cell? p = some x
theorem Ext.refl (w : World) : Ext w w := fun _ _ h => h
theorem Ext.trans {a b c : World} (h : Ext a b) (k : Ext b c) : Ext a c := fun p x hx => k p x (h p x hx)
theorem Ext.of_below {w w' : World} (h : Below w.heap.size w w') : Ext w w' := fun _ _ hx => keep_below h hx
theorem Ext.alloc (w : World) (o : Obj) : Ext w (w.alloc o) := fun _ _ hx => keep_alloc hx

/-- Cases. -/
def CRep (w : World) (cs : List Cs) (v : Value) : Prop :=
  ∃ (a : Option Addr) (cap b off : Nat), v = .slice a cs.length cap ∧ cs.length ≤ cap ∧ cap ≤ maxLen ∧ (0 < cs.length → a = some ⟨b, off, none⟩) ∧
    ∀ j c, cs[j]? = some c → w.cell? ⟨b, off + j * 3, none⟩ = some (.bool c.send) ∧ w.cell? ⟨b, off + j * 3 + 1, none⟩ = some (.int .i64 c.ch) ∧ w.cell? ⟨b, off + j * 3 + 2, none⟩ = some (.int .i64 c.val)
theorem CRep.ext {w w' : World} {cs : List Cs} {v : Value} (h : CRep w cs v) (e : Ext w w') : CRep w' cs v := by
  obtain ⟨a, cap, b, off, h1, h2, h3, h4, h5⟩ := h
  exact ⟨a, cap, b, off, h1, h2, h3, h4, fun j c hj => by obtain ⟨x, y, z⟩ := h5 j c hj; exact ⟨e _ _ x, e _ _ y, e _ _ z⟩⟩
/-- An instruction's six cells; its cases' slice is v. -/
def encI (i : Ins) (v : Value) : List Value := [.int .i64 i.op, .int .i64 i.a, .int .i64 i.b, .int .i64 i.c, v, .bool i.dflt]
/-- A program. -/
def LRep (w : World) (l : List Ins) (v : Value) : Prop :=
  ∃ (a : Option Addr) (cap b off : Nat) (vs : Nat → Value), v = .slice a l.length cap ∧ l.length ≤ cap ∧ cap ≤ maxLen ∧ (0 < l.length → a = some ⟨b, off, none⟩) ∧
    ∀ j i, l[j]? = some i → CRep w i.cases (vs j) ∧ w.cell? ⟨b, off + j * 6, none⟩ = some (.int .i64 i.op) ∧ w.cell? ⟨b, off + j * 6 + 1, none⟩ = some (.int .i64 i.a) ∧ w.cell? ⟨b, off + j * 6 + 2, none⟩ = some (.int .i64 i.b) ∧ w.cell? ⟨b, off + j * 6 + 3, none⟩ = some (.int .i64 i.c) ∧ w.cell? ⟨b, off + j * 6 + 4, none⟩ = some (vs j) ∧ w.cell? ⟨b, off + j * 6 + 5, none⟩ = some (.bool i.dflt)
theorem LRep.ext {w w' : World} {l : List Ins} {v : Value} (h : LRep w l v) (e : Ext w w') : LRep w' l v := by
  obtain ⟨a, cap, b, off, vs, h1, h2, h3, h4, h5⟩ := h
  exact ⟨a, cap, b, off, vs, h1, h2, h3, h4, fun j i hj => by
    obtain ⟨x, y0, y1, y2, y3, y4, y5⟩ := h5 j i hj
    exact ⟨x.ext e, e _ _ y0, e _ _ y1, e _ _ y2, e _ _ y3, e _ _ y4, e _ _ y5⟩⟩
/-- Programs. -/
def PRep (w : World) (ls : List (List Ins)) (v : Value) : Prop :=
  ∃ (a : Option Addr) (cap b off : Nat) (vs : Nat → Value), v = .slice a ls.length cap ∧ ls.length ≤ cap ∧ cap ≤ maxLen ∧ (0 < ls.length → a = some ⟨b, off, none⟩) ∧
    ∀ j l, ls[j]? = some l → LRep w l (vs j) ∧ w.cell? ⟨b, off + j, none⟩ = some (vs j)
theorem PRep.ext {w w' : World} {ls : List (List Ins)} {v : Value} (h : PRep w ls v) (e : Ext w w') : PRep w' ls v := by
  obtain ⟨a, cap, b, off, vs, h1, h2, h3, h4, h5⟩ := h
  exact ⟨a, cap, b, off, vs, h1, h2, h3, h4, fun j l hj => by
    obtain ⟨x, y⟩ := h5 j l hj
    exact ⟨x.ext e, e _ _ y⟩⟩
theorem CRep.form {w : World} {cs : List Cs} {v : Value} (h : CRep w cs v) : ∃ a cap, v = .slice a cs.length cap := by
  obtain ⟨a, cap, b, off, h1, _⟩ := h
  exact ⟨a, cap, h1⟩
theorem LRep.form {w : World} {l : List Ins} {v : Value} (h : LRep w l v) : ∃ a cap, v = .slice a l.length cap ∧ l.length ≤ cap ∧ cap ≤ maxLen := by
  obtain ⟨a, cap, b, off, vs, h1, h2, h3, _⟩ := h
  exact ⟨a, cap, h1, h2, h3⟩

/-! The small ones. -/
theorem reg_any (n : Int) (w : World) : Calls Tryd.prog 37 #[.int .i64 n] w fun e w' => e = .returned (.bool (regB n)) ∧ w = w' := by
  by_cases h : 0 ≤ n
  · by_cases h2 : n < 8
    · have e : regB n = true := by simp [regB, h, h2]
      rw [e]
      clear e
      go_enter Tryd.func37, Tryd.ntmps37
      go_wp2_with fail
      go_ret
      exact ⟨rfl, rfl⟩
    · have e : regB n = false := by simp [regB, h2]
      rw [e]
      clear e
      go_enter Tryd.func37, Tryd.ntmps37
      go_wp2_with fail
      go_ret
      exact ⟨rfl, rfl⟩
  · have e : regB n = false := by simp [regB, h]
    rw [e]
    clear e
    go_enter Tryd.func37, Tryd.ntmps37
    go_wp2_with fail
    go_ret
    exact ⟨rfl, rfl⟩
theorem rreg_any (n : Int) (w : World) : Calls Tryd.prog 38 #[.int .i64 n] w fun e w' => e = .returned (.bool (regB n)) ∧ w = w' := by
  by_cases h : 0 ≤ n
  · by_cases h2 : n < 8
    · have e : regB n = true := by simp [regB, h, h2]
      rw [e]
      clear e
      go_enter Tryd.func38, Tryd.ntmps38
      go_wp2_with fail
      go_ret
      exact ⟨rfl, rfl⟩
    · have e : regB n = false := by simp [regB, h2]
      rw [e]
      clear e
      go_enter Tryd.func38, Tryd.ntmps38
      go_wp2_with fail
      go_ret
      exact ⟨rfl, rfl⟩
  · have e : regB n = false := by simp [regB, h]
    rw [e]
    clear e
    go_enter Tryd.func38, Tryd.ntmps38
    go_wp2_with fail
    go_ret
    exact ⟨rfl, rfl⟩
end Go.Proofs.YtajblpopbipegaaDoor
