/-
  fault.Shape OF WHAT WAS NOT MADE HERE; fault.Find, fault.Wrap, fault.Join, AS FUNCTIONS ON SHAPES.
-/
import Derived.Test.YtpdljglamjanmaaDoorShape
import Derived.Test.YtpdljglamjanmaaDoorBuild
namespace Go.Proofs.YtpdljglamjanmaaDoor
open Go.RowKit Go.Extern.Stop Go.Stop Go.Extern

/-- nil, or what is made here. -/
def ORep (A : Nat → Prop) (w : World) (o : Option Sh) (v : Value) : Prop :=
  match o with
  | none => v = .nilIface
  | some s => Good s ∧ ERep A w s v

/-- What a call that makes an error, or nil, comes to. -/
def OPost (W : World) (o : Option Sh) (e : Ending) (w' : World) : Prop := ∃ v, e = .returned v ∧ ORep (fun b => W.heap.size ≤ b) w' o v ∧ Below W.heap.size W w'

theorem ORep.ext {A : Nat → Prop} {w w' : World} {o : Option Sh} {v : Value} (h : ORep A w o v) (e : Ext A w w') : ORep A w' o v := by
  cases o with
  | none => exact h
  | some s => exact ⟨h.1, h.2.ext e⟩
theorem ORep.mono {A A' : Nat → Prop} {w : World} {o : Option Sh} {v : Value} (h : ORep A w o v) (e : ∀ b, A b → A' b) : ORep A' w o v := by
  cases o with
  | none => exact h
  | some s => exact ⟨h.1, h.2.mono e⟩
theorem ORep.one {A : Nat → Prop} {w : World} {o : Option Sh} {v : Value} (h : ORep A w o v) : v.oneCell' = true := by
  cases o with
  | none => rw [show v = .nilIface from h]; rfl
  | some s => obtain ⟨t, u, rfl⟩ := h.2.form; rfl

/-- Make, on shapes. -/
def makeO (s : Sh) : Option Sh := if (sizeP 20 s).2.2 then some s else none

theorem make_any (A : Nat → Prop) (s : Sh) (v0 v1 v2 : Value) (w : World) (h : FRep A w s v0 v1 v2) : Calls Tryd.prog 12 #[.agg #[v0, v1, v2]] w (OPost w (makeO s)) := by
  cases hs : (sizeP 20 s).2.2
  · refine (make_no A s v0 v1 v2 w h hs).mono ?_
    rintro e w' ⟨rfl, hb⟩
    exact ⟨_, rfl, by simp [makeO, hs, ORep], hb⟩
  · refine (make_yes A s v0 v1 v2 w h hs).mono ?_
    rintro e w' ⟨v, rfl, hv, hb⟩
    refine ⟨v, rfl, ?_, hb⟩
    simp only [makeO, hs, if_true]
    exact ⟨good_of_size _ _ hs, hv⟩

set_option maxHeartbeats 1000000 in
theorem shape_nil (w : World) : Calls Tryd.prog 15 #[.nilIface] w fun e w' => e = .returned (.tuple #[.agg #[.int .i64 0, .string ⟨#[]⟩, .slice none 0 0], .bool false]) ∧ Below w.heap.size w w' := by
  have N := As_nil
  go_enter Tryd.func15, Tryd.ntmps15
  go_wp2_with (go_at_call 37; refine (N _ _).mono ?_; rintro e w1 ⟨rfl, rfl⟩)
  refine bodyPost_ret (v := .tuple #[.agg #[.int .i64 0, .string ⟨#[]⟩, .slice none 0 0], .bool false]) ?_ rfl ?_
  · simp [results, Tryd.f15, go_sem]
  · refine ⟨rfl, ?_⟩
    exact bnew (bnew (bnew (Below.refl _ w) _) _) _

set_option maxHeartbeats 1000000 in
theorem shape_str (p : Value) (w : World) (hT : ErrT w) : Calls Tryd.prog 15 #[.iface 71 p] w fun e w' => e = .returned (.tuple #[.agg #[.int .i64 0, .string ⟨#[]⟩, .slice none 0 0], .bool false]) ∧ Below w.heap.size w w' := by
  have C := Lib.hid (As_code_str p ⟨w.heap.size + 1, 0, none⟩ ((w.alloc (.cells #[.int .i64 0, .string ⟨#[]⟩, .slice none 0 0] 27)).alloc (.cells #[.int .i64 0] 40)) (keep_alloc (keep_alloc hT)))
  have HT := Lib.hid hT
  clear hT
  go_enter Tryd.func15, Tryd.ntmps15
  go_wp2_with fail
  refine C.out.mono ?_
  rintro e w1 ⟨rfl, hB⟩
  have hb := bcall (bnew (bnew (Below.refl _ w) _) _) hB
  have C2 := Lib.hid (As_wrap_str p ⟨w1.heap.size, 0, none⟩ (w1.alloc (.cells #[.pointer none] 66)) (keep_alloc (keep_below hb HT.out)))
  go_wp2_with fail
  refine C2.out.mono ?_
  rintro e w2 ⟨rfl, hB2⟩
  have y0 : w2.cell? ⟨w.heap.size, 0, none⟩ = some (.int .i64 0) := keep_below hB2 (keep_alloc (keep_below hB (keep_alloc (by simp))))
  have y1 : w2.cell? ⟨w.heap.size, 1, none⟩ = some (.string ⟨#[]⟩) := keep_below hB2 (keep_alloc (keep_below hB (keep_alloc (by simp))))
  have y2 : w2.cell? ⟨w.heap.size, 2, none⟩ = some (.slice none 0 0) := keep_below hB2 (keep_alloc (keep_below hB (keep_alloc (by simp))))
  have fz : ∀ j, ((w.alloc (.cells #[.int .i64 0, .string ⟨#[]⟩, .slice none 0 0] 27)).alloc (.cells #[.int .i64 0] 40)).frozen? ⟨w.heap.size, j, none⟩ = false → w2.frozen? ⟨w.heap.size, j, none⟩ = false := fun j hj => by
    have s1 := hB.size
    simp at s1
    rw [hB2.frozen (by simp; omega), World.frozen?_alloc_old _ _ _ (by simp; omega), hB.frozen (by simp; omega)]
    exact hj
  have f0 := fz 0 (by simp)
  have f1 := fz 1 (by simp)
  have f2 := fz 2 (by simp)
  clear fz
  go_wp2_with fail
  refine bodyPost_ret (v := .tuple #[.agg #[.int .i64 0, .string ⟨#[]⟩, .slice none 0 0], .bool false]) ?_ rfl ?_
  · simp [results, Tryd.f15, go_sem, y0, y1, y2]
  · exact ⟨rfl, (((bcall (bnew hb _) hB2).setCell (p := ⟨w.heap.size, 0, none⟩) (by simp) _).setCell (p := ⟨w.heap.size, 1, none⟩) (by simp) _).setCell (p := ⟨w.heap.size, 2, none⟩) (by simp) _⟩

/-- fault.Find. -/
theorem find_any (s : Sh) (hg : Good s) (A : Nat → Prop) (v : Value) (w : World) (h : ERep A w s v) (hT : ErrT w) :
    Calls Tryd.prog 20 #[v] w fun e w' => e = .returned (.tuple #[.int .i64 (firstCode s), .bool true]) ∧ Below w.heap.size w w' := by
  have C := Lib.hid (As_code s hg A v ⟨w.heap.size, 0, none⟩ (.int .i64 0) (w.alloc (.cells #[.int .i64 0] 40)) (h.ext (Ext.alloc _ _)) (keep_alloc hT) (by simp) (by simp))
  clear h hT
  generalize firstCode s = fc at C
  go_enter Tryd.func20, Tryd.ntmps20
  go_wp2_with fail
  refine C.out.mono ?_
  rintro e w1 ⟨rfl, hB⟩
  have y0 : w1.cell? ⟨w.heap.size, 0, none⟩ = some (.int .i64 fc) := set_cell (old := .int .i64 0) hB (by simp)
  go_wp2_with fail
  go_ret2
  exact ⟨rfl, ((bnew (Below.refl _ w) _).setCell (p := ⟨w.heap.size, 0, none⟩) (by simp) _).trans (hB.mono (by simp))⟩
theorem find_str (p : Value) (w : World) (hT : ErrT w) :
    Calls Tryd.prog 20 #[.iface 71 p] w fun e w' => e = .returned (.tuple #[.int .i64 0, .bool false]) ∧ Below w.heap.size w w' := by
  have C := Lib.hid (As_code_str p ⟨w.heap.size, 0, none⟩ (w.alloc (.cells #[.int .i64 0] 40)) (keep_alloc hT))
  clear hT
  go_enter Tryd.func20, Tryd.ntmps20
  go_wp2_with fail
  refine C.out.mono ?_
  rintro e w1 ⟨rfl, hB⟩
  have y0 : w1.cell? ⟨w.heap.size, 0, none⟩ = some (.int .i64 0) := keep_below hB (by simp)
  go_wp2_with fail
  go_ret2
  exact ⟨rfl, bcall (bnew (Below.refl _ w) _) hB⟩

/-- A shape of one kid. -/
theorem one_kid {A : Nat → Prop} {w : World} {s : Sh} {v0 v1 v2 : Value} {op : ByteArray} {g : Nat} (h : FRep A w s v0 v1 v2) (hop : op.size ≤ 4096) (hA : A g)
    (c0 : w.cell? ⟨g, 0, none⟩ = some v0) (c1 : w.cell? ⟨g, 1, none⟩ = some v1) (c2 : w.cell? ⟨g, 2, none⟩ = some v2) : FRep A w (.mk 0 op [s]) (.int .i64 0) (.string op) (.slice (some ⟨g, 0, none⟩) 1 1) :=
  .mk 0 op [s] (some ⟨g, 0, none⟩) 1 g 0 (fun j => if j = 0 then v0 else if j = 1 then v1 else v2) hop (by simp) (by simp) (by unfold maxLen; omega) (fun _ => ⟨rfl, hA⟩)
    (fun j hj => by
      simp at hj
      rw [Nat.zero_add]
      match j, hj with
      | 0, _ => exact c0
      | 1, _ => exact c1
      | 2, _ => exact c2)
    (fun i t hi => by
      cases i with
      | zero => simp at hi; subst hi; exact h
      | succ i => simp at hi)

/-- Wrap, on shapes. -/
def wrapO (op : ByteArray) : Option Sh → Option Sh
  | none => none
  | some s => makeO (.mk 0 op [s])

set_option maxHeartbeats 1000000 in
theorem wrap_any (op : ByteArray) (hop : op.size ≤ 4096) (A : Nat → Prop) (o : Option Sh) (v : Value) (w : World) (h : ORep A w o v) (hT : ErrT w) : Calls Tryd.prog 14 #[.string op, v] w (OPost w (wrapO op o)) := by
  cases o with
  | none =>
    obtain rfl : v = .nilIface := h
    have N := Lib.hid shape_nil
    clear hT
    go_enter Tryd.func14, Tryd.ntmps14
    go_wp2_with (go_at_call 15; refine (N.out _).mono ?_; rintro e w1 ⟨rfl, hB⟩)
    go_ret
    exact ⟨_, rfl, rfl, bnew hB _⟩
  | some s =>
    obtain ⟨hg, hE⟩ := h
    have C := Lib.hid (shape_any s hg A v w hE hT)
    clear hT hE
    go_enter Tryd.func14, Tryd.ntmps14
    go_wp2_with fail
    refine C.out.mono ?_
    rintro e w1 ⟨a, cap, rfl, hF, hB⟩
    go_wp2_with fail
    have hb := bnew (bnew hB (.cells #[.int .i64 s.code, .string s.op, .slice a s.kids.length cap] 27)) (.cells #[.int .i64 s.code, .string s.op, .slice a s.kids.length cap] 27)
    have F := one_kid (A := fun b => w.heap.size ≤ b) (w := (w1.alloc (.cells #[.int .i64 s.code, .string s.op, .slice a s.kids.length cap] 27)).alloc (.cells #[.int .i64 s.code, .string s.op, .slice a s.kids.length cap] 27)) (op := op) (g := w1.heap.size + 1) ((hF.ext (Ext.alloc _ _)).ext (Ext.alloc _ _)) hop (by have := hB.size; omega) (by simp) (by simp) (by simp)
    refine (make_any _ _ _ _ _ _ F).mono ?_
    rintro e w3 ⟨v, rfl, hv, hB3⟩
    go_wp2_with fail
    go_ret
    exact ⟨_, rfl, hv.mono fun b hx => Nat.le_trans hb.size hx, bcall hb hB3⟩

end Go.Proofs.YtpdljglamjanmaaDoor
