/-
  tarpaulinlaw4.awake: THE WALK.
-/
import Derived.Test.YtajblpopbipegaaDoorRW
import Derived.Test.YtajblpopbipegaaDoorRefRW
import Derived.Test.YtajblpopbipegaaDoorName
import Derived.Test.YtajblpopbipegaaDoorAlike
import Derived.Lib.SmallJoins
import Derived.Outline
namespace Go.Proofs.YtajblpopbipegaaDoor
open Go.RowKit Go.Lib

abbrev TabS (w : World) : Prop := Lib.TabIs Tryd.prog w "strings.asciiSpace" .u8 Lib.asciiSpaceTab

theorem crep0 (w : World) : CRep w [] (.slice none 0 0) := ⟨none, 0, 0, 0, rfl, Nat.le_refl _, by unfold maxLen; omega, fun h => by simp at h, fun j c hj => by simp at hj⟩
theorem lrep0 (w : World) : LRep w [] (.slice none 0 0) := ⟨none, 0, 0, 0, fun _ => .nilIface, rfl, Nat.le_refl _, by unfold maxLen; omega, fun h => by simp at h, fun j c hj => by simp at hj⟩
theorem prep0 (w : World) : PRep w [] (.slice none 0 0) := ⟨none, 0, 0, 0, fun _ => .nilIface, rfl, Nat.le_refl _, by unfold maxLen; omega, fun h => by simp at h, fun j c hj => by simp at hj⟩
theorem lit1 {w : World} {g : Nat} {t : TypeId} {fr : Nat × Nat} (i : Ins) (cv : Value) (hcs : CRep w i.cases cv) (hg : w.heap[g]? = some (.cells #[.int .i64 i.op, .int .i64 i.a, .int .i64 i.b, .int .i64 i.c, cv, .bool i.dflt] t fr)) : LRep w [i] (.slice (some ⟨g, 0, none⟩) 1 1) := by
  have c := fun k => cell_of_row w g k _ _ _ hg
  refine ⟨_, 1, g, 0, fun _ => cv, rfl, Nat.le_refl _, by unfold maxLen; omega, fun _ => rfl, fun j x hj => ?_⟩
  match j, hj with
  | 0, hj =>
    simp at hj
    subst hj
    exact ⟨hcs, c 0, c 1, c 2, c 3, c 4, c 5⟩
  | j + 1, hj => simp at hj
theorem lit2 {w : World} {g : Nat} {t : TypeId} {fr : Nat × Nat} (i k : Ins) (cv dv : Value) (hcs : CRep w i.cases cv) (hds : CRep w k.cases dv)
    (hg : w.heap[g]? = some (.cells #[.int .i64 i.op, .int .i64 i.a, .int .i64 i.b, .int .i64 i.c, cv, .bool i.dflt, .int .i64 k.op, .int .i64 k.a, .int .i64 k.b, .int .i64 k.c, dv, .bool k.dflt] t fr)) : LRep w [i, k] (.slice (some ⟨g, 0, none⟩) 2 2) := by
  have c := fun k => cell_of_row w g k _ _ _ hg
  refine ⟨_, 2, g, 0, fun j => if j = 0 then cv else dv, rfl, Nat.le_refl _, by unfold maxLen; omega, fun _ => rfl, fun j x hj => ?_⟩
  match j, hj with
  | 0, hj =>
    simp at hj
    subst hj
    exact ⟨hcs, c 0, c 1, c 2, c 3, c 4, c 5⟩
  | 1, hj =>
    simp at hj
    subst hj
    exact ⟨hds, c 6, c 7, c 8, c 9, c 10, c 11⟩
  | j + 2, hj => simp at hj
theorem pit1 {w : World} {g : Nat} {t : TypeId} {fr : Nat × Nat} (l : List Ins) (v : Value) (hl : LRep w l v) (hg : w.heap[g]? = some (.cells #[v] t fr)) : PRep w [l] (.slice (some ⟨g, 0, none⟩) 1 1) := by
  have c := fun k => cell_of_row w g k _ _ _ hg
  refine ⟨_, 1, g, 0, fun _ => v, rfl, Nat.le_refl _, by unfold maxLen; omega, fun _ => rfl, fun j x hj => ?_⟩
  match j, hj with
  | 0, hj =>
    simp at hj
    subst hj
    exact ⟨hl, c 0⟩
  | j + 1, hj => simp at hj
theorem pit2 {w : World} {g : Nat} {t : TypeId} {fr : Nat × Nat} (l m : List Ins) (v u : Value) (hl : LRep w l v) (hm : LRep w m u) (hg : w.heap[g]? = some (.cells #[v, u] t fr)) : PRep w [l, m] (.slice (some ⟨g, 0, none⟩) 2 2) := by
  have c := fun k => cell_of_row w g k _ _ _ hg
  refine ⟨_, 2, g, 0, fun j => if j = 0 then v else u, rfl, Nat.le_refl _, by unfold maxLen; omega, fun _ => rfl, fun j x hj => ?_⟩
  match j, hj with
  | 0, hj =>
    simp at hj
    subst hj
    exact ⟨hl, c 0⟩
  | 1, hj =>
    simp at hj
    subst hj
    exact ⟨hm, c 1⟩
  | j + 2, hj => simp at hj
theorem irep3 {w : World} {g : Nat} {t : TypeId} {fr : Nat × Nat} (x y z : Int) (hg : w.heap[g]? = some (.cells #[.int .i64 x, .int .i64 y, .int .i64 z] t fr)) : IRep w [x, y, z] (.slice (some ⟨g, 0, none⟩) 3 3) := by
  have c := fun k => cell_of_row w g k _ _ _ hg
  refine ⟨_, 3, g, 0, rfl, Nat.le_refl _, by unfold maxLen; omega, fun _ => rfl, fun j x hj => ?_⟩
  match j, hj with
  | 0, hj => simp at hj; subst hj; exact c 0
  | 1, hj => simp at hj; subst hj; exact c 1
  | 2, hj => simp at hj; subst hj; exact c 2
  | j + 3, hj => simp at hj
theorem crep2 {w : World} {g : Nat} {t : TypeId} {fr : Nat × Nat} (x y : Cs) (hg : w.heap[g]? = some (.cells #[.bool x.send, .int .i64 x.ch, .int .i64 x.val, .bool y.send, .int .i64 y.ch, .int .i64 y.val] t fr)) : CRep w [x, y] (.slice (some ⟨g, 0, none⟩) 2 2) := by
  have c := fun k => cell_of_row w g k _ _ _ hg
  refine ⟨_, 2, g, 0, rfl, Nat.le_refl _, by unfold maxLen; omega, fun _ => rfl, fun j x hj => ?_⟩
  match j, hj with
  | 0, hj => simp at hj; subst hj; exact ⟨c 0, c 1, c 2⟩
  | 1, hj => simp at hj; subst hj; exact ⟨c 3, c 4, c 5⟩
  | j + 2, hj => simp at hj

def sI : Ins := ⟨15, 1, 2, 3, [⟨false, 4, 0⟩, ⟨true, 5, 6⟩], true⟩
def jI : Ins := ⟨4, 2, 0, 0, [], false⟩
def g1 : Ins := ⟨8, 0, 1, 0, [], false⟩
def s8 : Ins := ⟨1, 8, 0, 0, [], false⟩
theorem aw1 : checkB [sI, jI] = true := by decide +kernel
theorem aw2 : checkB [jI] = false := by decide +kernel
theorem aw3 : checkB [s8] = false := by decide +kernel
theorem aw4 : allB [[g1], []] = true := by decide +kernel
theorem aw5 : allB [[g1]] = false := by decide +kernel
theorem aw6 : allB [] = false := by decide +kernel
theorem aw7 : readsB sI = [4, 5, 6] := by rw [reads_ref]; decide +kernel
theorem aw8 : writesB sI = [1, 2, 3] := by rw [writes_ref]; decide +kernel
theorem aw9 : nameOf 32 = ⟨#[117, 110, 97, 102, 116, 101, 114]⟩ := by decide +kernel
theorem aw10 : nameOf 0 = ⟨#[]⟩ := by decide +kernel
theorem powK : (Tryd.prog.globalNamed "strings.asciiSpace").isSome = true := by kernel_rfl
theorem tab_keep {w w' : World} (h : TabS w) (hb : Below w.heap.size w w') : TabS w' := by
  obtain ⟨g, hg⟩ := Option.isSome_iff_exists.1 powK
  exact Go.Joins.tab_stays hg h hb (Nat.le_refl _)

theorem check_t {l : List Ins} {v : Value} {w : World} (h : LRep w l v) (hb : checkB l = true) : Calls Tryd.prog 13 #[v] w fun e w' => e = .returned (.int .i64 0) ∧ Below w.heap.size w w' := by
  have := check_any l v w h
  rw [hb] at this
  exact this
theorem check_f {l : List Ins} {v : Value} {w : World} (h : LRep w l v) (hb : checkB l = false) : Calls Tryd.prog 13 #[v] w fun e w' => e = .returned (.int .i64 1) ∧ Below w.heap.size w w' := by
  have := check_any l v w h
  rw [hb] at this
  exact this
theorem all_t {l : List (List Ins)} {v : Value} {w : World} (h : PRep w l v) (hb : allB l = true) : Calls Tryd.prog 9 #[v] w fun e w' => e = .returned (.int .i64 0) ∧ Below w.heap.size w w' := by
  have := all_any l v w h
  rw [hb] at this
  exact this
theorem all_f {l : List (List Ins)} {v : Value} {w : World} (h : PRep w l v) (hb : allB l = false) : Calls Tryd.prog 9 #[v] w fun e w' => e = .returned (.int .i64 1) ∧ Below w.heap.size w w' := by
  have := all_any l v w h
  rw [hb] at this
  exact this
theorem ints_t {xs ys : List Int} {u v : Value} {w : World} (hx : IRep w xs u) (hy : IRep w ys v) (h : xs = ys) : Calls Tryd.prog 15 #[u, v] w fun e w' => e = .returned (.bool true) ∧ Below w.heap.size w w' := by
  have := ints_any xs ys u v w hx hy
  rw [show sameB xs ys = true from decide_eq_true h] at this
  exact this
/-- The six cells of the only instruction of a row. -/
theorem one_cells {w : World} {i : Ins} {g : Nat} (h : LRep w [i] (.slice (some ⟨g, 0, none⟩) 1 1)) : ∃ cv, CRep w i.cases cv ∧ w.cell? ⟨g, 0, none⟩ = some (.int .i64 i.op) ∧ w.cell? ⟨g, 1, none⟩ = some (.int .i64 i.a) ∧ w.cell? ⟨g, 2, none⟩ = some (.int .i64 i.b) ∧ w.cell? ⟨g, 3, none⟩ = some (.int .i64 i.c) ∧ w.cell? ⟨g, 4, none⟩ = some cv ∧ w.cell? ⟨g, 5, none⟩ = some (.bool i.dflt) := by
  obtain ⟨a, cap, b, off, vs, he, _, _, ha, hc⟩ := h
  obtain rfl := ha (by simp)
  injection he with h1 h2 h3
  injection h1 with h1
  injection h1 with h1 h4
  subst h1 h4
  obtain ⟨x, y0, y1, y2, y3, y4, y5⟩ := hc 0 i rfl
  exact ⟨vs 0, x, by simpa using y0, by simpa using y1, by simpa using y2, by simpa using y3, by simpa using y4, by simpa using y5⟩

set_option maxRecDepth 100000 in
set_option maxHeartbeats 8000000 in
theorem awake_any (w : World) (hT : TabS w) : Calls Tryd.prog 8 #[] w fun e w' => e = .returned (.bool true) ∧ Below w.heap.size w w' := by
  have HT := Lib.hid hT
  clear hT
  go_enter Tryd.func8, Tryd.ntmps8
  go_wp2_with fail
  obtain ⟨b1, b2, b3⟩ := three_blocks w (.cells #[.bool false, .int .i64 4, .int .i64 0, .bool true, .int .i64 5, .int .i64 6] 41) (.cells #[.int .i64 15, .int .i64 1, .int .i64 2, .int .i64 3, .slice (some ⟨w.heap.size, 0, none⟩) 2 2, .bool true] 36)
    (.cells #[.int .i64 15, .int .i64 1, .int .i64 2, .int .i64 3, .slice (some ⟨w.heap.size, 0, none⟩) 2 2, .bool true, .int .i64 4, .int .i64 2, .int .i64 0, .int .i64 0, .slice none 0 0, .bool false] 36) _ rfl
  have hcs := crep2 ⟨false, 4, 0⟩ ⟨true, 5, 6⟩ b1
  have hS : LRep _ [sI] (.slice (some ⟨w.heap.size + 1, 0, none⟩) 1 1) := lit1 sI _ hcs b2
  have hL : LRep _ [sI, jI] (.slice (some ⟨w.heap.size + 1 + 1, 0, none⟩) 2 2) := lit2 sI jI _ _ hcs (crep0 _) b3
  have HS := Lib.hid hS
  have C := Lib.hid (check_t hL aw1)
  clear b1 b2 b3 hcs hS hL
  refine C.out.mono ?_
  rintro e w1 ⟨rfl, hB1⟩
  have hb1 := bcall (bnew (bnew (bnew (Below.refl _ w) _) _) _) hB1
  have HS1 := Lib.hid (HS.out.ext (Ext.of_below hB1))
  clear HS C
  go_wp2_with fail
  have C := Lib.hid (check_f (lit1 (w := w1.alloc (.cells #[.int .i64 4, .int .i64 2, .int .i64 0, .int .i64 0, .slice none 0 0, .bool false] 36)) jI _ (crep0 _) (heap_alloc_new _ _)) aw2)
  refine C.out.mono ?_
  rintro e w2 ⟨rfl, hB2⟩
  have hb2 := bcall (bnew hb1 _) hB2
  have HS2 := Lib.hid ((HS1.out.ext (Ext.alloc _ _)).ext (Ext.of_below hB2))
  clear HS1 C
  go_wp2_with fail
  have C := Lib.hid (check_f (lit1 (w := w2.alloc (.cells #[.int .i64 1, .int .i64 8, .int .i64 0, .int .i64 0, .slice none 0 0, .bool false] 36)) s8 _ (crep0 _) (heap_alloc_new _ _)) aw3)
  refine C.out.mono ?_
  rintro e w3 ⟨rfl, hB3⟩
  have hb3 := bcall (bnew hb2 _) hB3
  have HS3 := Lib.hid ((HS2.out.ext (Ext.alloc _ _)).ext (Ext.of_below hB3))
  clear HS2 C
  go_wp2_with fail
  have C := Lib.hid (all_t (w := (w3.alloc (.cells #[.int .i64 8, .int .i64 0, .int .i64 1, .int .i64 0, .slice none 0 0, .bool false] 36)).alloc (.cells #[.slice (some ⟨w3.heap.size, 0, none⟩) 1 1, .slice none 0 0] 29))
    (pit2 _ _ _ _ (g := w3.heap.size + 1) ((lit1 (w := w3.alloc (.cells #[.int .i64 8, .int .i64 0, .int .i64 1, .int .i64 0, .slice none 0 0, .bool false] 36)) g1 _ (crep0 _) (heap_alloc_new _ _)).ext (Ext.alloc _ _)) (lrep0 _) (heap_alloc2_new _ _ _)) aw4)
  refine C.out.mono ?_
  rintro e w4 ⟨rfl, hB4⟩
  have hb4 := bcall (bnew (bnew hb3 _) _) hB4
  have HS4 := Lib.hid (((HS3.out.ext (Ext.alloc _ _)).ext (Ext.alloc _ _)).ext (Ext.of_below hB4))
  clear HS3 C
  go_wp2_with fail
  have C := Lib.hid (all_f (w := (w4.alloc (.cells #[.int .i64 8, .int .i64 0, .int .i64 1, .int .i64 0, .slice none 0 0, .bool false] 36)).alloc (.cells #[.slice (some ⟨w4.heap.size, 0, none⟩) 1 1] 29))
    (pit1 _ _ (g := w4.heap.size + 1) ((lit1 (w := w4.alloc (.cells #[.int .i64 8, .int .i64 0, .int .i64 1, .int .i64 0, .slice none 0 0, .bool false] 36)) g1 _ (crep0 _) (heap_alloc_new _ _)).ext (Ext.alloc _ _)) (heap_alloc2_new _ _ _)) aw5)
  refine C.out.mono ?_
  rintro e w5 ⟨rfl, hB5⟩
  have hb5 := bcall (bnew (bnew hb4 _) _) hB5
  have HS5 := Lib.hid (((HS4.out.ext (Ext.alloc _ _)).ext (Ext.alloc _ _)).ext (Ext.of_below hB5))
  clear HS4 C
  go_wp2_with fail
  have C := Lib.hid (all_f (prep0 w5) aw6)
  refine C.out.mono ?_
  rintro e w6 ⟨rfl, hB6⟩
  have hb6 := bcall hb5 hB6
  have HS6 := Lib.hid (HS5.out.ext (Ext.of_below hB6))
  clear HS5 C
  obtain ⟨cv, hcv, y0, y1, y2, y3, y4, y5⟩ := one_cells HS6.out
  have CR := reads_any sI cv w6 hcv
  rw [aw7] at CR
  have C := Lib.hid CR
  have y0' : w6.cell? ⟨w.heap.size + 1, 0, none⟩ = some (.int .i64 15) := y0
  have y1' : w6.cell? ⟨w.heap.size + 1, 1, none⟩ = some (.int .i64 1) := y1
  have y2' : w6.cell? ⟨w.heap.size + 1, 2, none⟩ = some (.int .i64 2) := y2
  have y3' : w6.cell? ⟨w.heap.size + 1, 3, none⟩ = some (.int .i64 3) := y3
  have y5' : w6.cell? ⟨w.heap.size + 1, 5, none⟩ = some (.bool true) := y5
  obtain ⟨ca, ccap, rfl⟩ := hcv.form
  clear CR hcv y0 y1 y2 y3 y5
  go_wp2_with fail
  refine C.out.mono ?_
  rintro e w7 ⟨v, rfl, hv, hB7⟩
  have hb7 := bcall hb6 hB7
  have HS7 := Lib.hid (HS6.out.ext (Ext.of_below hB7))
  clear HS6 C y0' y1' y2' y3' y4 y5'
  have HV := Lib.hid hv
  clear hv
  go_wp2_with fail
  have C := Lib.hid (ints_t (w := w7.alloc (.cells #[.int .i64 4, .int .i64 5, .int .i64 6] 3)) (HV.out.ext (Ext.alloc _ _)) (irep3 4 5 6 (heap_alloc_new _ _)) rfl)
  refine C.out.mono ?_
  rintro e w8 ⟨rfl, hB8⟩
  have hb8 := bcall (bnew hb7 _) hB8
  have HS8 := Lib.hid ((HS7.out.ext (Ext.alloc _ _)).ext (Ext.of_below hB8))
  clear HS7 C HV
  obtain ⟨cv, hcv, y0, y1, y2, y3, y4, y5⟩ := one_cells HS8.out
  have CR := writes_any sI cv w8 hcv
  rw [aw8] at CR
  have C := Lib.hid CR
  have y0' : w8.cell? ⟨w.heap.size + 1, 0, none⟩ = some (.int .i64 15) := y0
  have y1' : w8.cell? ⟨w.heap.size + 1, 1, none⟩ = some (.int .i64 1) := y1
  have y2' : w8.cell? ⟨w.heap.size + 1, 2, none⟩ = some (.int .i64 2) := y2
  have y3' : w8.cell? ⟨w.heap.size + 1, 3, none⟩ = some (.int .i64 3) := y3
  have y5' : w8.cell? ⟨w.heap.size + 1, 5, none⟩ = some (.bool true) := y5
  obtain ⟨ca, ccap, rfl⟩ := hcv.form
  clear CR hcv y0 y1 y2 y3 y5
  go_wp2_with fail
  refine C.out.mono ?_
  rintro e w9 ⟨v, rfl, hv, hB9⟩
  have hb9 := bcall hb8 hB9
  clear HS8 C y0' y1' y2' y3' y4 y5'
  have HV := Lib.hid hv
  clear hv
  go_wp2_with fail
  have C := Lib.hid (ints_t (w := w9.alloc (.cells #[.int .i64 1, .int .i64 2, .int .i64 3] 3)) (HV.out.ext (Ext.alloc _ _)) (irep3 1 2 3 (heap_alloc_new _ _)) rfl)
  refine C.out.mono ?_
  rintro e w10 ⟨rfl, hB10⟩
  have hb10 := bcall (bnew hb9 _) hB10
  clear HV C
  have CN := name_any 32 w10 (tab_keep HT.out hb10)
  rw [aw9] at CN
  have C := Lib.hid CN
  clear CN
  go_wp2_with fail
  refine C.out.mono ?_
  rintro e w11 ⟨rfl, hB11⟩
  have hb11 := bcall hb10 hB11
  clear C
  have CN := name_any 0 w11 (tab_keep HT.out hb11)
  rw [aw10] at CN
  have C := Lib.hid CN
  clear CN
  go_wp2_with fail
  refine C.out.mono ?_
  rintro e w12 ⟨rfl, hB12⟩
  have hb12 := bcall hb11 hB12
  go_wp2_with fail
  go_ret
  exact ⟨rfl, hb12⟩
end Go.Proofs.YtajblpopbipegaaDoor
