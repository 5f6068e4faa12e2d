/-
  prog.rising: THE WALK; a row of numbers in the making.
-/
import Derived.Test.YtajblpopbipegaaDoorAll
import Derived.Sort.OwnSortedInts
import Derived.Lib.OwnBridge
import Derived.Lib.RowBridge
namespace Go.Proofs.YtajblpopbipegaaDoor
open Go.RowKit Go.Lib

theorem Tryd.info3 : (Tryd.prog.info? 3).map (fun i => (i.zero, i.size, i.bytes)) = some (some (.int .i64 0), 1, 8) := by kernel_rfl

/-- Numbers in a row. -/
def IRep (w : World) (zs : List Int) (v : Value) : Prop :=
  ∃ (a : Option Addr) (cap b off : Nat), v = .slice a zs.length cap ∧ zs.length ≤ cap ∧ cap ≤ maxLen ∧ (0 < zs.length → a = some ⟨b, off, none⟩) ∧ ∀ j z, zs[j]? = some z → w.cell? ⟨b, off + j, none⟩ = some (.int .i64 z)
theorem IRep.ext {w w' : World} {zs : List Int} {v : Value} (h : IRep w zs v) (e : Ext w w') : IRep w' zs v := by
  obtain ⟨a, cap, b, off, h1, h2, h3, h4, h5⟩ := h
  exact ⟨a, cap, b, off, h1, h2, h3, h4, fun j z hj => e _ _ (h5 j z hj)⟩
theorem IRep.of_own {w : World} {base : Nat} {v : Value} {zs : List Int} (h : w.ownsRow base 3 1 v zs.length (zs.map (Value.int .i64))) : IRep w zs v := by
  by_cases hv : v = .slice none 0 0
  · subst hv
    rcases h.2 with ⟨_, h0⟩ | ⟨g, cap, cur, e0, _⟩
    · obtain rfl : zs = [] := by simpa using h0
      exact ⟨none, 0, 0, 0, rfl, Nat.le_refl _, by unfold maxLen; omega, fun h => by simp at h, fun j z hj => by simp at hj⟩
    · cases e0
  · obtain ⟨g, cap, rfl, hb, hg, hn, hm, _, hH⟩ := holds_of_ownsRow (enc := Value.int .i64) h hv
    refine ⟨_, cap, g, 0, rfl, hn, hm, fun _ => rfl, fun j z hj => ?_⟩
    have hj' : j < zs.length := (List.getElem?_eq_some_iff.1 hj).1
    have := (hH j (by simpa using hj')).1
    rw [getElem!_pos _ j (by simpa using hj')] at this
    rw [this]
    simp [(List.getElem?_eq_some_iff.1 hj).2]
/-- What a call that makes a row comes to. -/
def RPost (W : World) (zs : List Int) (e : Ending) (w' : World) : Prop := ∃ v, e = .returned v ∧ IRep w' zs v ∧ Below W.heap.size W w'
/-- A row in the making. -/
def Row (base : Nat) (w : World) (zs : List Int) (v : Value) : Prop := w.ownsRow base 3 1 v zs.length (zs.map (Value.int .i64))

theorem sort_len (l : List Int) : (sortI l).length = l.length := by unfold sortI; exact List.length_mergeSort l

set_option maxHeartbeats 1000000 in
/-- prog.rising. -/
theorem rising_any (base : Nat) (zs : List Int) (v : Value) (w0 w : World) (h : Row base w zs v) (hl : zs.length ≤ 1000) (hbase : w0.heap.size ≤ base) (hB : Below w0.heap.size w0 w) : Calls Tryd.prog 28 #[v] w (RPost w0 (risingI zs)) := by
  by_cases hv : v = .slice none 0 0
  · subst hv
    obtain rfl : zs = [] := by
      rcases h.2 with ⟨_, h0⟩ | ⟨g, cap, cur, e0, _⟩
      · simpa using h0
      · cases e0
    have C1 := Lib.hid (Tryd.slices_Sort_int_none none 0)
    have C2 := Lib.hid (Tryd.slices_Compact_int_empty none 0)
    have e : risingI [] = [] := by simp [risingI, sortI, Lib.compact, Lib.compactUpTo]
    rw [e]
    clear h e
    go_enter Tryd.func28, Tryd.ntmps28
    go_wp2_with (first | (go_at_call 39; refine (C1.out _).mono ?_; rintro e w1 ⟨rfl, rfl⟩) | (go_at_call 40; refine (C2.out _).mono ?_; rintro e w2 ⟨rfl, rfl⟩))
    go_ret
    exact ⟨_, rfl, ⟨none, 0, 0, 0, rfl, Nat.le_refl _, by unfold maxLen; omega, fun h => by simp at h, fun j z hj => by simp at hj⟩, hB⟩
  · obtain ⟨g, cap, rfl, hbg, hg, hn, hm, _, hH⟩ := holds_of_ownsRow (enc := Value.int .i64) h hv
    have C1 := Lib.hid (Tryd.slices_Sort_int g 0 cap zs w hH hg (by omega))
    have hcell : ∃ cur, w.heap[g]? = some (.cells cur 3 (0, 0)) ∧ cur.size = cap * 1 := by
      rcases h.2 with ⟨e0, _⟩ | ⟨g', cap', cur, e0, _, hb, _, _, hs, _⟩
      · cases e0
      · injection e0 with e1 e2 e3
        injection e1 with e1
        injection e1 with e1
        subst e1 e3
        exact ⟨cur, hb, hs⟩
    obtain ⟨cur, hcur, hcs⟩ := hcell
    have HB := Lib.hid hB
    have HC := Lib.hid hcur
    have HS := Lib.hid hcs
    have hsl := sort_len zs
    have HSL := Lib.hid hsl
    clear hcur hcs hB h hH hv hsl
    go_enter Tryd.func28, Tryd.ntmps28
    go_wp2_with fail
    refine C1.out.mono ?_
    rintro e w1 ⟨rfl, n, os, hw1⟩
    have own1 := ownsRow_sortedI (base := base) (g := g) (cap := cap) (n := n) (e := 3) (os := os) (ss := zs) (ts := sortI zs) HSL.out hbg HC.out hn hm HS.out
    have g1 := grownBy_sortedI (w := w) (g := g) (n := n) (os := os) (sortI zs).toArray
    rw [show (sortI zs).toArray = (zs.mergeSort fun x y => decide (x ≤ y)).toArray from rfl] at own1 g1
    rw [← hw1] at own1 g1
    have hB1 : Below w0.heap.size w0 w1 := HB.out.grown g1 (HB.out.size) (fun j hj => by injection hj with hj; omega)
    rw [← HSL.out] at own1
    obtain ⟨g', cap', e', _, _, _, _, _, hH1⟩ := holds_of_ownsRow (enc := Value.int .i64) own1 (by simp)
    have HH1 := Lib.hid hH1
    have HB1 := Lib.hid hB1
    have HO1 := Lib.hid own1
    have HE := Lib.hid e'
    clear own1 g1 hB1 hw1 hH1 e'
    have C2 : Calls Tryd.prog 40 #[.slice (some ⟨g, 0, none⟩) zs.length cap] w1 fun e w' => e = .returned (.slice (some ⟨g, 0, none⟩) (Lib.compact (sortI zs)).length cap) ∧ ∃ q, w' = Sort.putRow (Value.int .i64) (Sort.ahead w1 q) g 0 (Lib.compact (sortI zs) ++ List.replicate ((sortI zs).length - (Lib.compact (sortI zs)).length) 0).toArray := by
      have hg' : g' = g := by
        have := HE.out
        injection this with h1 h2 h3
        injection h1 with h1
        injection h1 with h1
        exact h1.symm
      have := Tryd.slices_Compact_int g 0 cap (sortI zs) w1 (by rw [← hg']; exact HH1.out) (by rw [HSL.out]; omega) (by rw [HSL.out]; omega)
      rw [HSL.out] at this
      rw [HSL.out]
      exact this
    have C2h := Lib.hid C2
    clear C2
    go_wp2_with fail
    refine C2h.out.mono ?_
    rintro e w2 ⟨rfl, q, hw2⟩
    have hcl := Lib.compact_length_le (sortI zs)
    have own2 := ownsRow_putRow (enc := Value.int .i64) (q := q) (k := (Lib.compact (sortI zs)).length) (ys := Lib.compact (sortI zs) ++ List.replicate ((sortI zs).length - (Lib.compact (sortI zs)).length) 0) HO1.out (by simp; omega) hcl
    have hB2 : Below w0.heap.size w0 w2 := by
      rw [hw2]
      exact below_putRow HB1.out (by omega)
    rw [← hw2, List.take_left'  rfl] at own2
    have HO2 := Lib.hid own2
    have HB2 := Lib.hid hB2
    clear own2 hB2 hw2 hcl
    go_wp2_with fail
    go_ret
    exact ⟨_, rfl, IRep.of_own HO2.out, HB2.out⟩
end Go.Proofs.YtajblpopbipegaaDoor
