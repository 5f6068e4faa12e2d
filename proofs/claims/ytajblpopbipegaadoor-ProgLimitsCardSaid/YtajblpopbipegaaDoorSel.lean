/-
  prog.Reads, prog.Writes OF A SELECT: THE WALKS.
-/
import Derived.Test.YtajblpopbipegaaDoorRise
import Derived.Outline
namespace Go.Proofs.YtajblpopbipegaaDoor
open Go.RowKit Go.Lib

set_option maxRecDepth 100000 in
set_option maxHeartbeats 1000000 in
theorem writes_15 (a b c : Int) (cs : List Cs) (d : Bool) (cv : Value) (w : World) (hcs : CRep w cs cv) (hg : goodB ⟨15, a, b, c, cs, d⟩ 100 = true) : Calls Tryd.prog 18 #[.agg #[.int .i64 15, .int .i64 a, .int .i64 b, .int .i64 c, cv, .bool d]] w (RPost w (risingI [a, b, c])) := by
  have C := good_any ⟨15, a, b, c, cs, d⟩ 100 cv _ (hcs.ext (Ext.alloc w (.cells #[.int .i64 15, .int .i64 a, .int .i64 b, .int .i64 c, cv, .bool d] 36)))
  rw [hg] at C
  have Ch := Lib.hid C
  obtain ⟨i0, hi0, hz0, hz1, hz2⟩ := info_parts Tryd.info3
  obtain ⟨ca, ccap, rfl⟩ := hcs.form
  clear C hg hcs
  go_enter Tryd.func18, Tryd.ntmps18
  go_wp2_with fail
  refine Ch.out.mono ?_
  rintro e w1 ⟨rfl, hB⟩
  have hb := bcall (bnew (Below.refl _ w) _) hB
  have hsz := hb.size
  have y0 : w1.cell? ⟨w.heap.size, 0, none⟩ = some (.int .i64 15) := keep_below hB (by simp)
  have y1 : w1.cell? ⟨w.heap.size, 1, none⟩ = some (.int .i64 a) := keep_below hB (by simp)
  have y2 : w1.cell? ⟨w.heap.size, 2, none⟩ = some (.int .i64 b) := keep_below hB (by simp)
  have y3 : w1.cell? ⟨w.heap.size, 3, none⟩ = some (.int .i64 c) := keep_below hB (by simp)
  go_wp2_with (at_builtin; refine wpList_append_lies (w := _) (hgd := rfl) (s := _) (x := _) (t := _) (ho := rfl) (base := w.heap.size) (e := 3) (i := i0) (z := _) (size := 1) (bytes := 8) (ht := Tryd.underlying32) (hi := hi0) (hz := hz0) (hsize := hz1) (hby := hz2) (hzs := rfl) (hsz := Nat.one_pos) (v := .slice none 0 0) (n := 0) (xs := []) (hs := ?_) (hown := ?_) (ad := ⟨w1.heap.size, 0, none⟩) (m := 3) (c := 3) (news := [.int .i64 a, .int .i64 b, .int .i64 c]) (hx := ?_) (hl := ?_) (hnews := ?_) (h1 := ?_) (hm := by omega) (h63 := ?_) (hbytes := ?_) (hbase := ?_) (H := _) (hH := rfl) (h := ?_); (rfl); (exact World.ownsRow_nil _ _ _ _); (rfl); (rfl); (exact World.news_of_block (heap_alloc_new _ _)); (simp [Value.oneCell']); (unfold maxLen; omega); (omega); (first | omega | (simp; omega)); intro gg1 cap1 u1 own1 grow1 hat1 hlt1)
  have hb1 : Below w.heap.size w u1 := (bnew hb _).grown grow1 (by simp; omega) (fun j hj => by simp [Value.ownBlock] at hj)
  have hrow : Row w.heap.size u1 [a, b, c] (.slice (some ⟨gg1, 0, none⟩) 3 cap1) := by simpa [Row] using own1
  have CR := Lib.hid (rising_any w.heap.size [a, b, c] _ w u1 hrow (by simp) (Nat.le_refl _) hb1)
  clear hrow hb1 hb hB own1 grow1 hat1
  go_wp2_with fail
  refine CR.out.mono ?_
  rintro e w3 ⟨v, rfl, hv, hB2⟩
  go_wp2_with fail
  go_ret
  exact ⟨v, rfl, hv, hB2⟩

/-- What the cases read. -/
def csL (cs : List Cs) : List Int := (cs.map fun c => if c.send then [c.ch, c.val] else [c.ch]).flatten
theorem csL_take (cs : List Cs) (k : Nat) (c : Cs) (h : cs[k]? = some c) : csL (cs.take (k + 1)) = csL (cs.take k) ++ (if c.send then [c.ch, c.val] else [c.ch]) := by
  unfold csL
  rw [List.take_add_one, h]
  simp
theorem csL_len (cs : List Cs) : (csL cs).length ≤ cs.length * 2 := by
  unfold csL
  induction cs with
  | nil => simp
  | cons c cs ih =>
    rw [List.map_cons, List.flatten_cons, List.length_append, List.length_cons]
    have h2 : (if c.send = true then [c.ch, c.val] else [c.ch]).length ≤ 2 := by split <;> simp
    omega

set_option maxRecDepth 100000 in
set_option maxHeartbeats 2000000 in
theorem reads_15 (a b c : Int) (cs : List Cs) (d : Bool) (cv : Value) (w : World) (hcs : CRep w cs cv) (hl : cs.length ≤ 16) (hg : goodB ⟨15, a, b, c, cs, d⟩ 100 = true) : Calls Tryd.prog 16 #[.agg #[.int .i64 15, .int .i64 a, .int .i64 b, .int .i64 c, cv, .bool d]] w (RPost w (risingI (csL cs))) := by
  have C := good_any ⟨15, a, b, c, cs, d⟩ 100 cv _ (hcs.ext (Ext.alloc w (.cells #[.int .i64 15, .int .i64 a, .int .i64 b, .int .i64 c, cv, .bool d] 36)))
  rw [hg] at C
  have Ch := Lib.hid C
  obtain ⟨i0, hi0, hz0, hz1, hz2⟩ := info_parts Tryd.info3
  obtain ⟨ca, ccap, cb, coff, rfl, hcc, hcm, hca, hcell⟩ := hcs
  have HCell := Lib.hid hcell
  have HCA := Lib.hid hca
  clear C hg hcell hca
  go_enter Tryd.func16, Tryd.ntmps16
  go_wp2_with fail
  refine Ch.out.mono ?_
  rintro e w1 ⟨rfl, hB⟩
  have hb := bcall (bnew (Below.refl _ w) _) hB
  have hsz := hb.size
  have y0 : w1.cell? ⟨w.heap.size, 0, none⟩ = some (.int .i64 15) := keep_below hB (by simp)
  have y4 : w1.cell? ⟨w.heap.size, 4, none⟩ = some (.slice ca cs.length ccap) := keep_below hB (by simp)
  clear hB
  go_wp2_with fail
  go_loopw [2, 64] (fun v2 vi wr => ∃ k : Nat, k ≤ cs.length ∧ vi = .int .i64 k ∧ Row w.heap.size wr (csL (cs.take k)) v2 ∧ Below w.heap.size w wr) (fun _ vi _ => cs.length - (intOf vi).toNat)
  case atStart => exact ⟨0, by omega, rfl, World.ownsRow_nil _ _ _ _, hb⟩
  case round =>
    obtain ⟨k, hk, rfl, hrow, hbr⟩ := hrel
    have hrow' : wr.ownsRow w.heap.size 3 1 u2 (csL (cs.take k)).length ((csL (cs.take k)).map (Value.int .i64)) := hrow
    have hll := csL_len (cs.take k)
    have hlt' : (cs.take k).length ≤ k := List.length_take_le _ _
    have hszr := hbr.size
    by_cases hlt : k < cs.length
    · obtain ⟨⟨send, ch, val⟩, hcx⟩ : ∃ x, cs[k]? = some x := ⟨_, List.getElem?_eq_getElem hlt⟩
      obtain rfl := HCA.out (by omega)
      obtain ⟨x0, x1, x2⟩ := HCell.out k _ hcx
      have x0' := keep_below hbr x0
      have x1' := keep_below hbr x1
      have x2' := keep_below hbr x2
      have hne : some wr.heap.size ≠ u2.ownBlock := fun e => by have := (hrow'.lt _ e.symm).2; omega
      have z0 : (wr.alloc (.cells #[.bool send, .int .i64 ch, .int .i64 val] 41)).cell? ⟨wr.heap.size, 0, none⟩ = some (.bool send) := by simp
      have z2 : (wr.alloc (.cells #[.bool send, .int .i64 ch, .int .i64 val] 41)).cell? ⟨wr.heap.size, 2, none⟩ = some (.int .i64 val) := by simp
      have htk := Lib.hid (csL_take cs k _ hcx)
      have HX := Lib.hid hcx
      clear x0 x1 x2 hcx
      have hnb : ((wr.alloc (.cells #[.bool send, .int .i64 ch, .int .i64 val] 41)).alloc (.cells #[.int .i64 ch] 3)).heap[wr.heap.size + 1]? = some (.cells #[.int .i64 ch] 3) := by simpa using heap_alloc_new (wr.alloc (.cells #[.bool send, .int .i64 ch, .int .i64 val] 41)) (.cells #[.int .i64 ch] 3)
      have HNB := Lib.hid hnb
      clear hnb
      cases send with
      | false =>
        go_wp2_with (at_builtin; refine wpList_append_lies (w := _) (hgd := rfl) (s := _) (x := _) (t := _) (ho := rfl) (base := w.heap.size) (e := 3) (i := i0) (z := _) (size := 1) (bytes := 8) (ht := Tryd.underlying32) (hi := hi0) (hz := hz0) (hsize := hz1) (hby := hz2) (hzs := rfl) (hsz := Nat.one_pos) (v := u2) (n := (csL (cs.take k)).length) (xs := (csL (cs.take k)).map (Value.int .i64)) (hs := ?_) (hown := ?_) (ad := ⟨wr.heap.size + 1, 0, none⟩) (m := 1) (c := 1) (news := [.int .i64 ch]) (hx := ?_) (hl := ?_) (hnews := ?_) (h1 := ?_) (hm := by omega) (h63 := ?_) (hbytes := ?_) (hbase := ?_) (H := _) (hH := rfl) (h := ?_); (rfl); (exact (hrow'.alloc _).alloc _); (rfl); (rfl); (exact World.news_of_block HNB.out); (simp [Value.oneCell']); (unfold maxLen; omega); (omega); (first | omega | (simp; omega)); intro gg1 cap1 u1 own1 grow1 hat1 hlt1; have b1 := keep_grown grow1 hne (keep_alloc z0); have b2 := keep_grown grow1 hne (keep_alloc z2); have s1 := grow1.size; simp at s1)
        have hb1 : Below w.heap.size w u1 := (bnew (bnew hbr _) _).grown grow1 (by simp; omega) (fun j hj => (hrow'.lt j hj).1)
        have hr1 : Row w.heap.size u1 (csL (cs.take (k + 1))) (.slice (some ⟨gg1, 0, none⟩) ((csL (cs.take k)).length + 1) cap1) := by
          rw [htk.out]
          simpa [Row] using own1
        clear hrow hrow' own1 grow1 hat1 hbr b1 b2
        go_roundw
        case rel => exact ⟨k + 1, by omega, by go_num, hr1, hb1⟩
        case measure => simp [intOf]; omega
      | true =>
        go_wp2_with (first | (at_builtin; refine wpList_append_lies (w := _) (hgd := rfl) (s := _) (x := _) (t := _) (ho := rfl) (base := w.heap.size) (e := 3) (i := i0) (z := _) (size := 1) (bytes := 8) (ht := Tryd.underlying32) (hi := hi0) (hz := hz0) (hsize := hz1) (hby := hz2) (hzs := rfl) (hsz := Nat.one_pos) (v := u2) (n := (csL (cs.take k)).length) (xs := (csL (cs.take k)).map (Value.int .i64)) (hs := ?_) (hown := ?_) (ad := ⟨wr.heap.size + 1, 0, none⟩) (m := 1) (c := 1) (news := [.int .i64 ch]) (hx := ?_) (hl := ?_) (hnews := ?_) (h1 := ?_) (hm := by omega) (h63 := ?_) (hbytes := ?_) (hbase := ?_) (H := _) (hH := rfl) (h := ?_); (rfl); (exact (hrow'.alloc _).alloc _); (rfl); (rfl); (exact World.news_of_block HNB.out); (simp [Value.oneCell']); (unfold maxLen; omega); (omega); (first | omega | (simp; omega)); intro gg1 cap1 u1 own1 grow1 hat1 hlt1; have b1 := keep_grown grow1 hne (keep_alloc z0); have b2 := keep_grown grow1 hne (keep_alloc z2); have s1 := grow1.size; simp at s1) | (at_builtin; refine wpList_append_lies (w := _) (hgd := rfl) (s := _) (x := _) (t := _) (ho := rfl) (base := w.heap.size) (e := 3) (i := i0) (z := _) (size := 1) (bytes := 8) (ht := Tryd.underlying32) (hi := hi0) (hz := hz0) (hsize := hz1) (hby := hz2) (hzs := rfl) (hsz := Nat.one_pos) (v := .slice (some ⟨gg1, 0, none⟩) ((csL (cs.take k)).length + 1) cap1) (n := (csL (cs.take k)).length + 1) (xs := (csL (cs.take k)).map (Value.int .i64) ++ [.int .i64 ch]) (hs := ?_) (hown := ?_) (ad := ⟨u1.heap.size, 0, none⟩) (m := 1) (c := 1) (news := [.int .i64 val]) (hx := ?_) (hl := ?_) (hnews := ?_) (h1 := ?_) (hm := by omega) (h63 := ?_) (hbytes := ?_) (hbase := ?_) (H := _) (hH := rfl) (h := ?_); (rfl); (exact own1.alloc _); (rfl); (rfl); (exact World.news_of_block (heap_alloc_new _ _)); (simp [Value.oneCell']); (unfold maxLen; omega); (omega); (first | omega | (simp; omega)); intro gg3 cap3 u3 own3 grow3 hat3 hlt3))
        have hb1 : Below w.heap.size w u1 := (bnew (bnew hbr _) _).grown grow1 (by simp; omega) (fun j hj => (hrow'.lt j hj).1)
        have hs1 := hb1.size
        have hb3 : Below w.heap.size w u3 := (bnew hb1 _).grown grow3 (by simp; omega) (fun j hj => (own1.lt j hj).1)
        have hr1 : Row w.heap.size u3 (csL (cs.take (k + 1))) (.slice (some ⟨gg3, 0, none⟩) ((csL (cs.take k)).length + 1 + 1) cap3) := by
          rw [htk.out]
          simpa [Row] using own3
        clear hrow hrow' own1 grow1 hat1 hbr b1 b2 own3 grow3 hat3
        go_roundw
        case rel => exact ⟨k + 1, by omega, by go_num, hr1, hb3⟩
        case measure => simp [intOf]; omega
    · obtain rfl : k = cs.length := by omega
      clear hrow'
      rw [List.take_length] at hrow hll
      have CR := Lib.hid (rising_any w.heap.size (csL cs) _ w wr hrow (by omega) (Nat.le_refl _) hbr)
      clear hrow hbr
      go_wp2_with fail
      refine CR.out.mono ?_
      rintro e w3 ⟨v, rfl, hv, hB2⟩
      go_wp2_with fail
      go_ret
      exact ⟨v, rfl, hv, hB2⟩
end Go.Proofs.YtajblpopbipegaaDoor
