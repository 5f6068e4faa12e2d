/-
  prog.Writes: THE WALK AT EACH OPERATION (printed by genrw.py).
-/
import Derived.Test.YtajblpopbipegaaDoorRise
namespace Go.Proofs.YtajblpopbipegaaDoor
open Go.RowKit Go.Lib

set_option maxRecDepth 100000 in
set_option maxHeartbeats 1000000 in
theorem writes_1 (a b c : Int) (cs : List Cs) (d : Bool) (cv : Value) (w : World) (hcs : CRep w cs cv) (hg : goodB ⟨1, a, b, c, cs, d⟩ 100 = true) : Calls Tryd.prog 18 #[.agg #[.int .i64 1, .int .i64 a, .int .i64 b, .int .i64 c, cv, .bool d]] w (RPost w (risingI [a])) := by
  have C := good_any ⟨1, a, b, c, cs, d⟩ 100 cv _ (hcs.ext (Ext.alloc w (.cells #[.int .i64 1, .int .i64 a, .int .i64 b, .int .i64 c, cv, .bool d] 36)))
  rw [hg] at C
  have Ch := Lib.hid C
  obtain ⟨i0, hi0, hz0, hz1, hz2⟩ := info_parts Tryd.info3
  obtain ⟨ca, ccap, rfl⟩ := hcs.form
  clear C hg hcs
  go_enter Tryd.func18, Tryd.ntmps18
  go_wp2_with fail
  refine Ch.out.mono ?_
  rintro e w1 ⟨rfl, hB⟩
  have hb := bcall (bnew (Below.refl _ w) _) hB
  have hsz := hb.size
  have y0 : w1.cell? ⟨w.heap.size, 0, none⟩ = some (.int .i64 1) := keep_below hB (by simp)
  have y1 : w1.cell? ⟨w.heap.size, 1, none⟩ = some (.int .i64 a) := keep_below hB (by simp)
  go_wp2_with (at_builtin; refine wpList_append_lies (w := _) (hgd := rfl) (s := _) (x := _) (t := _) (ho := rfl) (base := w.heap.size) (e := 3) (i := i0) (z := _) (size := 1) (bytes := 8) (ht := Tryd.underlying32) (hi := hi0) (hz := hz0) (hsize := hz1) (hby := hz2) (hzs := rfl) (hsz := Nat.one_pos) (v := .slice none 0 0) (n := 0) (xs := []) (hs := ?_) (hown := ?_) (ad := ⟨w1.heap.size, 0, none⟩) (m := 1) (c := 1) (news := [.int .i64 a]) (hx := ?_) (hl := ?_) (hnews := ?_) (h1 := ?_) (hm := by omega) (h63 := ?_) (hbytes := ?_) (hbase := ?_) (H := _) (hH := rfl) (h := ?_); (rfl); (exact World.ownsRow_nil _ _ _ _); (rfl); (rfl); (exact World.news_of_block (heap_alloc_new _ _)); (simp [Value.oneCell']); (unfold maxLen; omega); (omega); (first | omega | (simp; omega)); intro gg1 cap1 u1 own1 grow1 hat1 hlt1)
  have hb1 : Below w.heap.size w u1 := (bnew hb _).grown grow1 (by simp; omega) (fun j hj => by simp [Value.ownBlock] at hj)
  have hrow : Row w.heap.size u1 [a] (.slice (some ⟨gg1, 0, none⟩) 1 cap1) := by simpa [Row] using own1
  have CR := Lib.hid (rising_any w.heap.size [a] _ w u1 hrow (by simp) (Nat.le_refl _) hb1)
  clear hrow hb1 hb hB own1 grow1 hat1
  go_wp2_with fail
  refine CR.out.mono ?_
  rintro e w3 ⟨v, rfl, hv, hB2⟩
  go_wp2_with fail
  go_ret
  exact ⟨v, rfl, hv, hB2⟩

set_option maxRecDepth 100000 in
set_option maxHeartbeats 1000000 in
theorem writes_2 (a b c : Int) (cs : List Cs) (d : Bool) (cv : Value) (w : World) (hcs : CRep w cs cv) (hg : goodB ⟨2, a, b, c, cs, d⟩ 100 = true) : Calls Tryd.prog 18 #[.agg #[.int .i64 2, .int .i64 a, .int .i64 b, .int .i64 c, cv, .bool d]] w (RPost w (risingI [a])) := by
  have C := good_any ⟨2, a, b, c, cs, d⟩ 100 cv _ (hcs.ext (Ext.alloc w (.cells #[.int .i64 2, .int .i64 a, .int .i64 b, .int .i64 c, cv, .bool d] 36)))
  rw [hg] at C
  have Ch := Lib.hid C
  obtain ⟨i0, hi0, hz0, hz1, hz2⟩ := info_parts Tryd.info3
  obtain ⟨ca, ccap, rfl⟩ := hcs.form
  clear C hg hcs
  go_enter Tryd.func18, Tryd.ntmps18
  go_wp2_with fail
  refine Ch.out.mono ?_
  rintro e w1 ⟨rfl, hB⟩
  have hb := bcall (bnew (Below.refl _ w) _) hB
  have hsz := hb.size
  have y0 : w1.cell? ⟨w.heap.size, 0, none⟩ = some (.int .i64 2) := keep_below hB (by simp)
  have y1 : w1.cell? ⟨w.heap.size, 1, none⟩ = some (.int .i64 a) := keep_below hB (by simp)
  go_wp2_with (at_builtin; refine wpList_append_lies (w := _) (hgd := rfl) (s := _) (x := _) (t := _) (ho := rfl) (base := w.heap.size) (e := 3) (i := i0) (z := _) (size := 1) (bytes := 8) (ht := Tryd.underlying32) (hi := hi0) (hz := hz0) (hsize := hz1) (hby := hz2) (hzs := rfl) (hsz := Nat.one_pos) (v := .slice none 0 0) (n := 0) (xs := []) (hs := ?_) (hown := ?_) (ad := ⟨w1.heap.size, 0, none⟩) (m := 1) (c := 1) (news := [.int .i64 a]) (hx := ?_) (hl := ?_) (hnews := ?_) (h1 := ?_) (hm := by omega) (h63 := ?_) (hbytes := ?_) (hbase := ?_) (H := _) (hH := rfl) (h := ?_); (rfl); (exact World.ownsRow_nil _ _ _ _); (rfl); (rfl); (exact World.news_of_block (heap_alloc_new _ _)); (simp [Value.oneCell']); (unfold maxLen; omega); (omega); (first | omega | (simp; omega)); intro gg1 cap1 u1 own1 grow1 hat1 hlt1)
  have hb1 : Below w.heap.size w u1 := (bnew hb _).grown grow1 (by simp; omega) (fun j hj => by simp [Value.ownBlock] at hj)
  have hrow : Row w.heap.size u1 [a] (.slice (some ⟨gg1, 0, none⟩) 1 cap1) := by simpa [Row] using own1
  have CR := Lib.hid (rising_any w.heap.size [a] _ w u1 hrow (by simp) (Nat.le_refl _) hb1)
  clear hrow hb1 hb hB own1 grow1 hat1
  go_wp2_with fail
  refine CR.out.mono ?_
  rintro e w3 ⟨v, rfl, hv, hB2⟩
  go_wp2_with fail
  go_ret
  exact ⟨v, rfl, hv, hB2⟩

set_option maxRecDepth 100000 in
set_option maxHeartbeats 1000000 in
theorem writes_3 (a b c : Int) (cs : List Cs) (d : Bool) (cv : Value) (w : World) (hcs : CRep w cs cv) (hg : goodB ⟨3, a, b, c, cs, d⟩ 100 = true) : Calls Tryd.prog 18 #[.agg #[.int .i64 3, .int .i64 a, .int .i64 b, .int .i64 c, cv, .bool d]] w (RPost w (risingI [a])) := by
  have C := good_any ⟨3, a, b, c, cs, d⟩ 100 cv _ (hcs.ext (Ext.alloc w (.cells #[.int .i64 3, .int .i64 a, .int .i64 b, .int .i64 c, cv, .bool d] 36)))
  rw [hg] at C
  have Ch := Lib.hid C
  obtain ⟨i0, hi0, hz0, hz1, hz2⟩ := info_parts Tryd.info3
  obtain ⟨ca, ccap, rfl⟩ := hcs.form
  clear C hg hcs
  go_enter Tryd.func18, Tryd.ntmps18
  go_wp2_with fail
  refine Ch.out.mono ?_
  rintro e w1 ⟨rfl, hB⟩
  have hb := bcall (bnew (Below.refl _ w) _) hB
  have hsz := hb.size
  have y0 : w1.cell? ⟨w.heap.size, 0, none⟩ = some (.int .i64 3) := keep_below hB (by simp)
  have y1 : w1.cell? ⟨w.heap.size, 1, none⟩ = some (.int .i64 a) := keep_below hB (by simp)
  go_wp2_with (at_builtin; refine wpList_append_lies (w := _) (hgd := rfl) (s := _) (x := _) (t := _) (ho := rfl) (base := w.heap.size) (e := 3) (i := i0) (z := _) (size := 1) (bytes := 8) (ht := Tryd.underlying32) (hi := hi0) (hz := hz0) (hsize := hz1) (hby := hz2) (hzs := rfl) (hsz := Nat.one_pos) (v := .slice none 0 0) (n := 0) (xs := []) (hs := ?_) (hown := ?_) (ad := ⟨w1.heap.size, 0, none⟩) (m := 1) (c := 1) (news := [.int .i64 a]) (hx := ?_) (hl := ?_) (hnews := ?_) (h1 := ?_) (hm := by omega) (h63 := ?_) (hbytes := ?_) (hbase := ?_) (H := _) (hH := rfl) (h := ?_); (rfl); (exact World.ownsRow_nil _ _ _ _); (rfl); (rfl); (exact World.news_of_block (heap_alloc_new _ _)); (simp [Value.oneCell']); (unfold maxLen; omega); (omega); (first | omega | (simp; omega)); intro gg1 cap1 u1 own1 grow1 hat1 hlt1)
  have hb1 : Below w.heap.size w u1 := (bnew hb _).grown grow1 (by simp; omega) (fun j hj => by simp [Value.ownBlock] at hj)
  have hrow : Row w.heap.size u1 [a] (.slice (some ⟨gg1, 0, none⟩) 1 cap1) := by simpa [Row] using own1
  have CR := Lib.hid (rising_any w.heap.size [a] _ w u1 hrow (by simp) (Nat.le_refl _) hb1)
  clear hrow hb1 hb hB own1 grow1 hat1
  go_wp2_with fail
  refine CR.out.mono ?_
  rintro e w3 ⟨v, rfl, hv, hB2⟩
  go_wp2_with fail
  go_ret
  exact ⟨v, rfl, hv, hB2⟩

set_option maxRecDepth 100000 in
set_option maxHeartbeats 1000000 in
theorem writes_4 (a b c : Int) (cs : List Cs) (d : Bool) (cv : Value) (w : World) (hcs : CRep w cs cv) (hg : goodB ⟨4, a, b, c, cs, d⟩ 100 = true) : Calls Tryd.prog 18 #[.agg #[.int .i64 4, .int .i64 a, .int .i64 b, .int .i64 c, cv, .bool d]] w (RPost w (risingI [])) := by
  have C := good_any ⟨4, a, b, c, cs, d⟩ 100 cv _ (hcs.ext (Ext.alloc w (.cells #[.int .i64 4, .int .i64 a, .int .i64 b, .int .i64 c, cv, .bool d] 36)))
  rw [hg] at C
  have Ch := Lib.hid C
  obtain ⟨i0, hi0, hz0, hz1, hz2⟩ := info_parts Tryd.info3
  obtain ⟨ca, ccap, rfl⟩ := hcs.form
  clear C hg hcs
  go_enter Tryd.func18, Tryd.ntmps18
  go_wp2_with fail
  refine Ch.out.mono ?_
  rintro e w1 ⟨rfl, hB⟩
  have hb := bcall (bnew (Below.refl _ w) _) hB
  have hsz := hb.size
  have y0 : w1.cell? ⟨w.heap.size, 0, none⟩ = some (.int .i64 4) := keep_below hB (by simp)
  have CR := Lib.hid (rising_any w.heap.size [] (.slice none 0 0) w w1 (World.ownsRow_nil _ _ _ _) (by simp) (Nat.le_refl _) hb)
  clear hb hB
  go_wp2_with fail
  refine CR.out.mono ?_
  rintro e w2 ⟨v, rfl, hv, hB2⟩
  go_wp2_with fail
  go_ret
  exact ⟨v, rfl, hv, hB2⟩

set_option maxRecDepth 100000 in
set_option maxHeartbeats 1000000 in
theorem writes_5 (a b c : Int) (cs : List Cs) (d : Bool) (cv : Value) (w : World) (hcs : CRep w cs cv) (hg : goodB ⟨5, a, b, c, cs, d⟩ 100 = true) : Calls Tryd.prog 18 #[.agg #[.int .i64 5, .int .i64 a, .int .i64 b, .int .i64 c, cv, .bool d]] w (RPost w (risingI [])) := by
  have C := good_any ⟨5, a, b, c, cs, d⟩ 100 cv _ (hcs.ext (Ext.alloc w (.cells #[.int .i64 5, .int .i64 a, .int .i64 b, .int .i64 c, cv, .bool d] 36)))
  rw [hg] at C
  have Ch := Lib.hid C
  obtain ⟨i0, hi0, hz0, hz1, hz2⟩ := info_parts Tryd.info3
  obtain ⟨ca, ccap, rfl⟩ := hcs.form
  clear C hg hcs
  go_enter Tryd.func18, Tryd.ntmps18
  go_wp2_with fail
  refine Ch.out.mono ?_
  rintro e w1 ⟨rfl, hB⟩
  have hb := bcall (bnew (Below.refl _ w) _) hB
  have hsz := hb.size
  have y0 : w1.cell? ⟨w.heap.size, 0, none⟩ = some (.int .i64 5) := keep_below hB (by simp)
  have CR := Lib.hid (rising_any w.heap.size [] (.slice none 0 0) w w1 (World.ownsRow_nil _ _ _ _) (by simp) (Nat.le_refl _) hb)
  clear hb hB
  go_wp2_with fail
  refine CR.out.mono ?_
  rintro e w2 ⟨v, rfl, hv, hB2⟩
  go_wp2_with fail
  go_ret
  exact ⟨v, rfl, hv, hB2⟩

set_option maxRecDepth 100000 in
set_option maxHeartbeats 1000000 in
theorem writes_6 (a b c : Int) (cs : List Cs) (d : Bool) (cv : Value) (w : World) (hcs : CRep w cs cv) (hg : goodB ⟨6, a, b, c, cs, d⟩ 100 = true) : Calls Tryd.prog 18 #[.agg #[.int .i64 6, .int .i64 a, .int .i64 b, .int .i64 c, cv, .bool d]] w (RPost w (risingI [])) := by
  have C := good_any ⟨6, a, b, c, cs, d⟩ 100 cv _ (hcs.ext (Ext.alloc w (.cells #[.int .i64 6, .int .i64 a, .int .i64 b, .int .i64 c, cv, .bool d] 36)))
  rw [hg] at C
  have Ch := Lib.hid C
  obtain ⟨i0, hi0, hz0, hz1, hz2⟩ := info_parts Tryd.info3
  obtain ⟨ca, ccap, rfl⟩ := hcs.form
  clear C hg hcs
  go_enter Tryd.func18, Tryd.ntmps18
  go_wp2_with fail
  refine Ch.out.mono ?_
  rintro e w1 ⟨rfl, hB⟩
  have hb := bcall (bnew (Below.refl _ w) _) hB
  have hsz := hb.size
  have y0 : w1.cell? ⟨w.heap.size, 0, none⟩ = some (.int .i64 6) := keep_below hB (by simp)
  have CR := Lib.hid (rising_any w.heap.size [] (.slice none 0 0) w w1 (World.ownsRow_nil _ _ _ _) (by simp) (Nat.le_refl _) hb)
  clear hb hB
  go_wp2_with fail
  refine CR.out.mono ?_
  rintro e w2 ⟨v, rfl, hv, hB2⟩
  go_wp2_with fail
  go_ret
  exact ⟨v, rfl, hv, hB2⟩

set_option maxRecDepth 100000 in
set_option maxHeartbeats 1000000 in
theorem writes_7 (a b c : Int) (cs : List Cs) (d : Bool) (cv : Value) (w : World) (hcs : CRep w cs cv) (hg : goodB ⟨7, a, b, c, cs, d⟩ 100 = true) : Calls Tryd.prog 18 #[.agg #[.int .i64 7, .int .i64 a, .int .i64 b, .int .i64 c, cv, .bool d]] w (RPost w (risingI [])) := by
  have C := good_any ⟨7, a, b, c, cs, d⟩ 100 cv _ (hcs.ext (Ext.alloc w (.cells #[.int .i64 7, .int .i64 a, .int .i64 b, .int .i64 c, cv, .bool d] 36)))
  rw [hg] at C
  have Ch := Lib.hid C
  obtain ⟨i0, hi0, hz0, hz1, hz2⟩ := info_parts Tryd.info3
  obtain ⟨ca, ccap, rfl⟩ := hcs.form
  clear C hg hcs
  go_enter Tryd.func18, Tryd.ntmps18
  go_wp2_with fail
  refine Ch.out.mono ?_
  rintro e w1 ⟨rfl, hB⟩
  have hb := bcall (bnew (Below.refl _ w) _) hB
  have hsz := hb.size
  have y0 : w1.cell? ⟨w.heap.size, 0, none⟩ = some (.int .i64 7) := keep_below hB (by simp)
  have CR := Lib.hid (rising_any w.heap.size [] (.slice none 0 0) w w1 (World.ownsRow_nil _ _ _ _) (by simp) (Nat.le_refl _) hb)
  clear hb hB
  go_wp2_with fail
  refine CR.out.mono ?_
  rintro e w2 ⟨v, rfl, hv, hB2⟩
  go_wp2_with fail
  go_ret
  exact ⟨v, rfl, hv, hB2⟩

set_option maxRecDepth 100000 in
set_option maxHeartbeats 1000000 in
theorem writes_8 (a b c : Int) (cs : List Cs) (d : Bool) (cv : Value) (w : World) (hcs : CRep w cs cv) (hg : goodB ⟨8, a, b, c, cs, d⟩ 100 = true) : Calls Tryd.prog 18 #[.agg #[.int .i64 8, .int .i64 a, .int .i64 b, .int .i64 c, cv, .bool d]] w (RPost w (risingI [a])) := by
  have C := good_any ⟨8, a, b, c, cs, d⟩ 100 cv _ (hcs.ext (Ext.alloc w (.cells #[.int .i64 8, .int .i64 a, .int .i64 b, .int .i64 c, cv, .bool d] 36)))
  rw [hg] at C
  have Ch := Lib.hid C
  obtain ⟨i0, hi0, hz0, hz1, hz2⟩ := info_parts Tryd.info3
  obtain ⟨ca, ccap, rfl⟩ := hcs.form
  clear C hg hcs
  go_enter Tryd.func18, Tryd.ntmps18
  go_wp2_with fail
  refine Ch.out.mono ?_
  rintro e w1 ⟨rfl, hB⟩
  have hb := bcall (bnew (Below.refl _ w) _) hB
  have hsz := hb.size
  have y0 : w1.cell? ⟨w.heap.size, 0, none⟩ = some (.int .i64 8) := keep_below hB (by simp)
  have y1 : w1.cell? ⟨w.heap.size, 1, none⟩ = some (.int .i64 a) := keep_below hB (by simp)
  go_wp2_with (at_builtin; refine wpList_append_lies (w := _) (hgd := rfl) (s := _) (x := _) (t := _) (ho := rfl) (base := w.heap.size) (e := 3) (i := i0) (z := _) (size := 1) (bytes := 8) (ht := Tryd.underlying32) (hi := hi0) (hz := hz0) (hsize := hz1) (hby := hz2) (hzs := rfl) (hsz := Nat.one_pos) (v := .slice none 0 0) (n := 0) (xs := []) (hs := ?_) (hown := ?_) (ad := ⟨w1.heap.size, 0, none⟩) (m := 1) (c := 1) (news := [.int .i64 a]) (hx := ?_) (hl := ?_) (hnews := ?_) (h1 := ?_) (hm := by omega) (h63 := ?_) (hbytes := ?_) (hbase := ?_) (H := _) (hH := rfl) (h := ?_); (rfl); (exact World.ownsRow_nil _ _ _ _); (rfl); (rfl); (exact World.news_of_block (heap_alloc_new _ _)); (simp [Value.oneCell']); (unfold maxLen; omega); (omega); (first | omega | (simp; omega)); intro gg1 cap1 u1 own1 grow1 hat1 hlt1)
  have hb1 : Below w.heap.size w u1 := (bnew hb _).grown grow1 (by simp; omega) (fun j hj => by simp [Value.ownBlock] at hj)
  have hrow : Row w.heap.size u1 [a] (.slice (some ⟨gg1, 0, none⟩) 1 cap1) := by simpa [Row] using own1
  have CR := Lib.hid (rising_any w.heap.size [a] _ w u1 hrow (by simp) (Nat.le_refl _) hb1)
  clear hrow hb1 hb hB own1 grow1 hat1
  go_wp2_with fail
  refine CR.out.mono ?_
  rintro e w3 ⟨v, rfl, hv, hB2⟩
  go_wp2_with fail
  go_ret
  exact ⟨v, rfl, hv, hB2⟩

set_option maxRecDepth 100000 in
set_option maxHeartbeats 1000000 in
theorem writes_9 (a b c : Int) (cs : List Cs) (d : Bool) (cv : Value) (w : World) (hcs : CRep w cs cv) (hg : goodB ⟨9, a, b, c, cs, d⟩ 100 = true) : Calls Tryd.prog 18 #[.agg #[.int .i64 9, .int .i64 a, .int .i64 b, .int .i64 c, cv, .bool d]] w (RPost w (risingI [a])) := by
  have C := good_any ⟨9, a, b, c, cs, d⟩ 100 cv _ (hcs.ext (Ext.alloc w (.cells #[.int .i64 9, .int .i64 a, .int .i64 b, .int .i64 c, cv, .bool d] 36)))
  rw [hg] at C
  have Ch := Lib.hid C
  obtain ⟨i0, hi0, hz0, hz1, hz2⟩ := info_parts Tryd.info3
  obtain ⟨ca, ccap, rfl⟩ := hcs.form
  clear C hg hcs
  go_enter Tryd.func18, Tryd.ntmps18
  go_wp2_with fail
  refine Ch.out.mono ?_
  rintro e w1 ⟨rfl, hB⟩
  have hb := bcall (bnew (Below.refl _ w) _) hB
  have hsz := hb.size
  have y0 : w1.cell? ⟨w.heap.size, 0, none⟩ = some (.int .i64 9) := keep_below hB (by simp)
  have y1 : w1.cell? ⟨w.heap.size, 1, none⟩ = some (.int .i64 a) := keep_below hB (by simp)
  go_wp2_with (at_builtin; refine wpList_append_lies (w := _) (hgd := rfl) (s := _) (x := _) (t := _) (ho := rfl) (base := w.heap.size) (e := 3) (i := i0) (z := _) (size := 1) (bytes := 8) (ht := Tryd.underlying32) (hi := hi0) (hz := hz0) (hsize := hz1) (hby := hz2) (hzs := rfl) (hsz := Nat.one_pos) (v := .slice none 0 0) (n := 0) (xs := []) (hs := ?_) (hown := ?_) (ad := ⟨w1.heap.size, 0, none⟩) (m := 1) (c := 1) (news := [.int .i64 a]) (hx := ?_) (hl := ?_) (hnews := ?_) (h1 := ?_) (hm := by omega) (h63 := ?_) (hbytes := ?_) (hbase := ?_) (H := _) (hH := rfl) (h := ?_); (rfl); (exact World.ownsRow_nil _ _ _ _); (rfl); (rfl); (exact World.news_of_block (heap_alloc_new _ _)); (simp [Value.oneCell']); (unfold maxLen; omega); (omega); (first | omega | (simp; omega)); intro gg1 cap1 u1 own1 grow1 hat1 hlt1)
  have hb1 : Below w.heap.size w u1 := (bnew hb _).grown grow1 (by simp; omega) (fun j hj => by simp [Value.ownBlock] at hj)
  have hrow : Row w.heap.size u1 [a] (.slice (some ⟨gg1, 0, none⟩) 1 cap1) := by simpa [Row] using own1
  have CR := Lib.hid (rising_any w.heap.size [a] _ w u1 hrow (by simp) (Nat.le_refl _) hb1)
  clear hrow hb1 hb hB own1 grow1 hat1
  go_wp2_with fail
  refine CR.out.mono ?_
  rintro e w3 ⟨v, rfl, hv, hB2⟩
  go_wp2_with fail
  go_ret
  exact ⟨v, rfl, hv, hB2⟩

set_option maxRecDepth 100000 in
set_option maxHeartbeats 1000000 in
theorem writes_10 (a b c : Int) (cs : List Cs) (d : Bool) (cv : Value) (w : World) (hcs : CRep w cs cv) (hg : goodB ⟨10, a, b, c, cs, d⟩ 100 = true) : Calls Tryd.prog 18 #[.agg #[.int .i64 10, .int .i64 a, .int .i64 b, .int .i64 c, cv, .bool d]] w (RPost w (risingI [])) := by
  have C := good_any ⟨10, a, b, c, cs, d⟩ 100 cv _ (hcs.ext (Ext.alloc w (.cells #[.int .i64 10, .int .i64 a, .int .i64 b, .int .i64 c, cv, .bool d] 36)))
  rw [hg] at C
  have Ch := Lib.hid C
  obtain ⟨i0, hi0, hz0, hz1, hz2⟩ := info_parts Tryd.info3
  obtain ⟨ca, ccap, rfl⟩ := hcs.form
  clear C hg hcs
  go_enter Tryd.func18, Tryd.ntmps18
  go_wp2_with fail
  refine Ch.out.mono ?_
  rintro e w1 ⟨rfl, hB⟩
  have hb := bcall (bnew (Below.refl _ w) _) hB
  have hsz := hb.size
  have y0 : w1.cell? ⟨w.heap.size, 0, none⟩ = some (.int .i64 10) := keep_below hB (by simp)
  have CR := Lib.hid (rising_any w.heap.size [] (.slice none 0 0) w w1 (World.ownsRow_nil _ _ _ _) (by simp) (Nat.le_refl _) hb)
  clear hb hB
  go_wp2_with fail
  refine CR.out.mono ?_
  rintro e w2 ⟨v, rfl, hv, hB2⟩
  go_wp2_with fail
  go_ret
  exact ⟨v, rfl, hv, hB2⟩

set_option maxRecDepth 100000 in
set_option maxHeartbeats 1000000 in
theorem writes_11 (a b c : Int) (cs : List Cs) (d : Bool) (cv : Value) (w : World) (hcs : CRep w cs cv) (hg : goodB ⟨11, a, b, c, cs, d⟩ 100 = true) : Calls Tryd.prog 18 #[.agg #[.int .i64 11, .int .i64 a, .int .i64 b, .int .i64 c, cv, .bool d]] w (RPost w (risingI [c, b])) := by
  have C := good_any ⟨11, a, b, c, cs, d⟩ 100 cv _ (hcs.ext (Ext.alloc w (.cells #[.int .i64 11, .int .i64 a, .int .i64 b, .int .i64 c, cv, .bool d] 36)))
  rw [hg] at C
  have Ch := Lib.hid C
  obtain ⟨i0, hi0, hz0, hz1, hz2⟩ := info_parts Tryd.info3
  obtain ⟨ca, ccap, rfl⟩ := hcs.form
  clear C hg hcs
  go_enter Tryd.func18, Tryd.ntmps18
  go_wp2_with fail
  refine Ch.out.mono ?_
  rintro e w1 ⟨rfl, hB⟩
  have hb := bcall (bnew (Below.refl _ w) _) hB
  have hsz := hb.size
  have y0 : w1.cell? ⟨w.heap.size, 0, none⟩ = some (.int .i64 11) := keep_below hB (by simp)
  have y3 : w1.cell? ⟨w.heap.size, 3, none⟩ = some (.int .i64 c) := keep_below hB (by simp)
  have y2 : w1.cell? ⟨w.heap.size, 2, none⟩ = some (.int .i64 b) := keep_below hB (by simp)
  go_wp2_with (first | (at_builtin; refine wpList_append_lies (w := _) (hgd := rfl) (s := _) (x := _) (t := _) (ho := rfl) (base := w.heap.size) (e := 3) (i := i0) (z := _) (size := 1) (bytes := 8) (ht := Tryd.underlying32) (hi := hi0) (hz := hz0) (hsize := hz1) (hby := hz2) (hzs := rfl) (hsz := Nat.one_pos) (v := .slice none 0 0) (n := 0) (xs := []) (hs := ?_) (hown := ?_) (ad := ⟨w1.heap.size, 0, none⟩) (m := 1) (c := 1) (news := [.int .i64 c]) (hx := ?_) (hl := ?_) (hnews := ?_) (h1 := ?_) (hm := by omega) (h63 := ?_) (hbytes := ?_) (hbase := ?_) (H := _) (hH := rfl) (h := ?_); (rfl); (exact World.ownsRow_nil _ _ _ _); (rfl); (rfl); (exact World.news_of_block (heap_alloc_new _ _)); (simp [Value.oneCell']); (unfold maxLen; omega); (omega); (first | omega | (simp; omega)); intro gg1 cap1 u1 own1 grow1 hat1 hlt1; have hb1 : Below w.heap.size w u1 := (bnew hb _).grown grow1 (by simp; omega) (fun j hj => by simp [Value.ownBlock] at hj); have hs1 := hb1.size; have z2 : u1.cell? ⟨w.heap.size, 2, none⟩ = some (.int .i64 b) := keep_grown grow1 (by simp [Value.ownBlock]) (keep_alloc y2); simp only [Nat.zero_add, List.nil_append] at own1) | (at_builtin; refine wpList_append_lies (w := _) (hgd := rfl) (s := _) (x := _) (t := _) (ho := rfl) (base := w.heap.size) (e := 3) (i := i0) (z := _) (size := 1) (bytes := 8) (ht := Tryd.underlying32) (hi := hi0) (hz := hz0) (hsize := hz1) (hby := hz2) (hzs := rfl) (hsz := Nat.one_pos) (v := .slice (some ⟨gg1, 0, none⟩) 1 cap1) (n := 1) (xs := [.int .i64 c]) (hs := ?_) (hown := ?_) (ad := ⟨u1.heap.size, 0, none⟩) (m := 1) (c := 1) (news := [.int .i64 b]) (hx := ?_) (hl := ?_) (hnews := ?_) (h1 := ?_) (hm := by omega) (h63 := ?_) (hbytes := ?_) (hbase := ?_) (H := _) (hH := rfl) (h := ?_); (rfl); (exact own1.alloc _); (rfl); (rfl); (exact World.news_of_block (heap_alloc_new _ _)); (simp [Value.oneCell']); (unfold maxLen; omega); (omega); (first | omega | (simp; omega)); intro gg2 cap2 u2 own2 grow2 hat2 hlt2))
  have hb2 : Below w.heap.size w u2 := (bnew hb1 _).grown grow2 (by simp; omega) (fun j hj => by { have := (own1.lt j hj).1; omega })
  have hrow : Row w.heap.size u2 [c, b] (.slice (some ⟨gg2, 0, none⟩) 2 cap2) := by simpa [Row] using own2
  have CR := Lib.hid (rising_any w.heap.size [c, b] _ w u2 hrow (by simp) (Nat.le_refl _) hb2)
  clear hrow hb1 hb2 hb hB own1 grow1 hat1 own2 grow2 hat2
  go_wp2_with fail
  refine CR.out.mono ?_
  rintro e w3 ⟨v, rfl, hv, hB2⟩
  go_wp2_with fail
  go_ret
  exact ⟨v, rfl, hv, hB2⟩

set_option maxRecDepth 100000 in
set_option maxHeartbeats 1000000 in
theorem writes_12 (a b c : Int) (cs : List Cs) (d : Bool) (cv : Value) (w : World) (hcs : CRep w cs cv) (hg : goodB ⟨12, a, b, c, cs, d⟩ 100 = true) : Calls Tryd.prog 18 #[.agg #[.int .i64 12, .int .i64 a, .int .i64 b, .int .i64 c, cv, .bool d]] w (RPost w (risingI [])) := by
  have C := good_any ⟨12, a, b, c, cs, d⟩ 100 cv _ (hcs.ext (Ext.alloc w (.cells #[.int .i64 12, .int .i64 a, .int .i64 b, .int .i64 c, cv, .bool d] 36)))
  rw [hg] at C
  have Ch := Lib.hid C
  obtain ⟨i0, hi0, hz0, hz1, hz2⟩ := info_parts Tryd.info3
  obtain ⟨ca, ccap, rfl⟩ := hcs.form
  clear C hg hcs
  go_enter Tryd.func18, Tryd.ntmps18
  go_wp2_with fail
  refine Ch.out.mono ?_
  rintro e w1 ⟨rfl, hB⟩
  have hb := bcall (bnew (Below.refl _ w) _) hB
  have hsz := hb.size
  have y0 : w1.cell? ⟨w.heap.size, 0, none⟩ = some (.int .i64 12) := keep_below hB (by simp)
  have CR := Lib.hid (rising_any w.heap.size [] (.slice none 0 0) w w1 (World.ownsRow_nil _ _ _ _) (by simp) (Nat.le_refl _) hb)
  clear hb hB
  go_wp2_with fail
  refine CR.out.mono ?_
  rintro e w2 ⟨v, rfl, hv, hB2⟩
  go_wp2_with fail
  go_ret
  exact ⟨v, rfl, hv, hB2⟩

set_option maxRecDepth 100000 in
set_option maxHeartbeats 1000000 in
theorem writes_13 (a b c : Int) (cs : List Cs) (d : Bool) (cv : Value) (w : World) (hcs : CRep w cs cv) (hg : goodB ⟨13, a, b, c, cs, d⟩ 100 = true) : Calls Tryd.prog 18 #[.agg #[.int .i64 13, .int .i64 a, .int .i64 b, .int .i64 c, cv, .bool d]] w (RPost w (risingI [b])) := by
  have C := good_any ⟨13, a, b, c, cs, d⟩ 100 cv _ (hcs.ext (Ext.alloc w (.cells #[.int .i64 13, .int .i64 a, .int .i64 b, .int .i64 c, cv, .bool d] 36)))
  rw [hg] at C
  have Ch := Lib.hid C
  obtain ⟨i0, hi0, hz0, hz1, hz2⟩ := info_parts Tryd.info3
  obtain ⟨ca, ccap, rfl⟩ := hcs.form
  clear C hg hcs
  go_enter Tryd.func18, Tryd.ntmps18
  go_wp2_with fail
  refine Ch.out.mono ?_
  rintro e w1 ⟨rfl, hB⟩
  have hb := bcall (bnew (Below.refl _ w) _) hB
  have hsz := hb.size
  have y0 : w1.cell? ⟨w.heap.size, 0, none⟩ = some (.int .i64 13) := keep_below hB (by simp)
  have y2 : w1.cell? ⟨w.heap.size, 2, none⟩ = some (.int .i64 b) := keep_below hB (by simp)
  go_wp2_with (at_builtin; refine wpList_append_lies (w := _) (hgd := rfl) (s := _) (x := _) (t := _) (ho := rfl) (base := w.heap.size) (e := 3) (i := i0) (z := _) (size := 1) (bytes := 8) (ht := Tryd.underlying32) (hi := hi0) (hz := hz0) (hsize := hz1) (hby := hz2) (hzs := rfl) (hsz := Nat.one_pos) (v := .slice none 0 0) (n := 0) (xs := []) (hs := ?_) (hown := ?_) (ad := ⟨w1.heap.size, 0, none⟩) (m := 1) (c := 1) (news := [.int .i64 b]) (hx := ?_) (hl := ?_) (hnews := ?_) (h1 := ?_) (hm := by omega) (h63 := ?_) (hbytes := ?_) (hbase := ?_) (H := _) (hH := rfl) (h := ?_); (rfl); (exact World.ownsRow_nil _ _ _ _); (rfl); (rfl); (exact World.news_of_block (heap_alloc_new _ _)); (simp [Value.oneCell']); (unfold maxLen; omega); (omega); (first | omega | (simp; omega)); intro gg1 cap1 u1 own1 grow1 hat1 hlt1)
  have hb1 : Below w.heap.size w u1 := (bnew hb _).grown grow1 (by simp; omega) (fun j hj => by simp [Value.ownBlock] at hj)
  have hrow : Row w.heap.size u1 [b] (.slice (some ⟨gg1, 0, none⟩) 1 cap1) := by simpa [Row] using own1
  have CR := Lib.hid (rising_any w.heap.size [b] _ w u1 hrow (by simp) (Nat.le_refl _) hb1)
  clear hrow hb1 hb hB own1 grow1 hat1
  go_wp2_with fail
  refine CR.out.mono ?_
  rintro e w3 ⟨v, rfl, hv, hB2⟩
  go_wp2_with fail
  go_ret
  exact ⟨v, rfl, hv, hB2⟩

set_option maxRecDepth 100000 in
set_option maxHeartbeats 1000000 in
theorem writes_14 (a b c : Int) (cs : List Cs) (d : Bool) (cv : Value) (w : World) (hcs : CRep w cs cv) (hg : goodB ⟨14, a, b, c, cs, d⟩ 100 = true) : Calls Tryd.prog 18 #[.agg #[.int .i64 14, .int .i64 a, .int .i64 b, .int .i64 c, cv, .bool d]] w (RPost w (risingI [b])) := by
  have C := good_any ⟨14, a, b, c, cs, d⟩ 100 cv _ (hcs.ext (Ext.alloc w (.cells #[.int .i64 14, .int .i64 a, .int .i64 b, .int .i64 c, cv, .bool d] 36)))
  rw [hg] at C
  have Ch := Lib.hid C
  obtain ⟨i0, hi0, hz0, hz1, hz2⟩ := info_parts Tryd.info3
  obtain ⟨ca, ccap, rfl⟩ := hcs.form
  clear C hg hcs
  go_enter Tryd.func18, Tryd.ntmps18
  go_wp2_with fail
  refine Ch.out.mono ?_
  rintro e w1 ⟨rfl, hB⟩
  have hb := bcall (bnew (Below.refl _ w) _) hB
  have hsz := hb.size
  have y0 : w1.cell? ⟨w.heap.size, 0, none⟩ = some (.int .i64 14) := keep_below hB (by simp)
  have y2 : w1.cell? ⟨w.heap.size, 2, none⟩ = some (.int .i64 b) := keep_below hB (by simp)
  go_wp2_with (at_builtin; refine wpList_append_lies (w := _) (hgd := rfl) (s := _) (x := _) (t := _) (ho := rfl) (base := w.heap.size) (e := 3) (i := i0) (z := _) (size := 1) (bytes := 8) (ht := Tryd.underlying32) (hi := hi0) (hz := hz0) (hsize := hz1) (hby := hz2) (hzs := rfl) (hsz := Nat.one_pos) (v := .slice none 0 0) (n := 0) (xs := []) (hs := ?_) (hown := ?_) (ad := ⟨w1.heap.size, 0, none⟩) (m := 1) (c := 1) (news := [.int .i64 b]) (hx := ?_) (hl := ?_) (hnews := ?_) (h1 := ?_) (hm := by omega) (h63 := ?_) (hbytes := ?_) (hbase := ?_) (H := _) (hH := rfl) (h := ?_); (rfl); (exact World.ownsRow_nil _ _ _ _); (rfl); (rfl); (exact World.news_of_block (heap_alloc_new _ _)); (simp [Value.oneCell']); (unfold maxLen; omega); (omega); (first | omega | (simp; omega)); intro gg1 cap1 u1 own1 grow1 hat1 hlt1)
  have hb1 : Below w.heap.size w u1 := (bnew hb _).grown grow1 (by simp; omega) (fun j hj => by simp [Value.ownBlock] at hj)
  have hrow : Row w.heap.size u1 [b] (.slice (some ⟨gg1, 0, none⟩) 1 cap1) := by simpa [Row] using own1
  have CR := Lib.hid (rising_any w.heap.size [b] _ w u1 hrow (by simp) (Nat.le_refl _) hb1)
  clear hrow hb1 hb hB own1 grow1 hat1
  go_wp2_with fail
  refine CR.out.mono ?_
  rintro e w3 ⟨v, rfl, hv, hB2⟩
  go_wp2_with fail
  go_ret
  exact ⟨v, rfl, hv, hB2⟩

set_option maxRecDepth 100000 in
set_option maxHeartbeats 1000000 in
theorem writes_16 (a b c : Int) (cs : List Cs) (d : Bool) (cv : Value) (w : World) (hcs : CRep w cs cv) (hg : goodB ⟨16, a, b, c, cs, d⟩ 100 = true) : Calls Tryd.prog 18 #[.agg #[.int .i64 16, .int .i64 a, .int .i64 b, .int .i64 c, cv, .bool d]] w (RPost w (risingI [a])) := by
  have C := good_any ⟨16, a, b, c, cs, d⟩ 100 cv _ (hcs.ext (Ext.alloc w (.cells #[.int .i64 16, .int .i64 a, .int .i64 b, .int .i64 c, cv, .bool d] 36)))
  rw [hg] at C
  have Ch := Lib.hid C
  obtain ⟨i0, hi0, hz0, hz1, hz2⟩ := info_parts Tryd.info3
  obtain ⟨ca, ccap, rfl⟩ := hcs.form
  clear C hg hcs
  go_enter Tryd.func18, Tryd.ntmps18
  go_wp2_with fail
  refine Ch.out.mono ?_
  rintro e w1 ⟨rfl, hB⟩
  have hb := bcall (bnew (Below.refl _ w) _) hB
  have hsz := hb.size
  have y0 : w1.cell? ⟨w.heap.size, 0, none⟩ = some (.int .i64 16) := keep_below hB (by simp)
  have y1 : w1.cell? ⟨w.heap.size, 1, none⟩ = some (.int .i64 a) := keep_below hB (by simp)
  go_wp2_with (at_builtin; refine wpList_append_lies (w := _) (hgd := rfl) (s := _) (x := _) (t := _) (ho := rfl) (base := w.heap.size) (e := 3) (i := i0) (z := _) (size := 1) (bytes := 8) (ht := Tryd.underlying32) (hi := hi0) (hz := hz0) (hsize := hz1) (hby := hz2) (hzs := rfl) (hsz := Nat.one_pos) (v := .slice none 0 0) (n := 0) (xs := []) (hs := ?_) (hown := ?_) (ad := ⟨w1.heap.size, 0, none⟩) (m := 1) (c := 1) (news := [.int .i64 a]) (hx := ?_) (hl := ?_) (hnews := ?_) (h1 := ?_) (hm := by omega) (h63 := ?_) (hbytes := ?_) (hbase := ?_) (H := _) (hH := rfl) (h := ?_); (rfl); (exact World.ownsRow_nil _ _ _ _); (rfl); (rfl); (exact World.news_of_block (heap_alloc_new _ _)); (simp [Value.oneCell']); (unfold maxLen; omega); (omega); (first | omega | (simp; omega)); intro gg1 cap1 u1 own1 grow1 hat1 hlt1)
  have hb1 : Below w.heap.size w u1 := (bnew hb _).grown grow1 (by simp; omega) (fun j hj => by simp [Value.ownBlock] at hj)
  have hrow : Row w.heap.size u1 [a] (.slice (some ⟨gg1, 0, none⟩) 1 cap1) := by simpa [Row] using own1
  have CR := Lib.hid (rising_any w.heap.size [a] _ w u1 hrow (by simp) (Nat.le_refl _) hb1)
  clear hrow hb1 hb hB own1 grow1 hat1
  go_wp2_with fail
  refine CR.out.mono ?_
  rintro e w3 ⟨v, rfl, hv, hB2⟩
  go_wp2_with fail
  go_ret
  exact ⟨v, rfl, hv, hB2⟩

set_option maxRecDepth 100000 in
set_option maxHeartbeats 1000000 in
theorem writes_17 (a b c : Int) (cs : List Cs) (d : Bool) (cv : Value) (w : World) (hcs : CRep w cs cv) (hg : goodB ⟨17, a, b, c, cs, d⟩ 100 = true) : Calls Tryd.prog 18 #[.agg #[.int .i64 17, .int .i64 a, .int .i64 b, .int .i64 c, cv, .bool d]] w (RPost w (risingI [c, a])) := by
  have C := good_any ⟨17, a, b, c, cs, d⟩ 100 cv _ (hcs.ext (Ext.alloc w (.cells #[.int .i64 17, .int .i64 a, .int .i64 b, .int .i64 c, cv, .bool d] 36)))
  rw [hg] at C
  have Ch := Lib.hid C
  obtain ⟨i0, hi0, hz0, hz1, hz2⟩ := info_parts Tryd.info3
  obtain ⟨ca, ccap, rfl⟩ := hcs.form
  clear C hg hcs
  go_enter Tryd.func18, Tryd.ntmps18
  go_wp2_with fail
  refine Ch.out.mono ?_
  rintro e w1 ⟨rfl, hB⟩
  have hb := bcall (bnew (Below.refl _ w) _) hB
  have hsz := hb.size
  have y0 : w1.cell? ⟨w.heap.size, 0, none⟩ = some (.int .i64 17) := keep_below hB (by simp)
  have y3 : w1.cell? ⟨w.heap.size, 3, none⟩ = some (.int .i64 c) := keep_below hB (by simp)
  have y1 : w1.cell? ⟨w.heap.size, 1, none⟩ = some (.int .i64 a) := keep_below hB (by simp)
  go_wp2_with (first | (at_builtin; refine wpList_append_lies (w := _) (hgd := rfl) (s := _) (x := _) (t := _) (ho := rfl) (base := w.heap.size) (e := 3) (i := i0) (z := _) (size := 1) (bytes := 8) (ht := Tryd.underlying32) (hi := hi0) (hz := hz0) (hsize := hz1) (hby := hz2) (hzs := rfl) (hsz := Nat.one_pos) (v := .slice none 0 0) (n := 0) (xs := []) (hs := ?_) (hown := ?_) (ad := ⟨w1.heap.size, 0, none⟩) (m := 1) (c := 1) (news := [.int .i64 c]) (hx := ?_) (hl := ?_) (hnews := ?_) (h1 := ?_) (hm := by omega) (h63 := ?_) (hbytes := ?_) (hbase := ?_) (H := _) (hH := rfl) (h := ?_); (rfl); (exact World.ownsRow_nil _ _ _ _); (rfl); (rfl); (exact World.news_of_block (heap_alloc_new _ _)); (simp [Value.oneCell']); (unfold maxLen; omega); (omega); (first | omega | (simp; omega)); intro gg1 cap1 u1 own1 grow1 hat1 hlt1; have hb1 : Below w.heap.size w u1 := (bnew hb _).grown grow1 (by simp; omega) (fun j hj => by simp [Value.ownBlock] at hj); have hs1 := hb1.size; have z1 : u1.cell? ⟨w.heap.size, 1, none⟩ = some (.int .i64 a) := keep_grown grow1 (by simp [Value.ownBlock]) (keep_alloc y1); simp only [Nat.zero_add, List.nil_append] at own1) | (at_builtin; refine wpList_append_lies (w := _) (hgd := rfl) (s := _) (x := _) (t := _) (ho := rfl) (base := w.heap.size) (e := 3) (i := i0) (z := _) (size := 1) (bytes := 8) (ht := Tryd.underlying32) (hi := hi0) (hz := hz0) (hsize := hz1) (hby := hz2) (hzs := rfl) (hsz := Nat.one_pos) (v := .slice (some ⟨gg1, 0, none⟩) 1 cap1) (n := 1) (xs := [.int .i64 c]) (hs := ?_) (hown := ?_) (ad := ⟨u1.heap.size, 0, none⟩) (m := 1) (c := 1) (news := [.int .i64 a]) (hx := ?_) (hl := ?_) (hnews := ?_) (h1 := ?_) (hm := by omega) (h63 := ?_) (hbytes := ?_) (hbase := ?_) (H := _) (hH := rfl) (h := ?_); (rfl); (exact own1.alloc _); (rfl); (rfl); (exact World.news_of_block (heap_alloc_new _ _)); (simp [Value.oneCell']); (unfold maxLen; omega); (omega); (first | omega | (simp; omega)); intro gg2 cap2 u2 own2 grow2 hat2 hlt2))
  have hb2 : Below w.heap.size w u2 := (bnew hb1 _).grown grow2 (by simp; omega) (fun j hj => by { have := (own1.lt j hj).1; omega })
  have hrow : Row w.heap.size u2 [c, a] (.slice (some ⟨gg2, 0, none⟩) 2 cap2) := by simpa [Row] using own2
  have CR := Lib.hid (rising_any w.heap.size [c, a] _ w u2 hrow (by simp) (Nat.le_refl _) hb2)
  clear hrow hb1 hb2 hb hB own1 grow1 hat1 own2 grow2 hat2
  go_wp2_with fail
  refine CR.out.mono ?_
  rintro e w3 ⟨v, rfl, hv, hB2⟩
  go_wp2_with fail
  go_ret
  exact ⟨v, rfl, hv, hB2⟩

set_option maxRecDepth 100000 in
set_option maxHeartbeats 1000000 in
theorem writes_18 (a b c : Int) (cs : List Cs) (d : Bool) (cv : Value) (w : World) (hcs : CRep w cs cv) (hg : goodB ⟨18, a, b, c, cs, d⟩ 100 = true) : Calls Tryd.prog 18 #[.agg #[.int .i64 18, .int .i64 a, .int .i64 b, .int .i64 c, cv, .bool d]] w (RPost w (risingI [c, a])) := by
  have C := good_any ⟨18, a, b, c, cs, d⟩ 100 cv _ (hcs.ext (Ext.alloc w (.cells #[.int .i64 18, .int .i64 a, .int .i64 b, .int .i64 c, cv, .bool d] 36)))
  rw [hg] at C
  have Ch := Lib.hid C
  obtain ⟨i0, hi0, hz0, hz1, hz2⟩ := info_parts Tryd.info3
  obtain ⟨ca, ccap, rfl⟩ := hcs.form
  clear C hg hcs
  go_enter Tryd.func18, Tryd.ntmps18
  go_wp2_with fail
  refine Ch.out.mono ?_
  rintro e w1 ⟨rfl, hB⟩
  have hb := bcall (bnew (Below.refl _ w) _) hB
  have hsz := hb.size
  have y0 : w1.cell? ⟨w.heap.size, 0, none⟩ = some (.int .i64 18) := keep_below hB (by simp)
  have y3 : w1.cell? ⟨w.heap.size, 3, none⟩ = some (.int .i64 c) := keep_below hB (by simp)
  have y1 : w1.cell? ⟨w.heap.size, 1, none⟩ = some (.int .i64 a) := keep_below hB (by simp)
  go_wp2_with (first | (at_builtin; refine wpList_append_lies (w := _) (hgd := rfl) (s := _) (x := _) (t := _) (ho := rfl) (base := w.heap.size) (e := 3) (i := i0) (z := _) (size := 1) (bytes := 8) (ht := Tryd.underlying32) (hi := hi0) (hz := hz0) (hsize := hz1) (hby := hz2) (hzs := rfl) (hsz := Nat.one_pos) (v := .slice none 0 0) (n := 0) (xs := []) (hs := ?_) (hown := ?_) (ad := ⟨w1.heap.size, 0, none⟩) (m := 1) (c := 1) (news := [.int .i64 c]) (hx := ?_) (hl := ?_) (hnews := ?_) (h1 := ?_) (hm := by omega) (h63 := ?_) (hbytes := ?_) (hbase := ?_) (H := _) (hH := rfl) (h := ?_); (rfl); (exact World.ownsRow_nil _ _ _ _); (rfl); (rfl); (exact World.news_of_block (heap_alloc_new _ _)); (simp [Value.oneCell']); (unfold maxLen; omega); (omega); (first | omega | (simp; omega)); intro gg1 cap1 u1 own1 grow1 hat1 hlt1; have hb1 : Below w.heap.size w u1 := (bnew hb _).grown grow1 (by simp; omega) (fun j hj => by simp [Value.ownBlock] at hj); have hs1 := hb1.size; have z1 : u1.cell? ⟨w.heap.size, 1, none⟩ = some (.int .i64 a) := keep_grown grow1 (by simp [Value.ownBlock]) (keep_alloc y1); simp only [Nat.zero_add, List.nil_append] at own1) | (at_builtin; refine wpList_append_lies (w := _) (hgd := rfl) (s := _) (x := _) (t := _) (ho := rfl) (base := w.heap.size) (e := 3) (i := i0) (z := _) (size := 1) (bytes := 8) (ht := Tryd.underlying32) (hi := hi0) (hz := hz0) (hsize := hz1) (hby := hz2) (hzs := rfl) (hsz := Nat.one_pos) (v := .slice (some ⟨gg1, 0, none⟩) 1 cap1) (n := 1) (xs := [.int .i64 c]) (hs := ?_) (hown := ?_) (ad := ⟨u1.heap.size, 0, none⟩) (m := 1) (c := 1) (news := [.int .i64 a]) (hx := ?_) (hl := ?_) (hnews := ?_) (h1 := ?_) (hm := by omega) (h63 := ?_) (hbytes := ?_) (hbase := ?_) (H := _) (hH := rfl) (h := ?_); (rfl); (exact own1.alloc _); (rfl); (rfl); (exact World.news_of_block (heap_alloc_new _ _)); (simp [Value.oneCell']); (unfold maxLen; omega); (omega); (first | omega | (simp; omega)); intro gg2 cap2 u2 own2 grow2 hat2 hlt2))
  have hb2 : Below w.heap.size w u2 := (bnew hb1 _).grown grow2 (by simp; omega) (fun j hj => by { have := (own1.lt j hj).1; omega })
  have hrow : Row w.heap.size u2 [c, a] (.slice (some ⟨gg2, 0, none⟩) 2 cap2) := by simpa [Row] using own2
  have CR := Lib.hid (rising_any w.heap.size [c, a] _ w u2 hrow (by simp) (Nat.le_refl _) hb2)
  clear hrow hb1 hb2 hb hB own1 grow1 hat1 own2 grow2 hat2
  go_wp2_with fail
  refine CR.out.mono ?_
  rintro e w3 ⟨v, rfl, hv, hB2⟩
  go_wp2_with fail
  go_ret
  exact ⟨v, rfl, hv, hB2⟩

set_option maxRecDepth 100000 in
set_option maxHeartbeats 1000000 in
theorem writes_19 (a b c : Int) (cs : List Cs) (d : Bool) (cv : Value) (w : World) (hcs : CRep w cs cv) (hg : goodB ⟨19, a, b, c, cs, d⟩ 100 = true) : Calls Tryd.prog 18 #[.agg #[.int .i64 19, .int .i64 a, .int .i64 b, .int .i64 c, cv, .bool d]] w (RPost w (risingI [a])) := by
  have C := good_any ⟨19, a, b, c, cs, d⟩ 100 cv _ (hcs.ext (Ext.alloc w (.cells #[.int .i64 19, .int .i64 a, .int .i64 b, .int .i64 c, cv, .bool d] 36)))
  rw [hg] at C
  have Ch := Lib.hid C
  obtain ⟨i0, hi0, hz0, hz1, hz2⟩ := info_parts Tryd.info3
  obtain ⟨ca, ccap, rfl⟩ := hcs.form
  clear C hg hcs
  go_enter Tryd.func18, Tryd.ntmps18
  go_wp2_with fail
  refine Ch.out.mono ?_
  rintro e w1 ⟨rfl, hB⟩
  have hb := bcall (bnew (Below.refl _ w) _) hB
  have hsz := hb.size
  have y0 : w1.cell? ⟨w.heap.size, 0, none⟩ = some (.int .i64 19) := keep_below hB (by simp)
  have y1 : w1.cell? ⟨w.heap.size, 1, none⟩ = some (.int .i64 a) := keep_below hB (by simp)
  go_wp2_with (at_builtin; refine wpList_append_lies (w := _) (hgd := rfl) (s := _) (x := _) (t := _) (ho := rfl) (base := w.heap.size) (e := 3) (i := i0) (z := _) (size := 1) (bytes := 8) (ht := Tryd.underlying32) (hi := hi0) (hz := hz0) (hsize := hz1) (hby := hz2) (hzs := rfl) (hsz := Nat.one_pos) (v := .slice none 0 0) (n := 0) (xs := []) (hs := ?_) (hown := ?_) (ad := ⟨w1.heap.size, 0, none⟩) (m := 1) (c := 1) (news := [.int .i64 a]) (hx := ?_) (hl := ?_) (hnews := ?_) (h1 := ?_) (hm := by omega) (h63 := ?_) (hbytes := ?_) (hbase := ?_) (H := _) (hH := rfl) (h := ?_); (rfl); (exact World.ownsRow_nil _ _ _ _); (rfl); (rfl); (exact World.news_of_block (heap_alloc_new _ _)); (simp [Value.oneCell']); (unfold maxLen; omega); (omega); (first | omega | (simp; omega)); intro gg1 cap1 u1 own1 grow1 hat1 hlt1)
  have hb1 : Below w.heap.size w u1 := (bnew hb _).grown grow1 (by simp; omega) (fun j hj => by simp [Value.ownBlock] at hj)
  have hrow : Row w.heap.size u1 [a] (.slice (some ⟨gg1, 0, none⟩) 1 cap1) := by simpa [Row] using own1
  have CR := Lib.hid (rising_any w.heap.size [a] _ w u1 hrow (by simp) (Nat.le_refl _) hb1)
  clear hrow hb1 hb hB own1 grow1 hat1
  go_wp2_with fail
  refine CR.out.mono ?_
  rintro e w3 ⟨v, rfl, hv, hB2⟩
  go_wp2_with fail
  go_ret
  exact ⟨v, rfl, hv, hB2⟩

set_option maxRecDepth 100000 in
set_option maxHeartbeats 1000000 in
theorem writes_20 (a b c : Int) (cs : List Cs) (d : Bool) (cv : Value) (w : World) (hcs : CRep w cs cv) (hg : goodB ⟨20, a, b, c, cs, d⟩ 100 = true) : Calls Tryd.prog 18 #[.agg #[.int .i64 20, .int .i64 a, .int .i64 b, .int .i64 c, cv, .bool d]] w (RPost w (risingI [b])) := by
  have C := good_any ⟨20, a, b, c, cs, d⟩ 100 cv _ (hcs.ext (Ext.alloc w (.cells #[.int .i64 20, .int .i64 a, .int .i64 b, .int .i64 c, cv, .bool d] 36)))
  rw [hg] at C
  have Ch := Lib.hid C
  obtain ⟨i0, hi0, hz0, hz1, hz2⟩ := info_parts Tryd.info3
  obtain ⟨ca, ccap, rfl⟩ := hcs.form
  clear C hg hcs
  go_enter Tryd.func18, Tryd.ntmps18
  go_wp2_with fail
  refine Ch.out.mono ?_
  rintro e w1 ⟨rfl, hB⟩
  have hb := bcall (bnew (Below.refl _ w) _) hB
  have hsz := hb.size
  have y0 : w1.cell? ⟨w.heap.size, 0, none⟩ = some (.int .i64 20) := keep_below hB (by simp)
  have y2 : w1.cell? ⟨w.heap.size, 2, none⟩ = some (.int .i64 b) := keep_below hB (by simp)
  go_wp2_with (at_builtin; refine wpList_append_lies (w := _) (hgd := rfl) (s := _) (x := _) (t := _) (ho := rfl) (base := w.heap.size) (e := 3) (i := i0) (z := _) (size := 1) (bytes := 8) (ht := Tryd.underlying32) (hi := hi0) (hz := hz0) (hsize := hz1) (hby := hz2) (hzs := rfl) (hsz := Nat.one_pos) (v := .slice none 0 0) (n := 0) (xs := []) (hs := ?_) (hown := ?_) (ad := ⟨w1.heap.size, 0, none⟩) (m := 1) (c := 1) (news := [.int .i64 b]) (hx := ?_) (hl := ?_) (hnews := ?_) (h1 := ?_) (hm := by omega) (h63 := ?_) (hbytes := ?_) (hbase := ?_) (H := _) (hH := rfl) (h := ?_); (rfl); (exact World.ownsRow_nil _ _ _ _); (rfl); (rfl); (exact World.news_of_block (heap_alloc_new _ _)); (simp [Value.oneCell']); (unfold maxLen; omega); (omega); (first | omega | (simp; omega)); intro gg1 cap1 u1 own1 grow1 hat1 hlt1)
  have hb1 : Below w.heap.size w u1 := (bnew hb _).grown grow1 (by simp; omega) (fun j hj => by simp [Value.ownBlock] at hj)
  have hrow : Row w.heap.size u1 [b] (.slice (some ⟨gg1, 0, none⟩) 1 cap1) := by simpa [Row] using own1
  have CR := Lib.hid (rising_any w.heap.size [b] _ w u1 hrow (by simp) (Nat.le_refl _) hb1)
  clear hrow hb1 hb hB own1 grow1 hat1
  go_wp2_with fail
  refine CR.out.mono ?_
  rintro e w3 ⟨v, rfl, hv, hB2⟩
  go_wp2_with fail
  go_ret
  exact ⟨v, rfl, hv, hB2⟩

set_option maxRecDepth 100000 in
set_option maxHeartbeats 1000000 in
theorem writes_21 (a b c : Int) (cs : List Cs) (d : Bool) (cv : Value) (w : World) (hcs : CRep w cs cv) (hg : goodB ⟨21, a, b, c, cs, d⟩ 100 = true) : Calls Tryd.prog 18 #[.agg #[.int .i64 21, .int .i64 a, .int .i64 b, .int .i64 c, cv, .bool d]] w (RPost w (risingI [c])) := by
  have C := good_any ⟨21, a, b, c, cs, d⟩ 100 cv _ (hcs.ext (Ext.alloc w (.cells #[.int .i64 21, .int .i64 a, .int .i64 b, .int .i64 c, cv, .bool d] 36)))
  rw [hg] at C
  have Ch := Lib.hid C
  obtain ⟨i0, hi0, hz0, hz1, hz2⟩ := info_parts Tryd.info3
  obtain ⟨ca, ccap, rfl⟩ := hcs.form
  clear C hg hcs
  go_enter Tryd.func18, Tryd.ntmps18
  go_wp2_with fail
  refine Ch.out.mono ?_
  rintro e w1 ⟨rfl, hB⟩
  have hb := bcall (bnew (Below.refl _ w) _) hB
  have hsz := hb.size
  have y0 : w1.cell? ⟨w.heap.size, 0, none⟩ = some (.int .i64 21) := keep_below hB (by simp)
  have y3 : w1.cell? ⟨w.heap.size, 3, none⟩ = some (.int .i64 c) := keep_below hB (by simp)
  go_wp2_with (at_builtin; refine wpList_append_lies (w := _) (hgd := rfl) (s := _) (x := _) (t := _) (ho := rfl) (base := w.heap.size) (e := 3) (i := i0) (z := _) (size := 1) (bytes := 8) (ht := Tryd.underlying32) (hi := hi0) (hz := hz0) (hsize := hz1) (hby := hz2) (hzs := rfl) (hsz := Nat.one_pos) (v := .slice none 0 0) (n := 0) (xs := []) (hs := ?_) (hown := ?_) (ad := ⟨w1.heap.size, 0, none⟩) (m := 1) (c := 1) (news := [.int .i64 c]) (hx := ?_) (hl := ?_) (hnews := ?_) (h1 := ?_) (hm := by omega) (h63 := ?_) (hbytes := ?_) (hbase := ?_) (H := _) (hH := rfl) (h := ?_); (rfl); (exact World.ownsRow_nil _ _ _ _); (rfl); (rfl); (exact World.news_of_block (heap_alloc_new _ _)); (simp [Value.oneCell']); (unfold maxLen; omega); (omega); (first | omega | (simp; omega)); intro gg1 cap1 u1 own1 grow1 hat1 hlt1)
  have hb1 : Below w.heap.size w u1 := (bnew hb _).grown grow1 (by simp; omega) (fun j hj => by simp [Value.ownBlock] at hj)
  have hrow : Row w.heap.size u1 [c] (.slice (some ⟨gg1, 0, none⟩) 1 cap1) := by simpa [Row] using own1
  have CR := Lib.hid (rising_any w.heap.size [c] _ w u1 hrow (by simp) (Nat.le_refl _) hb1)
  clear hrow hb1 hb hB own1 grow1 hat1
  go_wp2_with fail
  refine CR.out.mono ?_
  rintro e w3 ⟨v, rfl, hv, hB2⟩
  go_wp2_with fail
  go_ret
  exact ⟨v, rfl, hv, hB2⟩

set_option maxRecDepth 100000 in
set_option maxHeartbeats 1000000 in
theorem writes_22 (a b c : Int) (cs : List Cs) (d : Bool) (cv : Value) (w : World) (hcs : CRep w cs cv) (hg : goodB ⟨22, a, b, c, cs, d⟩ 100 = true) : Calls Tryd.prog 18 #[.agg #[.int .i64 22, .int .i64 a, .int .i64 b, .int .i64 c, cv, .bool d]] w (RPost w (risingI [a])) := by
  have C := good_any ⟨22, a, b, c, cs, d⟩ 100 cv _ (hcs.ext (Ext.alloc w (.cells #[.int .i64 22, .int .i64 a, .int .i64 b, .int .i64 c, cv, .bool d] 36)))
  rw [hg] at C
  have Ch := Lib.hid C
  obtain ⟨i0, hi0, hz0, hz1, hz2⟩ := info_parts Tryd.info3
  obtain ⟨ca, ccap, rfl⟩ := hcs.form
  clear C hg hcs
  go_enter Tryd.func18, Tryd.ntmps18
  go_wp2_with fail
  refine Ch.out.mono ?_
  rintro e w1 ⟨rfl, hB⟩
  have hb := bcall (bnew (Below.refl _ w) _) hB
  have hsz := hb.size
  have y0 : w1.cell? ⟨w.heap.size, 0, none⟩ = some (.int .i64 22) := keep_below hB (by simp)
  have y1 : w1.cell? ⟨w.heap.size, 1, none⟩ = some (.int .i64 a) := keep_below hB (by simp)
  go_wp2_with (at_builtin; refine wpList_append_lies (w := _) (hgd := rfl) (s := _) (x := _) (t := _) (ho := rfl) (base := w.heap.size) (e := 3) (i := i0) (z := _) (size := 1) (bytes := 8) (ht := Tryd.underlying32) (hi := hi0) (hz := hz0) (hsize := hz1) (hby := hz2) (hzs := rfl) (hsz := Nat.one_pos) (v := .slice none 0 0) (n := 0) (xs := []) (hs := ?_) (hown := ?_) (ad := ⟨w1.heap.size, 0, none⟩) (m := 1) (c := 1) (news := [.int .i64 a]) (hx := ?_) (hl := ?_) (hnews := ?_) (h1 := ?_) (hm := by omega) (h63 := ?_) (hbytes := ?_) (hbase := ?_) (H := _) (hH := rfl) (h := ?_); (rfl); (exact World.ownsRow_nil _ _ _ _); (rfl); (rfl); (exact World.news_of_block (heap_alloc_new _ _)); (simp [Value.oneCell']); (unfold maxLen; omega); (omega); (first | omega | (simp; omega)); intro gg1 cap1 u1 own1 grow1 hat1 hlt1)
  have hb1 : Below w.heap.size w u1 := (bnew hb _).grown grow1 (by simp; omega) (fun j hj => by simp [Value.ownBlock] at hj)
  have hrow : Row w.heap.size u1 [a] (.slice (some ⟨gg1, 0, none⟩) 1 cap1) := by simpa [Row] using own1
  have CR := Lib.hid (rising_any w.heap.size [a] _ w u1 hrow (by simp) (Nat.le_refl _) hb1)
  clear hrow hb1 hb hB own1 grow1 hat1
  go_wp2_with fail
  refine CR.out.mono ?_
  rintro e w3 ⟨v, rfl, hv, hB2⟩
  go_wp2_with fail
  go_ret
  exact ⟨v, rfl, hv, hB2⟩

set_option maxRecDepth 100000 in
set_option maxHeartbeats 1000000 in
theorem writes_23 (a b c : Int) (cs : List Cs) (d : Bool) (cv : Value) (w : World) (hcs : CRep w cs cv) (hg : goodB ⟨23, a, b, c, cs, d⟩ 100 = true) : Calls Tryd.prog 18 #[.agg #[.int .i64 23, .int .i64 a, .int .i64 b, .int .i64 c, cv, .bool d]] w (RPost w (risingI [a])) := by
  have C := good_any ⟨23, a, b, c, cs, d⟩ 100 cv _ (hcs.ext (Ext.alloc w (.cells #[.int .i64 23, .int .i64 a, .int .i64 b, .int .i64 c, cv, .bool d] 36)))
  rw [hg] at C
  have Ch := Lib.hid C
  obtain ⟨i0, hi0, hz0, hz1, hz2⟩ := info_parts Tryd.info3
  obtain ⟨ca, ccap, rfl⟩ := hcs.form
  clear C hg hcs
  go_enter Tryd.func18, Tryd.ntmps18
  go_wp2_with fail
  refine Ch.out.mono ?_
  rintro e w1 ⟨rfl, hB⟩
  have hb := bcall (bnew (Below.refl _ w) _) hB
  have hsz := hb.size
  have y0 : w1.cell? ⟨w.heap.size, 0, none⟩ = some (.int .i64 23) := keep_below hB (by simp)
  have y1 : w1.cell? ⟨w.heap.size, 1, none⟩ = some (.int .i64 a) := keep_below hB (by simp)
  go_wp2_with (at_builtin; refine wpList_append_lies (w := _) (hgd := rfl) (s := _) (x := _) (t := _) (ho := rfl) (base := w.heap.size) (e := 3) (i := i0) (z := _) (size := 1) (bytes := 8) (ht := Tryd.underlying32) (hi := hi0) (hz := hz0) (hsize := hz1) (hby := hz2) (hzs := rfl) (hsz := Nat.one_pos) (v := .slice none 0 0) (n := 0) (xs := []) (hs := ?_) (hown := ?_) (ad := ⟨w1.heap.size, 0, none⟩) (m := 1) (c := 1) (news := [.int .i64 a]) (hx := ?_) (hl := ?_) (hnews := ?_) (h1 := ?_) (hm := by omega) (h63 := ?_) (hbytes := ?_) (hbase := ?_) (H := _) (hH := rfl) (h := ?_); (rfl); (exact World.ownsRow_nil _ _ _ _); (rfl); (rfl); (exact World.news_of_block (heap_alloc_new _ _)); (simp [Value.oneCell']); (unfold maxLen; omega); (omega); (first | omega | (simp; omega)); intro gg1 cap1 u1 own1 grow1 hat1 hlt1)
  have hb1 : Below w.heap.size w u1 := (bnew hb _).grown grow1 (by simp; omega) (fun j hj => by simp [Value.ownBlock] at hj)
  have hrow : Row w.heap.size u1 [a] (.slice (some ⟨gg1, 0, none⟩) 1 cap1) := by simpa [Row] using own1
  have CR := Lib.hid (rising_any w.heap.size [a] _ w u1 hrow (by simp) (Nat.le_refl _) hb1)
  clear hrow hb1 hb hB own1 grow1 hat1
  go_wp2_with fail
  refine CR.out.mono ?_
  rintro e w3 ⟨v, rfl, hv, hB2⟩
  go_wp2_with fail
  go_ret
  exact ⟨v, rfl, hv, hB2⟩

set_option maxRecDepth 100000 in
set_option maxHeartbeats 1000000 in
theorem writes_24 (a b c : Int) (cs : List Cs) (d : Bool) (cv : Value) (w : World) (hcs : CRep w cs cv) (hg : goodB ⟨24, a, b, c, cs, d⟩ 100 = true) : Calls Tryd.prog 18 #[.agg #[.int .i64 24, .int .i64 a, .int .i64 b, .int .i64 c, cv, .bool d]] w (RPost w (risingI [a])) := by
  have C := good_any ⟨24, a, b, c, cs, d⟩ 100 cv _ (hcs.ext (Ext.alloc w (.cells #[.int .i64 24, .int .i64 a, .int .i64 b, .int .i64 c, cv, .bool d] 36)))
  rw [hg] at C
  have Ch := Lib.hid C
  obtain ⟨i0, hi0, hz0, hz1, hz2⟩ := info_parts Tryd.info3
  obtain ⟨ca, ccap, rfl⟩ := hcs.form
  clear C hg hcs
  go_enter Tryd.func18, Tryd.ntmps18
  go_wp2_with fail
  refine Ch.out.mono ?_
  rintro e w1 ⟨rfl, hB⟩
  have hb := bcall (bnew (Below.refl _ w) _) hB
  have hsz := hb.size
  have y0 : w1.cell? ⟨w.heap.size, 0, none⟩ = some (.int .i64 24) := keep_below hB (by simp)
  have y1 : w1.cell? ⟨w.heap.size, 1, none⟩ = some (.int .i64 a) := keep_below hB (by simp)
  go_wp2_with (at_builtin; refine wpList_append_lies (w := _) (hgd := rfl) (s := _) (x := _) (t := _) (ho := rfl) (base := w.heap.size) (e := 3) (i := i0) (z := _) (size := 1) (bytes := 8) (ht := Tryd.underlying32) (hi := hi0) (hz := hz0) (hsize := hz1) (hby := hz2) (hzs := rfl) (hsz := Nat.one_pos) (v := .slice none 0 0) (n := 0) (xs := []) (hs := ?_) (hown := ?_) (ad := ⟨w1.heap.size, 0, none⟩) (m := 1) (c := 1) (news := [.int .i64 a]) (hx := ?_) (hl := ?_) (hnews := ?_) (h1 := ?_) (hm := by omega) (h63 := ?_) (hbytes := ?_) (hbase := ?_) (H := _) (hH := rfl) (h := ?_); (rfl); (exact World.ownsRow_nil _ _ _ _); (rfl); (rfl); (exact World.news_of_block (heap_alloc_new _ _)); (simp [Value.oneCell']); (unfold maxLen; omega); (omega); (first | omega | (simp; omega)); intro gg1 cap1 u1 own1 grow1 hat1 hlt1)
  have hb1 : Below w.heap.size w u1 := (bnew hb _).grown grow1 (by simp; omega) (fun j hj => by simp [Value.ownBlock] at hj)
  have hrow : Row w.heap.size u1 [a] (.slice (some ⟨gg1, 0, none⟩) 1 cap1) := by simpa [Row] using own1
  have CR := Lib.hid (rising_any w.heap.size [a] _ w u1 hrow (by simp) (Nat.le_refl _) hb1)
  clear hrow hb1 hb hB own1 grow1 hat1
  go_wp2_with fail
  refine CR.out.mono ?_
  rintro e w3 ⟨v, rfl, hv, hB2⟩
  go_wp2_with fail
  go_ret
  exact ⟨v, rfl, hv, hB2⟩

set_option maxRecDepth 100000 in
set_option maxHeartbeats 1000000 in
theorem writes_25 (a b c : Int) (cs : List Cs) (d : Bool) (cv : Value) (w : World) (hcs : CRep w cs cv) (hg : goodB ⟨25, a, b, c, cs, d⟩ 100 = true) : Calls Tryd.prog 18 #[.agg #[.int .i64 25, .int .i64 a, .int .i64 b, .int .i64 c, cv, .bool d]] w (RPost w (risingI [a])) := by
  have C := good_any ⟨25, a, b, c, cs, d⟩ 100 cv _ (hcs.ext (Ext.alloc w (.cells #[.int .i64 25, .int .i64 a, .int .i64 b, .int .i64 c, cv, .bool d] 36)))
  rw [hg] at C
  have Ch := Lib.hid C
  obtain ⟨i0, hi0, hz0, hz1, hz2⟩ := info_parts Tryd.info3
  obtain ⟨ca, ccap, rfl⟩ := hcs.form
  clear C hg hcs
  go_enter Tryd.func18, Tryd.ntmps18
  go_wp2_with fail
  refine Ch.out.mono ?_
  rintro e w1 ⟨rfl, hB⟩
  have hb := bcall (bnew (Below.refl _ w) _) hB
  have hsz := hb.size
  have y0 : w1.cell? ⟨w.heap.size, 0, none⟩ = some (.int .i64 25) := keep_below hB (by simp)
  have y1 : w1.cell? ⟨w.heap.size, 1, none⟩ = some (.int .i64 a) := keep_below hB (by simp)
  go_wp2_with (at_builtin; refine wpList_append_lies (w := _) (hgd := rfl) (s := _) (x := _) (t := _) (ho := rfl) (base := w.heap.size) (e := 3) (i := i0) (z := _) (size := 1) (bytes := 8) (ht := Tryd.underlying32) (hi := hi0) (hz := hz0) (hsize := hz1) (hby := hz2) (hzs := rfl) (hsz := Nat.one_pos) (v := .slice none 0 0) (n := 0) (xs := []) (hs := ?_) (hown := ?_) (ad := ⟨w1.heap.size, 0, none⟩) (m := 1) (c := 1) (news := [.int .i64 a]) (hx := ?_) (hl := ?_) (hnews := ?_) (h1 := ?_) (hm := by omega) (h63 := ?_) (hbytes := ?_) (hbase := ?_) (H := _) (hH := rfl) (h := ?_); (rfl); (exact World.ownsRow_nil _ _ _ _); (rfl); (rfl); (exact World.news_of_block (heap_alloc_new _ _)); (simp [Value.oneCell']); (unfold maxLen; omega); (omega); (first | omega | (simp; omega)); intro gg1 cap1 u1 own1 grow1 hat1 hlt1)
  have hb1 : Below w.heap.size w u1 := (bnew hb _).grown grow1 (by simp; omega) (fun j hj => by simp [Value.ownBlock] at hj)
  have hrow : Row w.heap.size u1 [a] (.slice (some ⟨gg1, 0, none⟩) 1 cap1) := by simpa [Row] using own1
  have CR := Lib.hid (rising_any w.heap.size [a] _ w u1 hrow (by simp) (Nat.le_refl _) hb1)
  clear hrow hb1 hb hB own1 grow1 hat1
  go_wp2_with fail
  refine CR.out.mono ?_
  rintro e w3 ⟨v, rfl, hv, hB2⟩
  go_wp2_with fail
  go_ret
  exact ⟨v, rfl, hv, hB2⟩

set_option maxRecDepth 100000 in
set_option maxHeartbeats 1000000 in
theorem writes_26 (a b c : Int) (cs : List Cs) (d : Bool) (cv : Value) (w : World) (hcs : CRep w cs cv) (hg : goodB ⟨26, a, b, c, cs, d⟩ 100 = true) : Calls Tryd.prog 18 #[.agg #[.int .i64 26, .int .i64 a, .int .i64 b, .int .i64 c, cv, .bool d]] w (RPost w (risingI [])) := by
  have C := good_any ⟨26, a, b, c, cs, d⟩ 100 cv _ (hcs.ext (Ext.alloc w (.cells #[.int .i64 26, .int .i64 a, .int .i64 b, .int .i64 c, cv, .bool d] 36)))
  rw [hg] at C
  have Ch := Lib.hid C
  obtain ⟨i0, hi0, hz0, hz1, hz2⟩ := info_parts Tryd.info3
  obtain ⟨ca, ccap, rfl⟩ := hcs.form
  clear C hg hcs
  go_enter Tryd.func18, Tryd.ntmps18
  go_wp2_with fail
  refine Ch.out.mono ?_
  rintro e w1 ⟨rfl, hB⟩
  have hb := bcall (bnew (Below.refl _ w) _) hB
  have hsz := hb.size
  have y0 : w1.cell? ⟨w.heap.size, 0, none⟩ = some (.int .i64 26) := keep_below hB (by simp)
  have CR := Lib.hid (rising_any w.heap.size [] (.slice none 0 0) w w1 (World.ownsRow_nil _ _ _ _) (by simp) (Nat.le_refl _) hb)
  clear hb hB
  go_wp2_with fail
  refine CR.out.mono ?_
  rintro e w2 ⟨v, rfl, hv, hB2⟩
  go_wp2_with fail
  go_ret
  exact ⟨v, rfl, hv, hB2⟩

set_option maxRecDepth 100000 in
set_option maxHeartbeats 1000000 in
theorem writes_27 (a b c : Int) (cs : List Cs) (d : Bool) (cv : Value) (w : World) (hcs : CRep w cs cv) (hg : goodB ⟨27, a, b, c, cs, d⟩ 100 = true) : Calls Tryd.prog 18 #[.agg #[.int .i64 27, .int .i64 a, .int .i64 b, .int .i64 c, cv, .bool d]] w (RPost w (risingI [b])) := by
  have C := good_any ⟨27, a, b, c, cs, d⟩ 100 cv _ (hcs.ext (Ext.alloc w (.cells #[.int .i64 27, .int .i64 a, .int .i64 b, .int .i64 c, cv, .bool d] 36)))
  rw [hg] at C
  have Ch := Lib.hid C
  obtain ⟨i0, hi0, hz0, hz1, hz2⟩ := info_parts Tryd.info3
  obtain ⟨ca, ccap, rfl⟩ := hcs.form
  clear C hg hcs
  go_enter Tryd.func18, Tryd.ntmps18
  go_wp2_with fail
  refine Ch.out.mono ?_
  rintro e w1 ⟨rfl, hB⟩
  have hb := bcall (bnew (Below.refl _ w) _) hB
  have hsz := hb.size
  have y0 : w1.cell? ⟨w.heap.size, 0, none⟩ = some (.int .i64 27) := keep_below hB (by simp)
  have y2 : w1.cell? ⟨w.heap.size, 2, none⟩ = some (.int .i64 b) := keep_below hB (by simp)
  go_wp2_with (at_builtin; refine wpList_append_lies (w := _) (hgd := rfl) (s := _) (x := _) (t := _) (ho := rfl) (base := w.heap.size) (e := 3) (i := i0) (z := _) (size := 1) (bytes := 8) (ht := Tryd.underlying32) (hi := hi0) (hz := hz0) (hsize := hz1) (hby := hz2) (hzs := rfl) (hsz := Nat.one_pos) (v := .slice none 0 0) (n := 0) (xs := []) (hs := ?_) (hown := ?_) (ad := ⟨w1.heap.size, 0, none⟩) (m := 1) (c := 1) (news := [.int .i64 b]) (hx := ?_) (hl := ?_) (hnews := ?_) (h1 := ?_) (hm := by omega) (h63 := ?_) (hbytes := ?_) (hbase := ?_) (H := _) (hH := rfl) (h := ?_); (rfl); (exact World.ownsRow_nil _ _ _ _); (rfl); (rfl); (exact World.news_of_block (heap_alloc_new _ _)); (simp [Value.oneCell']); (unfold maxLen; omega); (omega); (first | omega | (simp; omega)); intro gg1 cap1 u1 own1 grow1 hat1 hlt1)
  have hb1 : Below w.heap.size w u1 := (bnew hb _).grown grow1 (by simp; omega) (fun j hj => by simp [Value.ownBlock] at hj)
  have hrow : Row w.heap.size u1 [b] (.slice (some ⟨gg1, 0, none⟩) 1 cap1) := by simpa [Row] using own1
  have CR := Lib.hid (rising_any w.heap.size [b] _ w u1 hrow (by simp) (Nat.le_refl _) hb1)
  clear hrow hb1 hb hB own1 grow1 hat1
  go_wp2_with fail
  refine CR.out.mono ?_
  rintro e w3 ⟨v, rfl, hv, hB2⟩
  go_wp2_with fail
  go_ret
  exact ⟨v, rfl, hv, hB2⟩

set_option maxRecDepth 100000 in
set_option maxHeartbeats 1000000 in
theorem writes_28 (a b c : Int) (cs : List Cs) (d : Bool) (cv : Value) (w : World) (hcs : CRep w cs cv) (hg : goodB ⟨28, a, b, c, cs, d⟩ 100 = true) : Calls Tryd.prog 18 #[.agg #[.int .i64 28, .int .i64 a, .int .i64 b, .int .i64 c, cv, .bool d]] w (RPost w (risingI [b])) := by
  have C := good_any ⟨28, a, b, c, cs, d⟩ 100 cv _ (hcs.ext (Ext.alloc w (.cells #[.int .i64 28, .int .i64 a, .int .i64 b, .int .i64 c, cv, .bool d] 36)))
  rw [hg] at C
  have Ch := Lib.hid C
  obtain ⟨i0, hi0, hz0, hz1, hz2⟩ := info_parts Tryd.info3
  obtain ⟨ca, ccap, rfl⟩ := hcs.form
  clear C hg hcs
  go_enter Tryd.func18, Tryd.ntmps18
  go_wp2_with fail
  refine Ch.out.mono ?_
  rintro e w1 ⟨rfl, hB⟩
  have hb := bcall (bnew (Below.refl _ w) _) hB
  have hsz := hb.size
  have y0 : w1.cell? ⟨w.heap.size, 0, none⟩ = some (.int .i64 28) := keep_below hB (by simp)
  have y2 : w1.cell? ⟨w.heap.size, 2, none⟩ = some (.int .i64 b) := keep_below hB (by simp)
  go_wp2_with (at_builtin; refine wpList_append_lies (w := _) (hgd := rfl) (s := _) (x := _) (t := _) (ho := rfl) (base := w.heap.size) (e := 3) (i := i0) (z := _) (size := 1) (bytes := 8) (ht := Tryd.underlying32) (hi := hi0) (hz := hz0) (hsize := hz1) (hby := hz2) (hzs := rfl) (hsz := Nat.one_pos) (v := .slice none 0 0) (n := 0) (xs := []) (hs := ?_) (hown := ?_) (ad := ⟨w1.heap.size, 0, none⟩) (m := 1) (c := 1) (news := [.int .i64 b]) (hx := ?_) (hl := ?_) (hnews := ?_) (h1 := ?_) (hm := by omega) (h63 := ?_) (hbytes := ?_) (hbase := ?_) (H := _) (hH := rfl) (h := ?_); (rfl); (exact World.ownsRow_nil _ _ _ _); (rfl); (rfl); (exact World.news_of_block (heap_alloc_new _ _)); (simp [Value.oneCell']); (unfold maxLen; omega); (omega); (first | omega | (simp; omega)); intro gg1 cap1 u1 own1 grow1 hat1 hlt1)
  have hb1 : Below w.heap.size w u1 := (bnew hb _).grown grow1 (by simp; omega) (fun j hj => by simp [Value.ownBlock] at hj)
  have hrow : Row w.heap.size u1 [b] (.slice (some ⟨gg1, 0, none⟩) 1 cap1) := by simpa [Row] using own1
  have CR := Lib.hid (rising_any w.heap.size [b] _ w u1 hrow (by simp) (Nat.le_refl _) hb1)
  clear hrow hb1 hb hB own1 grow1 hat1
  go_wp2_with fail
  refine CR.out.mono ?_
  rintro e w3 ⟨v, rfl, hv, hB2⟩
  go_wp2_with fail
  go_ret
  exact ⟨v, rfl, hv, hB2⟩

set_option maxRecDepth 100000 in
set_option maxHeartbeats 1000000 in
theorem writes_29 (a b c : Int) (cs : List Cs) (d : Bool) (cv : Value) (w : World) (hcs : CRep w cs cv) (hg : goodB ⟨29, a, b, c, cs, d⟩ 100 = true) : Calls Tryd.prog 18 #[.agg #[.int .i64 29, .int .i64 a, .int .i64 b, .int .i64 c, cv, .bool d]] w (RPost w (risingI [b])) := by
  have C := good_any ⟨29, a, b, c, cs, d⟩ 100 cv _ (hcs.ext (Ext.alloc w (.cells #[.int .i64 29, .int .i64 a, .int .i64 b, .int .i64 c, cv, .bool d] 36)))
  rw [hg] at C
  have Ch := Lib.hid C
  obtain ⟨i0, hi0, hz0, hz1, hz2⟩ := info_parts Tryd.info3
  obtain ⟨ca, ccap, rfl⟩ := hcs.form
  clear C hg hcs
  go_enter Tryd.func18, Tryd.ntmps18
  go_wp2_with fail
  refine Ch.out.mono ?_
  rintro e w1 ⟨rfl, hB⟩
  have hb := bcall (bnew (Below.refl _ w) _) hB
  have hsz := hb.size
  have y0 : w1.cell? ⟨w.heap.size, 0, none⟩ = some (.int .i64 29) := keep_below hB (by simp)
  have y2 : w1.cell? ⟨w.heap.size, 2, none⟩ = some (.int .i64 b) := keep_below hB (by simp)
  go_wp2_with (at_builtin; refine wpList_append_lies (w := _) (hgd := rfl) (s := _) (x := _) (t := _) (ho := rfl) (base := w.heap.size) (e := 3) (i := i0) (z := _) (size := 1) (bytes := 8) (ht := Tryd.underlying32) (hi := hi0) (hz := hz0) (hsize := hz1) (hby := hz2) (hzs := rfl) (hsz := Nat.one_pos) (v := .slice none 0 0) (n := 0) (xs := []) (hs := ?_) (hown := ?_) (ad := ⟨w1.heap.size, 0, none⟩) (m := 1) (c := 1) (news := [.int .i64 b]) (hx := ?_) (hl := ?_) (hnews := ?_) (h1 := ?_) (hm := by omega) (h63 := ?_) (hbytes := ?_) (hbase := ?_) (H := _) (hH := rfl) (h := ?_); (rfl); (exact World.ownsRow_nil _ _ _ _); (rfl); (rfl); (exact World.news_of_block (heap_alloc_new _ _)); (simp [Value.oneCell']); (unfold maxLen; omega); (omega); (first | omega | (simp; omega)); intro gg1 cap1 u1 own1 grow1 hat1 hlt1)
  have hb1 : Below w.heap.size w u1 := (bnew hb _).grown grow1 (by simp; omega) (fun j hj => by simp [Value.ownBlock] at hj)
  have hrow : Row w.heap.size u1 [b] (.slice (some ⟨gg1, 0, none⟩) 1 cap1) := by simpa [Row] using own1
  have CR := Lib.hid (rising_any w.heap.size [b] _ w u1 hrow (by simp) (Nat.le_refl _) hb1)
  clear hrow hb1 hb hB own1 grow1 hat1
  go_wp2_with fail
  refine CR.out.mono ?_
  rintro e w3 ⟨v, rfl, hv, hB2⟩
  go_wp2_with fail
  go_ret
  exact ⟨v, rfl, hv, hB2⟩

set_option maxRecDepth 100000 in
set_option maxHeartbeats 1000000 in
theorem writes_30 (a b c : Int) (cs : List Cs) (d : Bool) (cv : Value) (w : World) (hcs : CRep w cs cv) (hg : goodB ⟨30, a, b, c, cs, d⟩ 100 = true) : Calls Tryd.prog 18 #[.agg #[.int .i64 30, .int .i64 a, .int .i64 b, .int .i64 c, cv, .bool d]] w (RPost w (risingI [c, b])) := by
  have C := good_any ⟨30, a, b, c, cs, d⟩ 100 cv _ (hcs.ext (Ext.alloc w (.cells #[.int .i64 30, .int .i64 a, .int .i64 b, .int .i64 c, cv, .bool d] 36)))
  rw [hg] at C
  have Ch := Lib.hid C
  obtain ⟨i0, hi0, hz0, hz1, hz2⟩ := info_parts Tryd.info3
  obtain ⟨ca, ccap, rfl⟩ := hcs.form
  clear C hg hcs
  go_enter Tryd.func18, Tryd.ntmps18
  go_wp2_with fail
  refine Ch.out.mono ?_
  rintro e w1 ⟨rfl, hB⟩
  have hb := bcall (bnew (Below.refl _ w) _) hB
  have hsz := hb.size
  have y0 : w1.cell? ⟨w.heap.size, 0, none⟩ = some (.int .i64 30) := keep_below hB (by simp)
  have y3 : w1.cell? ⟨w.heap.size, 3, none⟩ = some (.int .i64 c) := keep_below hB (by simp)
  have y2 : w1.cell? ⟨w.heap.size, 2, none⟩ = some (.int .i64 b) := keep_below hB (by simp)
  go_wp2_with (first | (at_builtin; refine wpList_append_lies (w := _) (hgd := rfl) (s := _) (x := _) (t := _) (ho := rfl) (base := w.heap.size) (e := 3) (i := i0) (z := _) (size := 1) (bytes := 8) (ht := Tryd.underlying32) (hi := hi0) (hz := hz0) (hsize := hz1) (hby := hz2) (hzs := rfl) (hsz := Nat.one_pos) (v := .slice none 0 0) (n := 0) (xs := []) (hs := ?_) (hown := ?_) (ad := ⟨w1.heap.size, 0, none⟩) (m := 1) (c := 1) (news := [.int .i64 c]) (hx := ?_) (hl := ?_) (hnews := ?_) (h1 := ?_) (hm := by omega) (h63 := ?_) (hbytes := ?_) (hbase := ?_) (H := _) (hH := rfl) (h := ?_); (rfl); (exact World.ownsRow_nil _ _ _ _); (rfl); (rfl); (exact World.news_of_block (heap_alloc_new _ _)); (simp [Value.oneCell']); (unfold maxLen; omega); (omega); (first | omega | (simp; omega)); intro gg1 cap1 u1 own1 grow1 hat1 hlt1; have hb1 : Below w.heap.size w u1 := (bnew hb _).grown grow1 (by simp; omega) (fun j hj => by simp [Value.ownBlock] at hj); have hs1 := hb1.size; have z2 : u1.cell? ⟨w.heap.size, 2, none⟩ = some (.int .i64 b) := keep_grown grow1 (by simp [Value.ownBlock]) (keep_alloc y2); simp only [Nat.zero_add, List.nil_append] at own1) | (at_builtin; refine wpList_append_lies (w := _) (hgd := rfl) (s := _) (x := _) (t := _) (ho := rfl) (base := w.heap.size) (e := 3) (i := i0) (z := _) (size := 1) (bytes := 8) (ht := Tryd.underlying32) (hi := hi0) (hz := hz0) (hsize := hz1) (hby := hz2) (hzs := rfl) (hsz := Nat.one_pos) (v := .slice (some ⟨gg1, 0, none⟩) 1 cap1) (n := 1) (xs := [.int .i64 c]) (hs := ?_) (hown := ?_) (ad := ⟨u1.heap.size, 0, none⟩) (m := 1) (c := 1) (news := [.int .i64 b]) (hx := ?_) (hl := ?_) (hnews := ?_) (h1 := ?_) (hm := by omega) (h63 := ?_) (hbytes := ?_) (hbase := ?_) (H := _) (hH := rfl) (h := ?_); (rfl); (exact own1.alloc _); (rfl); (rfl); (exact World.news_of_block (heap_alloc_new _ _)); (simp [Value.oneCell']); (unfold maxLen; omega); (omega); (first | omega | (simp; omega)); intro gg2 cap2 u2 own2 grow2 hat2 hlt2))
  have hb2 : Below w.heap.size w u2 := (bnew hb1 _).grown grow2 (by simp; omega) (fun j hj => by { have := (own1.lt j hj).1; omega })
  have hrow : Row w.heap.size u2 [c, b] (.slice (some ⟨gg2, 0, none⟩) 2 cap2) := by simpa [Row] using own2
  have CR := Lib.hid (rising_any w.heap.size [c, b] _ w u2 hrow (by simp) (Nat.le_refl _) hb2)
  clear hrow hb1 hb2 hb hB own1 grow1 hat1 own2 grow2 hat2
  go_wp2_with fail
  refine CR.out.mono ?_
  rintro e w3 ⟨v, rfl, hv, hB2⟩
  go_wp2_with fail
  go_ret
  exact ⟨v, rfl, hv, hB2⟩

set_option maxRecDepth 100000 in
set_option maxHeartbeats 1000000 in
theorem writes_31 (a b c : Int) (cs : List Cs) (d : Bool) (cv : Value) (w : World) (hcs : CRep w cs cv) (hg : goodB ⟨31, a, b, c, cs, d⟩ 100 = true) : Calls Tryd.prog 18 #[.agg #[.int .i64 31, .int .i64 a, .int .i64 b, .int .i64 c, cv, .bool d]] w (RPost w (risingI [a])) := by
  have C := good_any ⟨31, a, b, c, cs, d⟩ 100 cv _ (hcs.ext (Ext.alloc w (.cells #[.int .i64 31, .int .i64 a, .int .i64 b, .int .i64 c, cv, .bool d] 36)))
  rw [hg] at C
  have Ch := Lib.hid C
  obtain ⟨i0, hi0, hz0, hz1, hz2⟩ := info_parts Tryd.info3
  obtain ⟨ca, ccap, rfl⟩ := hcs.form
  clear C hg hcs
  go_enter Tryd.func18, Tryd.ntmps18
  go_wp2_with fail
  refine Ch.out.mono ?_
  rintro e w1 ⟨rfl, hB⟩
  have hb := bcall (bnew (Below.refl _ w) _) hB
  have hsz := hb.size
  have y0 : w1.cell? ⟨w.heap.size, 0, none⟩ = some (.int .i64 31) := keep_below hB (by simp)
  have y1 : w1.cell? ⟨w.heap.size, 1, none⟩ = some (.int .i64 a) := keep_below hB (by simp)
  go_wp2_with (at_builtin; refine wpList_append_lies (w := _) (hgd := rfl) (s := _) (x := _) (t := _) (ho := rfl) (base := w.heap.size) (e := 3) (i := i0) (z := _) (size := 1) (bytes := 8) (ht := Tryd.underlying32) (hi := hi0) (hz := hz0) (hsize := hz1) (hby := hz2) (hzs := rfl) (hsz := Nat.one_pos) (v := .slice none 0 0) (n := 0) (xs := []) (hs := ?_) (hown := ?_) (ad := ⟨w1.heap.size, 0, none⟩) (m := 1) (c := 1) (news := [.int .i64 a]) (hx := ?_) (hl := ?_) (hnews := ?_) (h1 := ?_) (hm := by omega) (h63 := ?_) (hbytes := ?_) (hbase := ?_) (H := _) (hH := rfl) (h := ?_); (rfl); (exact World.ownsRow_nil _ _ _ _); (rfl); (rfl); (exact World.news_of_block (heap_alloc_new _ _)); (simp [Value.oneCell']); (unfold maxLen; omega); (omega); (first | omega | (simp; omega)); intro gg1 cap1 u1 own1 grow1 hat1 hlt1)
  have hb1 : Below w.heap.size w u1 := (bnew hb _).grown grow1 (by simp; omega) (fun j hj => by simp [Value.ownBlock] at hj)
  have hrow : Row w.heap.size u1 [a] (.slice (some ⟨gg1, 0, none⟩) 1 cap1) := by simpa [Row] using own1
  have CR := Lib.hid (rising_any w.heap.size [a] _ w u1 hrow (by simp) (Nat.le_refl _) hb1)
  clear hrow hb1 hb hB own1 grow1 hat1
  go_wp2_with fail
  refine CR.out.mono ?_
  rintro e w3 ⟨v, rfl, hv, hB2⟩
  go_wp2_with fail
  go_ret
  exact ⟨v, rfl, hv, hB2⟩

set_option maxRecDepth 100000 in
set_option maxHeartbeats 1000000 in
theorem writes_32 (a b c : Int) (cs : List Cs) (d : Bool) (cv : Value) (w : World) (hcs : CRep w cs cv) (hg : goodB ⟨32, a, b, c, cs, d⟩ 100 = true) : Calls Tryd.prog 18 #[.agg #[.int .i64 32, .int .i64 a, .int .i64 b, .int .i64 c, cv, .bool d]] w (RPost w (risingI [b])) := by
  have C := good_any ⟨32, a, b, c, cs, d⟩ 100 cv _ (hcs.ext (Ext.alloc w (.cells #[.int .i64 32, .int .i64 a, .int .i64 b, .int .i64 c, cv, .bool d] 36)))
  rw [hg] at C
  have Ch := Lib.hid C
  obtain ⟨i0, hi0, hz0, hz1, hz2⟩ := info_parts Tryd.info3
  obtain ⟨ca, ccap, rfl⟩ := hcs.form
  clear C hg hcs
  go_enter Tryd.func18, Tryd.ntmps18
  go_wp2_with fail
  refine Ch.out.mono ?_
  rintro e w1 ⟨rfl, hB⟩
  have hb := bcall (bnew (Below.refl _ w) _) hB
  have hsz := hb.size
  have y0 : w1.cell? ⟨w.heap.size, 0, none⟩ = some (.int .i64 32) := keep_below hB (by simp)
  have y2 : w1.cell? ⟨w.heap.size, 2, none⟩ = some (.int .i64 b) := keep_below hB (by simp)
  go_wp2_with (at_builtin; refine wpList_append_lies (w := _) (hgd := rfl) (s := _) (x := _) (t := _) (ho := rfl) (base := w.heap.size) (e := 3) (i := i0) (z := _) (size := 1) (bytes := 8) (ht := Tryd.underlying32) (hi := hi0) (hz := hz0) (hsize := hz1) (hby := hz2) (hzs := rfl) (hsz := Nat.one_pos) (v := .slice none 0 0) (n := 0) (xs := []) (hs := ?_) (hown := ?_) (ad := ⟨w1.heap.size, 0, none⟩) (m := 1) (c := 1) (news := [.int .i64 b]) (hx := ?_) (hl := ?_) (hnews := ?_) (h1 := ?_) (hm := by omega) (h63 := ?_) (hbytes := ?_) (hbase := ?_) (H := _) (hH := rfl) (h := ?_); (rfl); (exact World.ownsRow_nil _ _ _ _); (rfl); (rfl); (exact World.news_of_block (heap_alloc_new _ _)); (simp [Value.oneCell']); (unfold maxLen; omega); (omega); (first | omega | (simp; omega)); intro gg1 cap1 u1 own1 grow1 hat1 hlt1)
  have hb1 : Below w.heap.size w u1 := (bnew hb _).grown grow1 (by simp; omega) (fun j hj => by simp [Value.ownBlock] at hj)
  have hrow : Row w.heap.size u1 [b] (.slice (some ⟨gg1, 0, none⟩) 1 cap1) := by simpa [Row] using own1
  have CR := Lib.hid (rising_any w.heap.size [b] _ w u1 hrow (by simp) (Nat.le_refl _) hb1)
  clear hrow hb1 hb hB own1 grow1 hat1
  go_wp2_with fail
  refine CR.out.mono ?_
  rintro e w3 ⟨v, rfl, hv, hB2⟩
  go_wp2_with fail
  go_ret
  exact ⟨v, rfl, hv, hB2⟩
end Go.Proofs.YtajblpopbipegaaDoor
