/-
  fault.Shape, AND fault.Find: of what is made here its shape, and its first code.
-/
import Derived.Test.YtpdljglamjanmaaDoorAs2
import Derived.Test.YtpdljglamjanmaaDoorKids
import Derived.Test.YtpdljglamjanmaaDoorIs
import Derived.RegionTactic
import Derived.ChangeAlike
import Derived.BigRegion
namespace Go.Proofs.YtpdljglamjanmaaDoor
open Go.RowKit Go.Extern.Stop Go.Stop Go.Extern

theorem comp66 : (Tryd.prog.info? 66).map (·.comparable) = some true := by kernel_rfl
theorem size69 : (Tryd.prog.info? 69).map (·.size) = some 2 := by kernel_rfl
theorem neq66 (x : Addr) (w : World) : (binOp .neq 29 (.iface 66 (.pointer (some x))) (.iface 66 (.pointer (some x)))).run Tryd.prog w = .ok (.bool false) w := by
  obtain ⟨i, hi, hcmp⟩ := Option.map_eq_some_iff.1 comp66
  obtain ⟨j, hj, hjs⟩ := Option.map_eq_some_iff.1 size69
  have h := run_equalIn_iface_ptr_same (P := Tryd.prog) w 9998 x Tryd.underlying29 Tryd.underlying66 hi hcmp hj
  simp only [binOp]
  simp [Op.equal, Op.maxDepth, h]
theorem eq4066 (v x : Value) (w : World) : (binOp .eql 29 (.iface 40 v) (.iface 66 x)).run Tryd.prog w = .ok (.bool false) w := run_eql_iface_types (P := Tryd.prog) 40 66 v x Tryd.underlying29 (by decide) w
theorem Tryd.info27 : (Tryd.prog.info? 27).map (fun i => (i.zero, i.size, i.bytes)) = some (some (.agg #[.int .i64 0, .string ⟨#[]⟩, .slice none 0 0]), 3, 48) := by kernel_rfl

/-- What Shape comes to. -/
def ShapePost (W : World) (s : Sh) (e : Ending) (w' : World) : Prop :=
  ∃ a cap, e = .returned (.tuple #[.agg #[.int .i64 s.code, .string s.op, .slice a s.kids.length cap], .bool true]) ∧ FRep (fun b => W.heap.size ≤ b) w' s (.int .i64 s.code) (.string s.op) (.slice a s.kids.length cap) ∧ Below W.heap.size W w'

/-- A variable that a call has set; the variable ahead of it. -/
theorem set_cell {W w1 : World} {t : Addr} {x old : Value} (hB : Below W.heap.size (W.setCell t x) w1) (ht : W.cell? t = some old) : w1.cell? t = some x := by
  rw [hB.cell (cell_lt ht)]
  exact World.cell?_setCell_same W t x ht
theorem set_far {W w1 : World} {t p : Addr} {x y : Value} (hB : Below W.heap.size (W.setCell t x) w1) (hp : W.cell? p = some y) (hne : p ≠ t) : w1.cell? p = some y := by
  rw [hB.cell (cell_lt hp), World.cell?_setCell_other W t p x (Ne.symm hne)]; exact hp
theorem set_frozen {W w1 : World} {t p : Addr} {x y : Value} (hB : Below W.heap.size (W.setCell t x) w1) (hp : W.cell? p = some y) (hf : W.frozen? p = false) : w1.frozen? p = false := by
  rw [hB.frozen (cell_lt hp)]
  simpa using hf

theorem errT_keep {w w' : World} (h : ErrT w) (hb : Below w.heap.size w w') : ErrT w' := keep_below hb h

set_option maxHeartbeats 2000000 in
theorem shape_any (s : Sh) (hg : Good s) : ∀ (A : Nat → Prop) (v : Value) (w : World), ERep A w s v → ErrT w → Calls Tryd.prog 15 #[v] w (ShapePost w s) := by
  obtain ⟨i0, hi0, hz0, hz1, hz2⟩ := info_parts Tryd.info27
  induction hg with
  | code c hc =>
    intro A v w h hT
    have hgood : Good (.mk c ⟨#[]⟩ []) := .code c hc
    have C := Lib.hid (As_code _ hgood A v ⟨w.heap.size + 1, 0, none⟩ (.int .i64 0) ((w.alloc (.cells #[.int .i64 0, .string ⟨#[]⟩, .slice none 0 0] 27)).alloc (.cells #[.int .i64 0] 40)) ((h.ext (Ext.alloc _ _)).ext (Ext.alloc _ _)) (keep_alloc (keep_alloc hT)) (by simp) (by simp))
    obtain ⟨W, hW⟩ : ∃ W, W = (w.alloc (.cells #[.int .i64 0, .string ⟨#[]⟩, .slice none 0 0] 27)).alloc (.cells #[.int .i64 0] 40) := ⟨_, rfl⟩
    have x0 : W.cell? ⟨w.heap.size + 1, 0, none⟩ = some (.int .i64 0) := by rw [hW]; simp
    have x1 : W.cell? ⟨w.heap.size, 0, none⟩ = some (.int .i64 0) := by rw [hW]; exact keep_alloc (by simp)
    have x2 : W.cell? ⟨w.heap.size, 1, none⟩ = some (.string ⟨#[]⟩) := by rw [hW]; exact keep_alloc (by simp)
    have x3 : W.cell? ⟨w.heap.size, 2, none⟩ = some (.slice none 0 0) := by rw [hW]; exact keep_alloc (by simp)
    have hWb : Below w.heap.size w W := by rw [hW]; exact bnew (bnew (Below.refl _ w) _) _
    have hWs : W.heap.size = w.heap.size + 2 := by rw [hW]; simp
    have f0 : W.frozen? ⟨w.heap.size, 0, none⟩ = false := by rw [hW]; simp
    have f1 : W.frozen? ⟨w.heap.size, 1, none⟩ = false := by rw [hW]; simp
    have f2 : W.frozen? ⟨w.heap.size, 2, none⟩ = false := by rw [hW]; simp
    rw [← hW] at C
    have HW : Hid (W = _) := hW
    clear hW
    cases h with
    | wrap op ks b kb koff cap vs hop hks hpos hcap hcm hA hA' c0 c1 hc hr => simp at hpos
    | code c =>
    clear hT
    go_enter Tryd.func15, Tryd.ntmps15
    have EQ := fun W : World => eq40 c c W
    simp only [beq_self_eq_true] at EQ
    go_wp2_with (go_at_call 37; rw [← HW.out]; refine C.out.mono ?_; rintro e w1 ⟨rfl, hB1⟩; have hc1 := set_cell hB1 x0; have y1 := set_far hB1 x1 (by simp); have y2 := set_far hB1 x2 (by simp); have y3 := set_far hB1 x3 (by simp); have g0 := set_frozen hB1 x1 f0; have g1 := set_frozen hB1 x2 f1; have g2 := set_frozen hB1 x3 f2; simp only [firstCode] at hc1)
    go_region
    all_goals
      go_wp2_with fail
      refine bodyPost_ret (v := .tuple #[.agg #[.int .i64 c, .string ⟨#[]⟩, .slice none 0 0], .bool true]) ?_ rfl ?_
      · simp [results, Tryd.f15, go_sem, y1, y2, y3]
      · refine ⟨none, 0, rfl, .mk c ⟨#[]⟩ [] none 0 0 0 (fun _ => undef) (by decide) (by simp) (by simp) (by simp) (by simp) (by simp) (by simp), ?_⟩
        have hb1 : Below w.heap.size w w1 := (hWb.setCell (p := ⟨w.heap.size + 1, 0, none⟩) (by simp) (.int .i64 c)).trans (hB1.mono (by omega))
        exact (((hb1.setCell (p := ⟨w.heap.size, 0, none⟩) (by simp) _).setCell (p := ⟨w.heap.size, 1, none⟩) (by simp) _).setCell (p := ⟨w.heap.size, 2, none⟩) (by simp) _).drew
  | wrap op ks ho hk hgs ih =>
    intro A v w h hT
    have hgood : Good (.mk 0 op ks) := .wrap op ks ho hk hgs
    have C := Lib.hid (As_code _ hgood A v ⟨w.heap.size + 1, 0, none⟩ (.int .i64 0) ((w.alloc (.cells #[.int .i64 0, .string ⟨#[]⟩, .slice none 0 0] 27)).alloc (.cells #[.int .i64 0] 40)) ((h.ext (Ext.alloc _ _)).ext (Ext.alloc _ _)) (keep_alloc (keep_alloc hT)) (by simp) (by simp))
    obtain ⟨W, hW⟩ : ∃ W, W = (w.alloc (.cells #[.int .i64 0, .string ⟨#[]⟩, .slice none 0 0] 27)).alloc (.cells #[.int .i64 0] 40) := ⟨_, rfl⟩
    have x0 : W.cell? ⟨w.heap.size + 1, 0, none⟩ = some (.int .i64 0) := by rw [hW]; simp
    have xb : W.heap[w.heap.size]? = some (.cells #[.int .i64 0, .string ⟨#[]⟩, .slice none 0 0] 27 (0, 0)) := by
      rw [hW, Below.heap_alloc _ _ _ (by simp)]; exact heap_alloc_new w _
    have hWb : Below w.heap.size w W := by rw [hW]; exact bnew (bnew (Below.refl _ w) _) _
    have hWs : W.heap.size = w.heap.size + 2 := by rw [hW]; simp
    rw [← hW] at C
    have HW : Hid (W = _) := hW
    clear hW
    cases h with
    | code c => simp at hk
    | wrap op ks b kb koff cap vs hop hks hpos hcap hcm hA hA' c0 c1 hc hr =>
    generalize hfc : firstCode (.mk 0 op ks) = fc at C
    clear hfc
    -- what stands behind the first errors.As
    have HK : Hid (∀ w1, Below W.heap.size (W.setCell ⟨w.heap.size + 1, 0, none⟩ (.int .i64 fc)) w1 → Below w.heap.size w w1) := fun w1 hB1 => (hWb.setCell (p := ⟨w.heap.size + 1, 0, none⟩) (by simp) (.int .i64 fc)).trans (hB1.mono (by omega))
    have HX : Hid (∀ w1, Below W.heap.size (W.setCell ⟨w.heap.size + 1, 0, none⟩ (.int .i64 fc)) w1 → w1.heap[w.heap.size]? = some (.cells #[.int .i64 0, .string ⟨#[]⟩, .slice none 0 0] 27 (0, 0))) := fun w1 hB1 => by
      rw [hB1.block _ (by omega), Below.heap_setCell _ _ _ _ (by simp)]; exact xb
    have H0 := Lib.hid c0
    have H1 := Lib.hid c1
    have HC := Lib.hid hc
    have HR := Lib.hid hr
    have HI := Lib.hid ih
    have HT := Lib.hid hT
    have EQ := eq4066
    have NQ := neq66
    clear c0 c1 hc hr ih hT xb hgs
    go_enter Tryd.func15, Tryd.ntmps15
    go_wp2_with (go_at_call 37; rw [← HW.out]; refine C.out.mono ?_; rintro e w1 ⟨rfl, hB1⟩; have hc1 := set_cell hB1 x0; have hb1 := HK.out _ hB1; have C2 := Lib.hid (As_wrap ⟨b, 0, none⟩ ⟨w1.heap.size, 0, none⟩ (.pointer none) (w1.alloc (.cells #[.pointer none] 66)) (keep_alloc (keep_below hb1 HT.out)) (by simp) (by simp)))
    refine C2.out.mono ?_
    rintro e w2 ⟨rfl, hB2⟩
    have hc2 : w2.cell? ⟨w1.heap.size, 0, none⟩ = some (.pointer (some ⟨b, 0, none⟩)) := set_cell (old := .pointer none) hB2 (by simp)
    have hb2 : Below w1.heap.size w1 w2 := ((bnew (Below.refl _ w1) (.cells #[.pointer none] 66)).setCell (p := ⟨w1.heap.size, 0, none⟩) (by simp) (.pointer (some ⟨b, 0, none⟩))).trans (hB2.mono (by simp))
    have hw2 : Below w.heap.size w w2 := bcall hb1 hb2
    have hx2 : w2.heap[w.heap.size]? = some (.cells #[.int .i64 0, .string ⟨#[]⟩, .slice none 0 0] 27 (0, 0)) := blk_below (HX.out _ hB1) hb2
    have hs1 : W.heap.size ≤ w1.heap.size := by have := hB1.size; simpa [World.setCell] using this
    have y1 : w2.cell? ⟨w.heap.size, 1, none⟩ = some (.string ⟨#[]⟩) := by rw [cell_of_row w2 _ _ _ _ _ hx2]; rfl
    have g1 : w2.frozen? ⟨w.heap.size, 1, none⟩ = false := by simp [World.frozen?, hx2]
    have k0 := keep_below hw2 H0.out
    have k1 := keep_below hw2 H1.out
    have hbl : b < w.heap.size := cell_lt H0.out
    obtain ⟨W0, hW0⟩ : ∃ W0, W0 = w2.setCell ⟨w.heap.size, 1, none⟩ (.string op) := ⟨_, rfl⟩
    have hx0 : W0.heap[w.heap.size]? = some (.cells #[.int .i64 0, .string op, .slice none 0 0] 27 (0, 0)) := by
      rw [hW0]; simp [World.setCell, Array.getElem?_modify, hx2]
    have k5 : (w2.setCell ⟨w.heap.size, 1, none⟩ (.string op)).cell? ⟨w1.heap.size, 0, none⟩ = some (.pointer (some ⟨b, 0, none⟩)) := by
      rw [World.cell?_setCell_other _ _ _ _ (by simp)]; exact hc2
    have k6 : (w2.setCell ⟨w.heap.size, 1, none⟩ (.string op)).cell? ⟨b, 1, none⟩ = some (.slice (some ⟨kb, koff, none⟩) ks.length cap) := by
      rw [World.cell?_setCell_other _ _ _ _ (by simp)]; exact k1
    have HW0 : Hid (W0 = _) := hW0
    have hsz0 : W0.heap.size = w2.heap.size := by rw [hW0]; simp [World.setCell]
    have hwW0 : Below w.heap.size w W0 := by rw [hW0]; exact hw2.setCell (by simp) _
    clear hW0
    go_wp2_with fail
    rw [← HW0.out]
    have hsw : w.heap.size < W0.heap.size := by have := hw2.size; have := hb2.size; omega
    have HTW := Lib.hid (keep_below hwW0 HT.out)
    clear k5 k6 k0 k1 y1 g1 hx2 hc2 hc1 x0 hB1 hB2 hb2
    go_loopw [47] (fun vi wr => ∃ (k : Nat) (kv : Value) (xs : List Value), k ≤ ks.length ∧ vi = .int .i64 k ∧ KidsRel W0 w.heap.size op (ks.take k) kv xs wr) (fun vi _ => ks.length - (intOf vi).toNat)
    case atStart => exact ⟨0, _, _, by omega, rfl, kids_start hx0⟩
    case round =>
      obtain ⟨k, kv, xs, hkl, rfl, hK⟩ := hrel
      by_cases hlt : k < ks.length
      · obtain ⟨s', hs'⟩ : ∃ s', ks[k]? = some s' := ⟨_, List.getElem?_eq_getElem hlt⟩
        have hK0 := Lib.hid hK
        obtain ⟨_, hbB, hown, _, hgr⟩ := hK
        have hkb : kb < w.heap.size := cell_lt (HC.out k hlt)
        have EX : Ext (fun b => A b ∧ b < w.heap.size) w wr := (Ext.of_below hwW0).trans (Ext.grown hgr fun b hb e => by injection e with e; omega)
        have hE := (HR.out k s' hs').lt.ext EX
        have e0 := EX ⟨kb, koff + k, none⟩ _ ⟨hA', hkb⟩ (HC.out k hlt)
        have hTr : ErrT wr := by
          refine keep_grown hgr (fun e => ?_) HTW.out
          injection e with e
          have := cell_lt HT.out
          simp at this e
          omega
        obtain ⟨x, y, hv⟩ := hE.form
        rw [hv] at e0 hE
        have C := HI.out s' (List.mem_of_getElem? hs') _ _ _ hE hTr
        have hlen : (ks.take k).length = k := by simp; omega
        rw [hlen] at hown
        have z2 : wr.cell? ⟨w.heap.size, 2, none⟩ = some kv := by rw [cell_of_row wr _ _ _ _ _ hbB]; rfl
        have zf : wr.frozen? ⟨w.heap.size, 2, none⟩ = false := by simp [World.frozen?, hbB]
        have hne : some w.heap.size ≠ kv.ownBlock := fun e => by have := (hown.lt _ e.symm).1; omega
        have HKK : Hid (KidsRel W0 w.heap.size op (ks.take k) kv xs wr ∧ (ks.take k).length = k ∧ ks.take (k + 1) = ks.take k ++ [s']) := ⟨hK0.out, hlen, by rw [List.take_add_one, hs']; rfl⟩
        have CH := Lib.hid C
        have hszr : W0.heap.size ≤ wr.heap.size := hgr.size
        clear C hE hv hs' EX hTr hbB hgr hlen hK0
        go_wp2_with (first | (go_at_call 15; refine CH.out.mono ?_; rintro e u1 ⟨sa, scap, rfl, hF, hB⟩; have z3 := keep_below hB z2; have zg : u1.frozen? ⟨w.heap.size, 2, none⟩ = false := by { rw [hB.frozen (cell_lt z2)]; exact zf }; have zs := hB.size; have z3a := fun o => keep_alloc (o := o) z3) | (at_builtin; refine wpList_append_lies (w := _) (hgd := rfl) (s := _) (x := _) (t := _) (ho := rfl) (base := W0.heap.size) (e := 27) (i := i0) (z := _) (size := 3) (bytes := 48) (ht := Tryd.underlying25) (hi := hi0) (hz := hz0) (hsize := hz1) (hby := hz2) (hzs := rfl) (hsz := by omega) (v := kv) (n := k) (xs := xs) (hs := ?a1) (hown := ?a2) (ad := ⟨u1.heap.size + 1, 0, none⟩) (m := 1) (c := 1) (news := [.int .i64 s'.code, .string s'.op, .slice sa s'.kids.length scap]) (hx := ?a3) (hl := ?a4) (hnews := ?a5) (h1 := ?a6) (hm := by omega) (h63 := ?a8) (hbytes := ?a9) (hbase := ?a10) (H := _) (hH := rfl) (h := ?_); (rotate_left 9); intro gg cap2 u2 hown2 hgrow hat hlt2; have z4 := keep_grown hgrow hne (keep_alloc (z3a _)); have zg2 : u2.frozen? ⟨w.heap.size, 2, none⟩ = false := by { rw [hgrow.frozen_far _ (by simp; omega) hne, World.frozen?_alloc_old _ _ _ (by simp; omega), World.frozen?_alloc_old _ _ _ (by simp; omega)]; exact zg }))
        case a1 => rfl
        case a2 => exact ((own_below hown hB).alloc _).alloc _
        case a3 => rfl
        case a4 => rfl
        case a5 =>
          have := World.news_of_block (w := (u1.alloc (.cells #[.int .i64 s'.code, .string s'.op, .slice sa s'.kids.length scap] 27)).alloc (.cells #[.int .i64 s'.code, .string s'.op, .slice sa s'.kids.length scap] 27)) (heap_alloc_new _ _)
          simpa using this
        case a6 => simp [Value.oneCell']
        case a8 => unfold maxLen; omega
        case a9 => omega
        case a10 => simp; omega
        go_roundw
        case rel =>
          obtain ⟨hKr, hlen, htk⟩ := HKK.out
          have hstep := kids_step (w1 := (u1.alloc (.cells #[.int .i64 s'.code, .string s'.op, .slice sa s'.kids.length scap] 27)).alloc (.cells #[.int .i64 s'.code, .string s'.op, .slice sa s'.kids.length scap] 27)) (w2 := u2) (gg := gg) (cap2 := cap2) hKr (bnew (bnew hB _) _) ((hF.ext (Ext.alloc _ _)).ext (Ext.alloc _ _)) (by rw [hlen]; exact hown2) hgrow (by simpa using hat)
          rw [hlen] at hstep
          rw [← htk] at hstep
          exact ⟨k + 1, _, _, by omega, by go_num, hstep⟩
        case measure => simp [intOf]; omega
      · obtain rfl : k = ks.length := by omega
        obtain ⟨a', cap', rfl, hF⟩ := kids_end hK hop (by simp; omega)
        have hbB := hK.2.1
        have hgr := hK.2.2.2.2
        rw [List.take_length] at hF hbB
        have q0 : wr.cell? ⟨w.heap.size, 0, none⟩ = some (.int .i64 0) := by rw [cell_of_row wr _ _ _ _ _ hbB]; rfl
        have q1 : wr.cell? ⟨w.heap.size, 1, none⟩ = some (.string op) := by rw [cell_of_row wr _ _ _ _ _ hbB]; rfl
        have q2 : wr.cell? ⟨w.heap.size, 2, none⟩ = some (.slice a' ks.length cap') := by rw [cell_of_row wr _ _ _ _ _ hbB]; rfl
        have p0 : wr.frozen? ⟨w.heap.size, 0, none⟩ = false := by simp [World.frozen?, hbB]
        have p1 : wr.frozen? ⟨w.heap.size, 1, none⟩ = false := by simp [World.frozen?, hbB]
        have p2 : wr.frozen? ⟨w.heap.size, 2, none⟩ = false := by simp [World.frozen?, hbB]
        have hFh := Lib.hid hF
        have hgrh := Lib.hid hgr
        clear hF hgr hbB hK
        go_wp2_with fail
        refine bodyPost_ret (v := .tuple #[.agg #[.int .i64 0, .string op, .slice a' ks.length cap'], .bool true]) ?_ rfl ?_
        · simp [results, Tryd.f15, go_sem, q0, q1, q2]
        · refine ⟨a', cap', rfl, ?_, ?_⟩
          · exact (hFh.out.ext (((Ext.setCell _ _ _ (by simp; omega)).trans (Ext.setCell _ _ _ (by simp; omega))).trans (Ext.setCell _ _ _ (by simp; omega)))).mono fun b hb => by omega
          · have hbl : Below w.heap.size w wr := hwW0.trans ⟨hgrh.out.os, hgrh.out.tape, hgrh.out.output, hgrh.out.size, fun j hj => hgrh.out.block j (by omega) (fun e => by injection e with e; omega)⟩
            exact ((hbl.setCell (p := ⟨w.heap.size, 0, none⟩) (by simp) _).setCell (p := ⟨w.heap.size, 1, none⟩) (by simp) _).setCell (p := ⟨w.heap.size, 2, none⟩) (by simp) _
end Go.Proofs.YtpdljglamjanmaaDoor
