/-
  THE WALKS OF fault.build AND fault.Make.
-/
import Derived.Test.YtpdljglamjanmaaDoorSize
import Derived.Deep.RegionHeld3
import Derived.Deep.RegionLaw
import Derived.Deep.DrawnRows
namespace Go.Proofs.YtpdljglamjanmaaDoor
open Go.RowKit

theorem Tryd.info29 : (Tryd.prog.info? 29).map (fun i => (i.zero, i.size, i.bytes)) = some (some .nilIface, 1, 16) := by kernel_rfl

/-- What a call that makes an error comes to. -/
def EPost (W : World) (s : Sh) (e : Ending) (w' : World) : Prop := ∃ v, e = .returned v ∧ ERep (fun b => W.heap.size ≤ b) w' s v ∧ Below W.heap.size W w'

/-- How far 'build' has come: k of the kids are made. -/
def BuildRel (w : World) (op : ByteArray) (ks : List Sh) (k : Nat) (kv : Value) (vs : List Value) (wr : World) : Prop :=
  wr.heap[w.heap.size + 1]? = some (.cells #[.string op, kv] 69 (0, 0)) ∧ wr.ownsRow (w.heap.size + 2) 29 1 kv k vs ∧
  (∀ i s v, i < k → ks[i]? = some s → vs[i]? = some v → ERep (fun b => w.heap.size + 1 < b ∧ some b ≠ kv.ownBlock) wr s v) ∧ Below w.heap.size w wr

theorem build_start (w : World) (op : ByteArray) (ks : List Sh) (o : Obj) :
    BuildRel w op ks 0 (.slice none 0 0) [] ((w.alloc o).alloc (.cells #[.string op, .slice none 0 0] 69)) := by
  refine ⟨?_, World.ownsRow_nil _ _ _ _, fun i s v hi => by omega, bnew (bnew (Below.refl _ _) _) _⟩
  have := heap_alloc_new (w.alloc o) (.cells #[.string op, .slice none 0 0] 69)
  simpa using this

theorem build_step {w wr w1 w2 : World} {op : ByteArray} {ks : List Sh} {k : Nat} {kv : Value} {vs : List Value} {s' : Sh} {v : Value} {o o2 : Obj} {gg cap2 : Nat}
    (h : BuildRel w op ks k kv vs wr) (hs : ks[k]? = some s') (hB : Below (wr.alloc o).drew.heap.size (wr.alloc o).drew w1) (hv : ERep (fun b => (wr.alloc o).drew.heap.size ≤ b) w1 s' v)
    (hown2 : w2.ownsRow (w.heap.size + 2) 29 1 (.slice (some ⟨gg, 0, none⟩) (k + 1) cap2) (k + 1) (vs ++ [v])) (hgrow : (w1.alloc o2).grownBy w2 kv.ownBlock) (hat : kv.ownBlock = some gg ∨ gg = w1.heap.size + 1) :
    BuildRel w op ks (k + 1) (.slice (some ⟨gg, 0, none⟩) (k + 1) cap2) (vs ++ [v]) (w2.setCell ⟨w.heap.size + 1, 1, none⟩ (.slice (some ⟨gg, 0, none⟩) (k + 1) cap2)) := by
  obtain ⟨hB1, hown, hvs, hBw⟩ := h
  have hsz : w.heap.size + 1 < wr.heap.size := cell_lt (p := ⟨w.heap.size + 1, 0, none⟩) (cell_of_row wr _ 0 _ _ _ hB1)
  have hsz1 : wr.heap.size + 1 ≤ w1.heap.size := by have := hB.size; simpa using this
  have hn1 : some (w.heap.size + 1) ≠ kv.ownBlock := fun e => by have := (hown.lt _ e.symm).1; omega
  have hgg : w.heap.size + 2 ≤ gg := by
    rcases hat with e | e
    · exact (hown.lt _ e).1
    · omega
  have hb2 : w2.heap[w.heap.size + 1]? = some (.cells #[.string op, kv] 69 (0, 0)) := by
    rw [hgrow.block _ (by simp; omega) hn1, Below.heap_alloc _ _ _ (by omega), hB.block _ (by simp; omega)]
    show (wr.alloc o).heap[_]? = _
    rw [Below.heap_alloc _ _ _ (by omega)]; exact hB1
  have hlen : vs.length = k := by have := hown.1; omega
  have E : ∀ (A : Nat → Prop), (∀ b, A b → b ≠ w.heap.size + 1 ∧ some b ≠ kv.ownBlock) → Ext A w1 (w2.setCell ⟨w.heap.size + 1, 1, none⟩ (.slice (some ⟨gg, 0, none⟩) (k + 1) cap2)) := fun A hA =>
    ((Ext.alloc w1 o2).trans (Ext.grown hgrow fun b hb => (hA b hb).2)).trans (Ext.setCell _ _ _ fun hb => (hA _ hb).1 rfl)
  refine ⟨?_, ownsRow_setCell_below hown2 (by simp) _, ?_, ?_⟩
  · simp [World.setCell, Array.getElem?_modify, hb2]
  · intro i s x hi hsi hx
    have hngg : ∀ b, some b ≠ kv.ownBlock → b < w1.heap.size → some b ≠ (Value.slice (some ⟨gg, 0, none⟩) (k + 1) cap2).ownBlock := fun b hb hbl e => by
      have : b = gg := by simpa [Value.ownBlock] using e
      rcases hat with e' | e'
      · exact hb (by rw [e', this])
      · omega
    by_cases hik : i < k
    · rw [List.getElem?_append_left (by omega)] at hx
      have R := (hvs i s x hik hsi hx).lt.ext (((Ext.alloc wr o).trans (Ext.drew (Ext.refl _ _))).trans (Ext.of_below hB))
      refine (R.ext (E _ fun b hb => ⟨by omega, hb.1.2⟩)).mono fun b hb => ⟨hb.1.1, hngg b hb.1.2 (by omega)⟩
    · obtain rfl : i = k := by omega
      rw [List.getElem?_append_right (by omega), hlen] at hx
      simp at hx
      subst hx
      rw [hs] at hsi
      injection hsi with hsi
      subst hsi
      have hfar : ∀ b, wr.heap.size + 1 ≤ b → some b ≠ kv.ownBlock := fun b hb e => by have := (hown.lt _ e.symm).2; omega
      refine (hv.lt.ext (E _ fun b hb => ?_)).mono fun b hb => ?_
      · simp at hb
        exact ⟨by omega, hfar b (by omega)⟩
      · simp at hb
        exact ⟨by omega, hngg b (hfar b (by omega)) hb.2⟩
  · have h1 : Below w.heap.size w w1 := (bnew hBw o).drew.trans (hB.mono (by simp; omega))
    have h2 : Below w.heap.size w (w1.alloc o2) := bnew h1 o2
    exact (h2.grown hgrow (by simp; omega) (fun j hj => by have := (hown.lt _ hj).1; omega)).setCell (by simp) _

theorem build_end {w wr : World} {op : ByteArray} {ks : List Sh} {kv : Value} {vs : List Value} (h : BuildRel w op ks ks.length kv vs wr) (hop : op.size ≤ 4096) (hks : ks.length ≤ 4096) (hk : 0 < ks.length) :
    EPost w (.mk 0 op ks) (.returned (.iface 66 (.pointer (some ⟨w.heap.size + 1, 0, none⟩)))) wr := by
  obtain ⟨hB1, hown, hvs, hBw⟩ := h
  obtain ⟨g, cap, rfl, hg, hgl⟩ := hown.form hk
  have hlen : vs.length = ks.length := by have := hown.1; omega
  have hcap : ks.length ≤ cap ∧ cap ≤ maxLen := by
    rcases hown.2 with ⟨h, _⟩ | ⟨g', cap', cur, h, _, _, h1, h2, _⟩
    · cases h
    · injection h with _ _ h3
      subst h3
      exact ⟨h1, h2⟩
  refine ⟨_, rfl, .wrap op ks (w.heap.size + 1) g 0 cap (fun i => (vs[i]?).getD .nilIface) hop hks hk hcap.1 hcap.2 (by omega) (by omega)
    (by rw [cell_of_row wr _ _ _ _ _ hB1]; rfl) (by rw [cell_of_row wr _ _ _ _ _ hB1]; rfl) (fun i hi => ?_) (fun i s hs => ?_), hBw⟩
  · rw [hown.cellAt (0 + i) (by omega)]
    simp [hlen, hi]
  · have hi : i < ks.length := (List.getElem?_eq_some_iff.1 hs).1
    have hv : vs[i]? = some vs[i] := List.getElem?_eq_getElem (by omega)
    simp only [hv, Option.getD_some]
    exact (hvs i s _ hi hs hv).mono fun b hb => by omega

set_option maxHeartbeats 1000000 in
theorem build_any (s : Sh) (hg : Good s) : ∀ (A : Nat → Prop) (v0 v1 v2 : Value) (w : World), FRep A w s v0 v1 v2 → Calls Tryd.prog 36 #[.agg #[v0, v1, v2]] w (EPost w s) := by
  obtain ⟨i0, hi0, hz0, hz1, hz2⟩ := info_parts Tryd.info29
  induction hg with
  | code n hn =>
    intro A v0 v1 v2 w h
    cases h with
    | mk c op ks a cap b off cs hop hks hcap hcm ha hc hr =>
    go_enter Tryd.func36, Tryd.ntmps36
    go_wp2_with fail
    go_ret
    exact ⟨_, rfl, .code n, (Below.refl _ _).alloc (Nat.le_refl _) _⟩
  | wrap op ks ho hk hgs ih =>
    intro A v0 v1 v2 w h
    cases h with
    | mk c op ks a cap b off cs hop hks hcap hcm ha hc hr =>
    obtain ⟨ea, hAb⟩ := ha hk
    subst ea
    have HIH := Lib.hid ih
    have HR := Lib.hid hr
    have HC := Lib.hid hc
    have HG := Lib.hid hgs
    have HO := Lib.hid ho
    clear hr hc ih ha hgs ho
    go_enter Tryd.func36, Tryd.ntmps36
    go_wp2_with fail
    go_loopw [20] (fun vi wr => ∃ (k : Nat) (kv : Value) (vs : List Value), k ≤ ks.length ∧ vi = .int .i64 k ∧ BuildRel w op ks k kv vs wr) (fun vi _ => ks.length - (intOf vi).toNat)
    case atStart => exact ⟨0, _, _, by omega, rfl, build_start w op ks _⟩
    case round =>
      obtain ⟨k, kv, vs, hkl, rfl, hB1, hown, hvs, HB⟩ := hrel
      by_cases hlt : k < ks.length
      · obtain ⟨s', a', cap', hs', c0, c1, c2, R⟩ := kid_cells HC.out HR.out hAb (Ext.of_below HB) hlt
        have R1 := (R.ext (Ext.alloc wr (Obj.cells #[Value.int IntKind.i64 s'.code, Value.string s'.op, Value.slice a' s'.kids.length cap'] 27))).ext (Ext.drew (Ext.refl A _))
        have C := HIH.out s' (List.mem_of_getElem? hs') A _ _ _ _ R1
        have CH := Lib.hid C
        have hw0 : wr.cell? ⟨w.heap.size + 1, 0, none⟩ = some (.string op) := by rw [cell_of_row wr _ _ _ _ _ hB1]; rfl
        have hw1 : wr.cell? ⟨w.heap.size + 1, 1, none⟩ = some kv := by rw [cell_of_row wr _ _ _ _ _ hB1]; rfl
        have hsz : w.heap.size + 1 < wr.heap.size := cell_lt hw0
        have hn1 : some (w.heap.size + 1) ≠ kv.ownBlock := fun e => by have := (hown.lt _ e.symm).1; omega
        have hn2 : some wr.heap.size ≠ kv.ownBlock := fun e => by have := (hown.lt _ e.symm).2; omega
        have hfr : (wr.alloc (Obj.cells #[Value.int IntKind.i64 s'.code, Value.string s'.op, Value.slice a' s'.kids.length cap'] 27)).drew.frozen? ⟨w.heap.size + 1, 1, none⟩ = false := by
          show (wr.alloc _).frozen? _ = _
          rw [World.frozen?_alloc_old _ _ _ (by simp; omega)]
          simp [World.frozen?, hB1]
        have HV : Hid (BuildRel w op ks k kv vs wr ∧ ks[k]? = some s') := ⟨⟨hB1, hown, hvs, HB⟩, hs'⟩
        clear hs' hvs C R R1
        go_wp2_with fail

        go_region_law (first
            | (go_simp; go_at_call 36; refine CH.out.mono ?_; rintro e w1 ⟨v, rfl, hv, hB⟩; obtain ⟨t, u, rfl⟩ := hv.form; have hsz1 : wr.heap.size + 1 ≤ w1.heap.size := by { have := hB.size; simpa using this }; have hx1 := keep_below hB (keep_alloc (o := Obj.cells #[Value.int IntKind.i64 s'.code, Value.string s'.op, Value.slice a' s'.kids.length cap'] 27) hw1); have hx1a : ∀ o, (w1.alloc o).cell? ⟨w.heap.size + 1, 1, none⟩ = some kv := fun o => keep_alloc hx1)
            | (refine step_append_lies _ (by rfl) _ _ _ (by rfl) (w.heap.size + 2) 29 i0 _ 1 16 Tryd.underlying24 hi0 hz0 hz1 hz2 rfl (by omega) kv k vs (by rfl) ((own_below ((hown.alloc _).drew) hB).alloc _) ⟨w1.heap.size, 0, none⟩ 1 1 [.iface t u] (by rfl) (by rfl) (World.news_of_block (heap_alloc_new w1 _)) (by simp [Value.oneCell']) (by omega) (by unfold maxLen; omega) (by omega) (by simp; omega) (w1.heap.size + 1) (by simp) ?_
               intro gg cap2 w2 hown2 hgrow hat hlt2
               have hx2 := keep_grown hgrow hn1 (keep_alloc hx1)
               have hf2 : w2.frozen? ⟨w.heap.size + 1, 1, none⟩ = false := by
                 rw [hgrow.frozen_far _ (by simp; omega) hn1, World.frozen?_alloc_old _ _ _ (by simp; omega), hB.frozen (p := ⟨w.heap.size + 1, 1, none⟩) (by simp; omega)]; exact hfr))
        all_goals
          go_wp2_with fail
          go_roundw
          case rel => exact ⟨k + 1, _, _, by omega, by go_num, build_step HV.out.1 HV.out.2 hB hv hown2 hgrow hat⟩
          case measure => simp [intOf]; omega
      · have HV : Hid (BuildRel w op ks k kv vs wr) := ⟨hB1, hown, hvs, HB⟩
        clear hvs
        obtain rfl : k = ks.length := by omega
        go_wp2_with fail
        go_ret
        exact build_end HV.out hop hks hk
/-- Make of a shape that may be. -/
theorem make_yes (A : Nat → Prop) (s : Sh) (v0 v1 v2 : Value) (w : World) (h : FRep A w s v0 v1 v2) (hs : (sizeP 20 s).2.2 = true) : Calls Tryd.prog 12 #[.agg #[v0, v1, v2]] w (EPost w s) := by
  obtain ⟨a, cap, rfl, rfl, rfl⟩ := h.form
  have hg := good_of_size _ _ hs
  have C := size_any 20 (by omega) A s _ _ _ _ (h.ext (Ext.alloc w (Obj.cells #[Value.int IntKind.i64 s.code, Value.string s.op, Value.slice a s.kids.length cap] 27)))
  have hbd := sizeP_bd 20 s
  generalize sizeP 20 s = r at hs hbd C
  obtain ⟨n, d, ok⟩ := r
  simp only at hs hbd C
  subst hs
  obtain ⟨hn, hd⟩ := hbd
  have CH := Lib.hid C
  have R := Lib.hid (h.ext (Ext.alloc w (Obj.cells #[Value.int IntKind.i64 s.code, Value.string s.op, Value.slice a s.kids.length cap] 27)))
  have HG := Lib.hid hg
  have h50 : decide ((50 : Int) < (n : Int)) = false := by simp; omega
  have h20 : decide ((20 : Int) < (d : Int)) = false := by simp; omega
  clear C hg h
  go_enter Tryd.func12, Tryd.ntmps12
  go_wp2_with (go_at_call 35; refine CH.out.mono ?_; rintro e w1 ⟨rfl, hB1⟩; obtain ⟨b0, b1, b2⟩ := box3 hB1)
  have C2 := build_any s HG.out A _ _ _ _ (R.out.ext (Ext.of_below hB1))
  refine C2.mono ?_
  rintro e w2 ⟨v, rfl, hv, hB2⟩
  go_wp2_with fail
  go_ret
  have hb := bcall (bnew (Below.refl _ w) _) hB1
  exact ⟨_, rfl, hv.mono fun b hx => Nat.le_trans hb.size hx, bcall hb hB2⟩

theorem make_no (A : Nat → Prop) (s : Sh) (v0 v1 v2 : Value) (w : World) (h : FRep A w s v0 v1 v2) (hs : (sizeP 20 s).2.2 = false) : Calls Tryd.prog 12 #[.agg #[v0, v1, v2]] w fun e w' => e = .returned .nilIface ∧ Below w.heap.size w w' := by
  obtain ⟨a, cap, rfl, rfl, rfl⟩ := h.form
  have C := size_any 20 (by omega) A s _ _ _ _ (h.ext (Ext.alloc w (Obj.cells #[Value.int IntKind.i64 s.code, Value.string s.op, Value.slice a s.kids.length cap] 27)))
  have hbd := sizeP_bd 20 s
  generalize sizeP 20 s = r at hs hbd C
  obtain ⟨n, d, ok⟩ := r
  simp only at hs hbd C
  subst hs
  obtain ⟨hn, hd⟩ := hbd
  have CH := Lib.hid C
  clear C
  go_enter Tryd.func12, Tryd.ntmps12
  go_wp2_with (go_at_call 35; refine CH.out.mono ?_; rintro e w1 ⟨rfl, hB1⟩)
  go_ret
  exact ⟨rfl, bcall (bnew (Below.refl _ w) _) hB1⟩
end Go.Proofs.YtpdljglamjanmaaDoor
