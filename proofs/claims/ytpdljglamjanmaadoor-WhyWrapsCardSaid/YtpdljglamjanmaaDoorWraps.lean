/-
  tarpaulinlaw2.FaultWraps: THE WALK.
-/
import Derived.Test.YtpdljglamjanmaaDoorPure5
import Derived.Test.YtpdljglamjanmaaDoorDeep
import Derived.Test.YtpdljglamjanmaaDoorSame
namespace Go.Proofs.YtpdljglamjanmaaDoor
open Go.RowKit Go.Extern.Stop Go.Stop Go.Extern

theorem m_start {W0 : World} {B0 : Nat} (h : W0.heap[B0]? = some (.cells #[.int .i64 0, .string allB, .slice none 0 0] 27 (0, 0))) : MRel W0 B0 [] 0 (.slice none 0 0) [] 0 (.slice none 0 0) W0 :=
  ⟨cell_lt (p := ⟨B0, 0, none⟩) (cell_of_row W0 B0 0 _ _ _ h), h, World.ownsRow_nil _ _ _ _, World.ownsRow_nil _ _ _ _, fun b hb => by simp [Value.ownBlock] at hb, World.grownBy.refl _ _⟩

theorem m_keep {W0 wr w1 : World} {B0 : Nat} {xs : List Value} {m : Nat} {kv : Value} {ys : List Value} {k : Nat} {ev : Value} (h : MRel W0 B0 xs m kv ys k ev wr) (hB : Below wr.heap.size wr w1) : MRel W0 B0 xs m kv ys k ev w1 := by
  obtain ⟨h0, hb, o1, o2, ha, hg⟩ := h
  exact ⟨h0, blk_below hb hB, own_below o1 hB, own_below o2 hB, ha, only_trans hg (below_only hB (some B0))⟩

theorem m_kid {W0 wr w1 w2 : World} {B0 : Nat} {xs : List Value} {m : Nat} {kv : Value} {ys : List Value} {k : Nat} {ev : Value} {news : List Value} {gg cap2 : Nat} (h : MRel W0 B0 xs m kv ys k ev wr) (hB : Below wr.heap.size wr w1)
    (hown2 : w2.ownsRow W0.heap.size 27 3 (.slice (some ⟨gg, 0, none⟩) (m + 1) cap2) (m + 1) (xs ++ news)) (hgrow : w1.grownBy w2 kv.ownBlock) (hat : kv.ownBlock = some gg ∨ gg = w1.heap.size) :
    MRel W0 B0 (xs ++ news) (m + 1) (.slice (some ⟨gg, 0, none⟩) (m + 1) cap2) ys k ev (w2.setCell ⟨B0, 2, none⟩ (.slice (some ⟨gg, 0, none⟩) (m + 1) cap2)) := by
  obtain ⟨h0, hb, o1, o2, ha, hg⟩ := m_keep h hB
  have hn1 : some B0 ≠ kv.ownBlock := fun e => by have := (o1.lt _ e.symm).1; omega
  have hb2 : w2.heap[B0]? = some (.cells #[.int .i64 0, .string allB, kv] 27 (0, 0)) := by
    have := hg.size
    rw [hgrow.block _ (by omega) hn1]; exact hb
  refine ⟨h0, by simp [World.setCell, Array.getElem?_modify, hb2], ?_, ?_, ?_, ?_⟩
  · have := ownsRow_setCell_below hown2 (a := ⟨B0, 2, none⟩) (by simpa using h0) (.slice (some ⟨gg, 0, none⟩) (m + 1) cap2)
    simpa using this
  · have := ownsRow_setCell_below (o2.kept hgrow (by
      cases hev : ev.ownBlock with
      | none => exact .inl rfl
      | some b => exact .inr fun e => ha b e.symm hev)) (a := ⟨B0, 2, none⟩) (by simpa using h0) (.slice (some ⟨gg, 0, none⟩) (m + 1) cap2)
    simpa using this
  · intro b hb'
    have : b = gg := by simpa [Value.ownBlock] using hb'.symm
    subst this
    rcases hat with e | e
    · exact ha _ e
    · intro h'
      have := (o2.lt _ h').2
      omega
  · refine ⟨hgrow.os.trans hg.os, hgrow.tape.trans hg.tape, hgrow.output.trans hg.output, by have := hg.size; have := hgrow.size; simp [World.setCell]; omega, fun j hj hne => ?_⟩
    rw [Below.heap_setCell _ _ _ _ (fun e => hne (by rw [e])), hgrow.block j (by have := hg.size; omega) (fun e => by have := (o1.lt _ e.symm).1; omega)]
    exact hg.block j hj hne

theorem m_err {W0 wr w1 w2 : World} {B0 : Nat} {xs : List Value} {m : Nat} {kv : Value} {ys : List Value} {k : Nat} {ev : Value} {news : List Value} {gg cap2 : Nat} (h : MRel W0 B0 xs m kv ys k ev wr) (hB : Below wr.heap.size wr w1)
    (hown2 : w2.ownsRow W0.heap.size 29 1 (.slice (some ⟨gg, 0, none⟩) (k + 1) cap2) (k + 1) (ys ++ news)) (hgrow : w1.grownBy w2 ev.ownBlock) (hat : ev.ownBlock = some gg ∨ gg = w1.heap.size) :
    MRel W0 B0 xs m kv (ys ++ news) (k + 1) (.slice (some ⟨gg, 0, none⟩) (k + 1) cap2) w2 := by
  obtain ⟨h0, hb, o1, o2, ha, hg⟩ := m_keep h hB
  have hn1 : some B0 ≠ ev.ownBlock := fun e => by have := (o2.lt _ e.symm).1; omega
  refine ⟨h0, ?_, ?_, hown2, ?_, ?_⟩
  · have := hg.size
    rw [hgrow.block _ (by omega) hn1]; exact hb
  · exact o1.kept hgrow (by
      cases hkv : kv.ownBlock with
      | none => exact .inl rfl
      | some b => exact .inr fun e => ha b hkv e.symm)
  · intro b hb' h'
    have : gg = b := by simpa [Value.ownBlock] using h'
    subst this
    rcases hat with e | e
    · exact ha _ hb' e
    · have := (o1.lt _ hb').2
      omega
  · refine ⟨hgrow.os.trans hg.os, hgrow.tape.trans hg.tape, hgrow.output.trans hg.output, by have := hg.size; have := hgrow.size; omega, fun j hj hne => ?_⟩
    rw [hgrow.block j (by have := hg.size; omega) (fun e => by have := (o2.lt _ e.symm).1; omega)]
    exact hg.block j hj hne

theorem flat_triple {α : Type} {β : Type} (f g h : α → β) : ∀ (l : List α) (i : Nat) (c : α), l[i]? = some c →
    (l.flatMap fun c => [f c, g c, h c])[i * 3]? = some (f c) ∧ (l.flatMap fun c => [f c, g c, h c])[i * 3 + 1]? = some (g c) ∧ (l.flatMap fun c => [f c, g c, h c])[i * 3 + 2]? = some (h c)
  | [], i, c, hi => by simp at hi
  | x :: l, 0, c, hi => by simp at hi; subst hi; simp
  | x :: l, i + 1, c, hi => by
    have ih := flat_triple f g h l i c (by simpa using hi)
    simp only [List.flatMap_cons]
    refine ⟨?_, ?_, ?_⟩
    · rw [List.getElem?_append_right (by simp; omega)]
      simpa [show (i + 1) * 3 - 3 = i * 3 by omega] using ih.1
    · rw [List.getElem?_append_right (by simp; omega)]
      simpa [show (i + 1) * 3 + 1 - 3 = i * 3 + 1 by omega] using ih.2.1
    · rw [List.getElem?_append_right (by simp; omega)]
      simpa [show (i + 1) * 3 + 2 - 3 = i * 3 + 2 by omega] using ih.2.2
theorem kidVs_eq : ∀ zs, kidVs zs = (zs.filter (fun c => decide (0 < c))).flatMap (fun c => [.int .i64 c, .string ⟨#[]⟩, .slice none 0 0])
  | [] => rfl
  | c :: zs => by
    have ih := kidVs_eq zs
    unfold kidVs kidV at *
    by_cases h : 0 < c <;> simp [h, ih]

theorem m_kids {W0 wr : World} {B0 : Nat} {zs : List Int} {m : Nat} {kv : Value} {ys : List Value} {k : Nat} {ev : Value} (h : MRel W0 B0 (kidVs zs) m kv ys k ev wr) (hz : zs.length ≤ 15) (hm : m = (posK zs).length) :
    ∃ a cap, kv = .slice a (posK zs).length cap ∧ FRep (fun b => W0.heap.size ≤ b) wr (joinS zs) (.int .i64 0) (.string allB) (.slice a (posK zs).length cap) := by
  obtain ⟨h0, hb, hown, o2, ha, hg⟩ := h
  subst hm
  have hn := posK_len zs
  rcases hown.2 with ⟨rfl, hz'⟩ | ⟨g, cap, cur, rfl, hgb, hh, h1, h2, _⟩
  · have : posK zs = [] := List.eq_nil_of_length_eq_zero hz'
    unfold joinS
    rw [this]
    exact ⟨none, 0, rfl, .mk 0 allB [] none 0 0 0 (fun _ => undef) (by decide) (by simp) (by simp) (by simp) (by simp) (by simp) (by simp)⟩
  · refine ⟨some ⟨g, 0, none⟩, cap, rfl, .mk 0 allB (posK zs) (some ⟨g, 0, none⟩) cap g 0 (fun j => ((kidVs zs)[j]?).getD undef) (by decide) (by omega) h1 h2 (fun _ => ⟨rfl, hgb⟩) (fun j hj => ?_) ?_⟩
    · rw [Nat.zero_add, hown.cellAt j hj, List.getElem?_eq_getElem (by rw [kidVs_len]; omega)]; rfl
    · intro i s hs
      unfold posK at hs
      rw [List.getElem?_map] at hs
      obtain ⟨c, hc, rfl⟩ := Option.map_eq_some_iff.1 hs
      obtain ⟨e0, e1, e2⟩ := flat_triple (fun c : Int => Value.int .i64 c) (fun _ => Value.string ⟨#[]⟩) (fun _ => Value.slice none 0 0) _ i c hc
      rw [kidVs_eq]
      simp only [e0, e1, e2, Option.getD_some]
      exact lit_code _ _ c

theorem m_errs {W0 wr : World} {B0 : Nat} {zs : List Int} {m : Nat} {kv : Value} {xs : List Value} {ev : Value} (h : MRel W0 B0 xs m kv (errVs zs) zs.length ev wr) (hz : zs.length ≤ 15) : LRep (fun b => W0.heap.size ≤ b) wr (ers zs) ev := by
  obtain ⟨h0, hb, o1, hown, ha, hg⟩ := h
  have hl : (ers zs).length = zs.length := by simp [ers]
  have key : ∀ i o, (ers zs)[i]? = some o → ∃ c, zs[i]? = some c ∧ o = errOf c := fun i o ho => by
    unfold ers at ho
    rw [List.getElem?_map] at ho
    obtain ⟨c, hc, rfl⟩ := Option.map_eq_some_iff.1 ho
    exact ⟨c, hc, rfl⟩
  rcases hown.2 with ⟨rfl, hz'⟩ | ⟨g, cap, cur, rfl, hgb, hh, h1, h2, _⟩
  · have : zs = [] := List.eq_nil_of_length_eq_zero hz'
    subst this
    exact ⟨none, 0, 0, 0, rfl, by simp [ers], fun h => by simp [ers] at h, fun i o hi => by simp [ers] at hi⟩
  · refine ⟨some ⟨g, 0, none⟩, cap, g, 0, by rw [hl], by omega, fun _ => ⟨rfl, hgb⟩, fun i o ho => ?_⟩
    obtain ⟨c, hc, rfl⟩ := key i o ho
    have hi := (List.getElem?_eq_some_iff.1 hc).1
    refine ⟨errV c, ?_, ?_⟩
    · rw [Nat.zero_add, hown.cellAt i (by omega)]
      unfold errVs
      rw [List.getElem?_map, hc]; rfl
    · unfold errOf errV
      by_cases h : 0 < c
      · rw [if_pos h, if_pos h]
        exact ⟨.code c h, .code c⟩
      · rw [if_neg h, if_neg h]; rfl

theorem code_form {A : Nat → Prop} {w : World} {c : Int} {v : Value} (h : ERep A w (codeS c) v) : v = .iface 40 (.agg #[.int .i64 c]) := by
  unfold codeS at h
  generalize hs : Sh.mk c ⟨#[]⟩ [] = s at h
  cases h with
  | code n => injection hs with h1; rw [h1]
  | wrap op ks b kb koff cap vs hop hks hpos => injection hs with h1 h2 h3; subst h3; simp at hpos

/-- A shape's only kid. -/
theorem kid0 {A : Nat → Prop} {w : World} {c : Int} {op : ByteArray} {s : Sh} {x y : Value} {a : Option Addr} {cap : Nat} (h : FRep A w (.mk c op [s]) x y (.slice a 1 cap)) :
    ∃ b off ka kc, a = some ⟨b, off, none⟩ ∧ w.cell? ⟨b, off, none⟩ = some (.int .i64 s.code) ∧ w.cell? ⟨b, off + 1, none⟩ = some (.string s.op) ∧ w.cell? ⟨b, off + 2, none⟩ = some (.slice ka s.kids.length kc) ∧ FRep A w s (.int .i64 s.code) (.string s.op) (.slice ka s.kids.length kc) := by
  generalize hs : Sh.mk c op [s] = t at h
  generalize hz : Value.slice a 1 cap = z at h
  cases h with
  | mk c op ks a2 cap2 b off cs hop hks hcap hcm ha hc hr =>
    injection hs with e1 e2 e3
    subst e3
    injection hz with f1 f2 f3
    subst f1
    obtain ⟨ea, hA⟩ := ha (by simp)
    subst ea
    obtain ⟨s', ka, kc, hs', c0, c1, c2, R⟩ := kid_cells hc hr hA (Ext.refl A w) (k := 0) (by simp)
    obtain rfl : s = s' := by simpa using hs'
    exact ⟨b, off, ka, kc, rfl, by simpa using c0, by simpa using c1, by simpa using c2, R⟩

set_option maxHeartbeats 8000000 in
set_option maxRecDepth 20000 in
theorem wraps_any (zs : List Int) (op : ByteArray) (v : Value) (w : World) (hI : IRep w zs v) (hT : ErrT w) : Calls Tryd.prog 3 #[v, .string op] w fun e w' => e = .returned (.bool true) ∧ Below w.heap.size w w' := by
  obtain ⟨i0, hi0, hz0, hz1, hz2⟩ := info_parts Tryd.info27
  obtain ⟨j0, hj0, jz0, jz1, jz2⟩ := info_parts Tryd.info29
  obtain ⟨a, cap, b, off, rfl, hmx, hab, hc⟩ := hI
  have HT := Lib.hid hT
  clear hT
  by_cases hin : zs.length ≤ 15 ∧ op.size ≤ 50
  · obtain ⟨h1, h2⟩ := hin
    have d1 : decide ((15 : Int) < (zs.length : Int)) = false := by simp; omega
    have d2 : decide ((50 : Int) < (op.size : Int)) = false := by simp; omega
    obtain ⟨W0, hW0⟩ : ∃ W0, W0 = w.alloc (.cells #[.int .i64 0, .string allB, .slice none 0 0] 27) := ⟨_, rfl⟩
    have hx0 : W0.heap[w.heap.size]? = some (.cells #[.int .i64 0, .string allB, .slice none 0 0] 27 (0, 0)) := by rw [hW0]; exact heap_alloc_new w _
    have hwW0 : Below w.heap.size w W0 := by rw [hW0]; exact bnew (Below.refl _ w) _
    have hsw : W0.heap.size = w.heap.size + 1 := by rw [hW0]; simp
    have HW0 : Hid (W0 = w.alloc (.cells #[.int .i64 0, .string ⟨#[97, 108, 108]⟩, .slice none 0 0] 27)) := hW0
    have HC := Lib.hid hc
    have HAB := Lib.hid hab
    clear hW0 hc hab
    go_enter Tryd.func3, Tryd.ntmps3
    go_wp2_with fail
    rw [← HW0.out]
    go_loopw [5, 7] (fun ev vi wr => ∃ (k : Nat) (kv : Value), k ≤ zs.length ∧ vi = .int .i64 k ∧ MRel W0 w.heap.size (kidVs (zs.take k)) (posK (zs.take k)).length kv (errVs (zs.take k)) k ev wr) (fun _ vi _ => zs.length - (intOf vi).toNat)
    case atStart => exact ⟨0, _, by omega, rfl, m_start hx0⟩
    case round =>
      obtain ⟨k, kv, hkl, rfl, hM⟩ := hrel
      have HM := Lib.hid hM
      obtain ⟨_, hbB, hown1, hown2, hap, hgr⟩ := hM
      have hszr : W0.heap.size ≤ wr.heap.size := hgr.size
      by_cases hlt : k < zs.length
      · obtain ea := HAB.out (by omega)
        subst ea
        have hkc : (k : Int) < (zs.length : Int) := by omega
        have hk0 : (0 : Int) ≤ (k : Int) := by omega
        obtain ⟨c, hcz⟩ : ∃ c, zs[k]? = some c := ⟨_, List.getElem?_eq_getElem hlt⟩
        have hcw := HC.out k hlt
        have hbl : b < w.heap.size := cell_lt hcw
        have hcr : wr.cell? ⟨b, off + k, none⟩ = some (.int .i64 c) := by
          rw [hgr.cell_far _ (by simp; omega) (fun e => by injection e with e; simp at e; omega), hwW0.cell (by simpa using hbl), hcw]
          simp [List.getD, hcz]
        have hkt := kidVs_take zs k c hcz
        have het := errVs_take zs k c hcz
        have hpt := posK_take zs k c hcz
        by_cases hc0 : 0 < c
        · have d0 : decide (0 < c) = true := by simpa using hc0
          rw [if_pos hc0] at hpt
          have e0 : kidV c = [.int .i64 c, .string ⟨#[]⟩, .slice none 0 0] := if_pos hc0
          have e1 : errV c = .iface 40 (.agg #[.int .i64 c]) := if_pos hc0
          rw [e0] at hkt
          rw [e1] at het
          have hpl : (posK (zs.take (k + 1))).length = (posK (zs.take k)).length + 1 := by rw [hpt]; simp
          have HT3 := Lib.hid (And.intro hkt (And.intro het hpl))
          have hml : (posK (zs.take k)).length ≤ 15 := by have := posK_len (zs.take k); simp at this; omega
          generalize (posK (zs.take k)).length = m at HM hown1 HT3 hml
          have C := make_any (fun _ => True) _ _ _ _ wr (lit_code _ wr c)
          rw [show (Sh.mk c ⟨#[]⟩ []) = codeS c from rfl, make_code c hc0] at C
          have CH := Lib.hid C
          have z2 : wr.cell? ⟨w.heap.size, 2, none⟩ = some kv := by rw [cell_of_row wr _ _ _ _ _ hbB]; rfl
          have zf : wr.frozen? ⟨w.heap.size, 2, none⟩ = false := by simp [World.frozen?, hbB]
          have hn1 : some w.heap.size ≠ kv.ownBlock := fun e => by have := (hown1.lt _ e.symm).1; omega
          have hn2 : some b ≠ kv.ownBlock := fun e => by have := (hown1.lt _ e.symm).1; omega
          have hbs : w.heap.size < wr.heap.size := cell_lt z2
          clear hkt het hpt hpl hbB hap hgr hx0 hwW0 hsw hcw C
          go_wp2_with (go_at_call 12; refine CH.out.mono ?_; rintro e w1 ⟨v1, rfl, ⟨_, hv1⟩, hB1⟩; obtain rfl := code_form hv1; have hs1 := hB1.size; have x2 := keep_below hB1 z2; have xc := keep_below hB1 hcr; have x2a := fun o => keep_alloc (o := o) x2; have xca := fun o => keep_alloc (o := o) xc)
          go_region_law (first
            | (refine step_append_lies _ (by rfl) _ _ _ (by rfl) W0.heap.size 27 i0 _ 3 48 Tryd.underlying25 hi0 hz0 hz1 hz2 rfl (by omega) kv m (kidVs (zs.take k)) (by rfl) (((own_below hown1 hB1).alloc _).drew) ⟨w1.heap.size, 0, none⟩ 1 1 [.int .i64 c, .string ⟨#[]⟩, .slice none 0 0] (by rfl) (by rfl) (World.news_of_block (heap_alloc_new w1 _)) (by simp [Value.oneCell']) (by omega) (by unfold maxLen; omega) (by omega) (by simp; omega) (w1.heap.size + 1) (by simp) ?_
               intro gg cap2 w2 hown3 hgrow hat hlt2
               have hx2 := keep_grown hgrow hn1 (x2a _)
               have hf2 : w2.frozen? ⟨w.heap.size, 2, none⟩ = false := by
                 rw [hgrow.frozen_far _ (by simp; omega) hn1]
                 show (w1.alloc _).frozen? _ = _
                 rw [World.frozen?_alloc_old _ _ _ (by simp; omega), hB1.frozen (p := ⟨w.heap.size, 2, none⟩) (by simp; omega)]; exact zf))
          all_goals
            obtain ⟨W3, hW3⟩ : ∃ W3, W3 = w2.setCell ⟨w.heap.size, 2, none⟩ (.slice (some ⟨gg, 0, none⟩) (m + 1) cap2) := ⟨_, rfl⟩
            rw [← hW3]
            have hM2 : MRel W0 w.heap.size (kidVs (zs.take k) ++ [.int .i64 c, .string ⟨#[]⟩, .slice none 0 0]) (m + 1) (.slice (some ⟨gg, 0, none⟩) (m + 1) cap2) (errVs (zs.take k)) k u5 W3 := by
              rw [hW3]
              exact m_kid (w1 := (w1.alloc (.cells #[.int .i64 c, .string ⟨#[]⟩, .slice none 0 0] 27)).drew) HM.out ((bnew hB1 _).drew) hown3 hgrow (by simpa using hat)
            have own2 := hM2.2.2.2.1
            have hsz3 : W0.heap.size ≤ W3.heap.size := hM2.2.2.2.2.2.size
            have hM3 := Lib.hid hM2
            clear hM2 hW3 hx2 hf2 hown3 hgrow hat hlt2
            go_wp2_with (at_builtin; refine wpList_append_lies (w := _) (hgd := rfl) (s := _) (x := _) (t := _) (ho := rfl) (base := W0.heap.size) (e := 29) (i := j0) (z := _) (size := 1) (bytes := 16) (ht := Tryd.underlying24) (hi := hj0) (hz := jz0) (hsize := jz1) (hby := jz2) (hzs := rfl) (hsz := by omega) (v := u5) (n := k) (xs := errVs (zs.take k)) (hs := ?_) (hown := ?_) (ad := ⟨W3.heap.size, 0, none⟩) (m := 1) (c := 1) (news := [.iface 40 (.agg #[.int .i64 c])]) (hx := ?_) (hl := ?_) (hnews := ?_) (h1 := ?_) (hm := by omega) (h63 := ?_) (hbytes := ?_) (hbase := ?_) (H := _) (hH := rfl) (h := ?_); (rfl); (exact own2.alloc _); (rfl); (rfl); (exact World.news_of_block (heap_alloc_new _ _)); (simp [Value.oneCell']); (unfold maxLen; omega); (omega); (first | omega | (simp; omega)); intro gg3 cap3 u3 hown4 hgrow3 hat3 hlt3)
            case roundEnd =>
              have hst := m_err (w1 := W3.alloc (.cells #[.iface 40 (.agg #[.int .i64 c])] 29)) (w2 := u3) (gg := gg3) (cap2 := cap3) hM3.out (bnew (Below.refl _ W3) _) hown4 hgrow3 (by simpa using hat3)
              obtain ⟨hkt, het, hpl⟩ := HT3.out
              rw [← het, ← hkt, ← hpl] at hst
              exact ⟨⟨k + 1, _, by omega, by go_num, hst⟩, by simp [intOf]; omega⟩
        · have d0 : decide (0 < c) = false := by simpa using hc0
          rw [if_neg hc0] at hpt
          have e0 : kidV c = [] := if_neg hc0
          have e1 : errV c = .nilIface := if_neg hc0
          rw [e0, List.append_nil] at hkt
          rw [e1] at het
          have HT3 := Lib.hid (And.intro hkt (And.intro het hpt))
          clear hkt het hpt hbB hown1 hap hgr hx0 hwW0 hsw hcw
          go_wp2_with (at_builtin; refine wpList_append_lies (w := _) (hgd := rfl) (s := _) (x := _) (t := _) (ho := rfl) (base := W0.heap.size) (e := 29) (i := j0) (z := _) (size := 1) (bytes := 16) (ht := Tryd.underlying24) (hi := hj0) (hz := jz0) (hsize := jz1) (hby := jz2) (hzs := rfl) (hsz := by omega) (v := u5) (n := k) (xs := errVs (zs.take k)) (hs := ?_) (hown := ?_) (ad := ⟨wr.heap.size, 0, none⟩) (m := 1) (c := 1) (news := [.nilIface]) (hx := ?_) (hl := ?_) (hnews := ?_) (h1 := ?_) (hm := by omega) (h63 := ?_) (hbytes := ?_) (hbase := ?_) (H := _) (hH := rfl) (h := ?_); (rfl); (exact hown2.alloc _); (rfl); (rfl); (exact World.news_of_block (heap_alloc_new _ _)); (simp [Value.oneCell']); (unfold maxLen; omega); (omega); (first | omega | (simp; omega)); intro gg cap2 u2 hown3 hgrow hat hlt2)
          case roundEnd =>
            have hst := m_err (w1 := wr.alloc (.cells #[.nilIface] 29)) (w2 := u2) (gg := gg) (cap2 := cap2) HM.out (bnew (Below.refl _ wr) _) hown3 hgrow (by simpa using hat)
            obtain ⟨hkt, het, hpt⟩ := HT3.out
            rw [← het, ← hkt, ← hpt] at hst
            exact ⟨⟨k + 1, kv, by omega, by go_num, hst⟩, by simp [intOf]; omega⟩
      · obtain rfl : k = zs.length := by omega
        rw [List.take_length] at HM
        obtain ⟨a', cap', rfl, hF⟩ := m_kids HM.out h1 rfl
        have hE := m_errs HM.out h1
        have hwr : Below w.heap.size w wr := hwW0.trans ⟨hgr.os, hgr.tape, hgr.output, hgr.size, fun i hi => hgr.block i (by omega) (fun e => by injection e with e; omega)⟩
        have q0 : wr.cell? ⟨w.heap.size, 0, none⟩ = some (.int .i64 0) := by rw [cell_of_row wr _ _ _ _ _ hbB]; rfl
        have q1 : wr.cell? ⟨w.heap.size, 1, none⟩ = some (.string allB) := by rw [cell_of_row wr _ _ _ _ _ hbB]; rfl
        have q2 : wr.cell? ⟨w.heap.size, 2, none⟩ = some (.slice a' (posK zs).length cap') := by rw [cell_of_row wr _ _ _ _ _ hbB]; rfl
        have C13 := join_any _ _ _ wr hE (errT_keep HT.out hwr)
        rw [join_ers zs h1] at C13
        by_cases h0 : posK zs = []
        · rw [if_pos h0] at C13
          rw [h0] at q2
          have CH := Lib.hid C13
          clear C13 hE hF hbB hown1 hown2 hap hgr hx0 hwW0 hsw
          go_wp2_with fail
          refine CH.out.mono ?_
          rintro e w1 ⟨v1, rfl, hv1, hB1⟩
          obtain rfl : v1 = .nilIface := hv1
          have hb1 := bcall hwr hB1
          have q2' := keep_below hB1 q2
          go_wp2_with fail
          refine (wrap_any op (by omega) (fun _ => True) none .nilIface w1 rfl (errT_keep HT.out hb1)).mono ?_
          rintro e w2 ⟨v2, rfl, hv2, hB2⟩
          obtain rfl : v2 = .nilIface := hv2
          have hb2 := bcall hb1 hB2
          have q2'' := keep_below hB2 q2'
          go_wp2_with fail
          refine (awake_any w2 (errT_keep HT.out hb2)).mono ?_
          rintro e w3 ⟨rfl, hB3⟩
          go_wp2_with fail
          go_ret
          exact ⟨rfl, bcall hb2 hB3⟩
        · rw [if_neg h0] at C13
          have CH := Lib.hid C13
          have hFh := Lib.hid hF
          have hm0 : (((posK zs).length : Int) == 0) = false := by
            have := List.length_pos_iff.2 h0
            simp; omega
          clear C13 hE hF hbB hown1 hown2 hap hgr hx0 hwW0 hsw
          go_wp2_with fail
          refine CH.out.mono ?_
          rintro e w1 ⟨v1, rfl, ⟨hg1, hv1⟩, hB1⟩
          have hb1 := bcall hwr hB1
          have C14 := wrap_any op (by omega) _ (some (joinS zs)) v1 w1 ⟨hg1, hv1⟩ (errT_keep HT.out hb1)
          rw [wrap_join op zs h1 h0] at C14
          have CH14 := Lib.hid C14
          have q0' := keep_below hB1 q0
          have q1' := keep_below hB1 q1
          have q2' := keep_below hB1 q2
          have hF1 := Lib.hid (hFh.out.ext (Ext.of_below hB1))
          clear C14 q0 q1 q2 hFh CH
          go_wp2_with fail
          refine CH14.out.mono ?_
          rintro e w2 ⟨v2, rfl, hv2, hB2⟩
          have hb2 := bcall hb1 hB2
          have q0 := keep_below hB2 q0'
          have q1 := keep_below hB2 q1'
          have q2 := keep_below hB2 q2'
          have hF2 := Lib.hid (hF1.out.ext (Ext.of_below hB2))
          have hv1' := hv1.ext (Ext.of_below hB2)
          have C15 := Lib.hid (shape_any (joinS zs) hg1 _ v1 w2 hv1' (errT_keep HT.out hb2))
          clear q0' q1' q2' hF1 CH14 hv1
          go_wp2_with fail
          refine C15.out.mono ?_
          rintro e w3 ⟨fa, fc, rfl, hG, hB3⟩
          have e1 : (joinS zs).code = 0 := rfl
          have e2 : (joinS zs).op = allB := rfl
          have e3 : (joinS zs).kids.length = (posK zs).length := rfl
          rw [e1, e2, e3] at hG ⊢
          have hb3 := bcall hb2 hB3
          have hb3' := bnew hb3 (.cells #[.int .i64 0, .string allB, .slice fa (posK zs).length fc] 27)
          have r0 := fun o => keep_alloc (o := o) (keep_below hB3 q0)
          have r1 := fun o => keep_alloc (o := o) (keep_below hB3 q1)
          have r2 := fun o => keep_alloc (o := o) (keep_below hB3 q2)
          have hFa := (hF2.out.ext (Ext.of_below hB3)).ext (Ext.alloc w3 (.cells #[.int .i64 0, .string allB, .slice fa (posK zs).length fc] 27))
          have hGa := hG.ext (Ext.alloc w3 (.cells #[.int .i64 0, .string allB, .slice fa (posK zs).length fc] 27))
          have C16 := Lib.hid (same_any hGa _ _ _ _ (Ext.refl _ _) hFa)
          have hFb := Lib.hid hFa
          have hv2' := hv2.ext (Ext.of_below hB3)
          clear hG hGa hFa hF2 hv2 C15 q0 q1 q2
          go_wp2_with fail
          refine C16.out.mono ?_
          rintro e w4 ⟨rfl, hB4⟩
          have hb4 := bcall hb3' hB4
          have q0 := keep_below hB4 (r0 _)
          have q1 := keep_below hB4 (r1 _)
          have q2 := keep_below hB4 (r2 _)
          have hF4 := Lib.hid (hFb.out.ext (Ext.of_below hB4))
          have hv4 := (hv2'.ext (Ext.alloc w3 (.cells #[.int .i64 0, .string allB, .slice fa (posK zs).length fc] 27))).ext (Ext.of_below hB4)
          clear hFb hv2' r0 r1 r2 C16
          by_cases hop : op.toList.isEmpty = true
          · rw [if_pos hop] at hv4
            obtain rfl : v2 = .nilIface := hv4
            go_wp2_with fail
            refine (awake_any w4 (errT_keep HT.out hb4)).mono ?_
            rintro e w5 ⟨rfl, hB5⟩
            go_wp2_with fail
            go_ret
            exact ⟨rfl, bcall hb4 hB5⟩
          · have hop' : op.toList.isEmpty = false := by simpa using hop
            rw [if_neg hop] at hv4
            obtain ⟨hg4, hE4⟩ := hv4
            have C15 := Lib.hid (shape_any (wrapS op zs) hg4 _ v2 w4 hE4 (errT_keep HT.out hb4))
            have hE4h := Lib.hid hE4
            clear hE4 hop
            go_wp2_with fail
            refine C15.out.mono ?_
            rintro e w5 ⟨ga, gc, rfl, hG, hB5⟩
            have e1 : (wrapS op zs).code = 0 := rfl
            have e2 : (wrapS op zs).op = op := rfl
            have e3 : (wrapS op zs).kids.length = 1 := rfl
            rw [e1, e2, e3] at hG ⊢
            have hb5 := bcall hb4 hB5
            obtain ⟨W6, hW6⟩ : ∃ W6, W6 = w5.alloc (.cells #[.int .i64 0, .string op, .slice ga 1 gc] 27) := ⟨_, rfl⟩
            have hb6 : Below w.heap.size w W6 := by rw [hW6]; exact bnew hb5 _
            have r0 : W6.cell? ⟨w.heap.size, 0, none⟩ = some (.int .i64 0) := by rw [hW6]; exact keep_alloc (keep_below hB5 q0)
            have r1 : W6.cell? ⟨w.heap.size, 1, none⟩ = some (.string allB) := by rw [hW6]; exact keep_alloc (keep_below hB5 q1)
            have r2 : W6.cell? ⟨w.heap.size, 2, none⟩ = some (.slice a' (posK zs).length cap') := by rw [hW6]; exact keep_alloc (keep_below hB5 q2)
            have s1 : W6.cell? ⟨w5.heap.size, 1, none⟩ = some (.string op) := by rw [hW6]; simp
            have s2 : W6.cell? ⟨w5.heap.size, 2, none⟩ = some (.slice ga 1 gc) := by rw [hW6]; simp
            have hF6 : FRep (fun b => W0.heap.size ≤ b) W6 (joinS zs) (.int .i64 0) (.string allB) (.slice a' (posK zs).length cap') := by rw [hW6]; exact (hF4.out.ext (Ext.of_below hB5)).ext (Ext.alloc w5 _)
            have hG6 : FRep (fun b => w4.heap.size ≤ b) W6 (wrapS op zs) (.int .i64 0) (.string op) (.slice ga 1 gc) := by rw [hW6]; exact hG.ext (Ext.alloc w5 _)
            have hE6 : ERep (fun b => w1.heap.size ≤ b) W6 (wrapS op zs) v2 := by rw [hW6]; exact (hE4h.out.ext (Ext.of_below hB5)).ext (Ext.alloc w5 _)
            have hF6h := Lib.hid hF6
            have hG6h := Lib.hid hG6
            have hE6h := Lib.hid hE6
            have HW6 := Lib.hid hW6
            have HR := Lib.hid (And.intro r0 (And.intro r1 (And.intro r2 (And.intro s1 s2))))
            clear hF6 hG6 hE6 hG hF4 hE4h C15 q0 q1 q2 hW6 r0 r1 r2 s1 s2
            go_wp2_with fail
            rw [← HW6.out]
            go_loopw [15] (fun vi wr => ∃ (k : Nat), k ≤ zs.length ∧ vi = .int .i64 k ∧ Below W6.heap.size W6 wr) (fun vi _ => zs.length - (intOf vi).toNat)
            case atStart => exact ⟨0, by omega, rfl, Below.refl _ _⟩
            case round =>
              obtain ⟨k, hkl, rfl, hB⟩ := hrel
              have hbr := bcall hb6 hB
              by_cases hlt : k < zs.length
              · obtain ea := HAB.out (by omega)
                subst ea
                have hkc : (k : Int) < (zs.length : Int) := by omega
                have hk0 : (0 : Int) ≤ (k : Int) := by omega
                obtain ⟨c, hcz⟩ : ∃ c, zs[k]? = some c := ⟨_, List.getElem?_eq_getElem hlt⟩
                have hcr : wr.cell? ⟨b, off + k, none⟩ = some (.int .i64 c) := by
                  rw [keep_below hbr (HC.out k hlt)]
                  simp [List.getD, hcz]
                by_cases hc0 : 0 < c
                · have d0 : decide (0 < c) = true := by simpa using hc0
                  have C17 := Has_any (wrapS op zs) hg4 _ v2 c wr (hE6h.out.ext (Ext.of_below hB))
                  rw [has_wrap op zs c (List.mem_of_getElem? hcz) hc0] at C17
                  have CH := Lib.hid C17
                  clear C17
                  go_wp2_with (go_at_call 17; refine CH.out.mono ?_; rintro e w7 ⟨rfl, hB7⟩)
                  go_roundw
                  case rel => exact ⟨k + 1, by omega, by go_num, bcall hB hB7⟩
                  case measure => simp [intOf]; omega
                · have d0 : decide (0 < c) = false := by simpa using hc0
                  go_wp2_with fail
                  go_roundw
                  case rel => exact ⟨k + 1, by omega, by go_num, hB⟩
                  case measure => simp [intOf]; omega
              · obtain rfl : k = zs.length := by omega
                obtain ⟨r0, r1, r2, s1, s2⟩ := HR.out
                have r0 := keep_below hB r0
                have r1 := keep_below hB r1
                have r2 := keep_below hB r2
                have s1 := keep_below hB s1
                have s2 := keep_below hB s2
                have hFr := hF6h.out.ext (Ext.of_below hB)
                have hGr := hG6h.out.ext (Ext.of_below hB)
                obtain ⟨gb, go, ka, kc, rfl, x0, x1, x2, R0⟩ := kid0 hGr
                have e1 : (joinS zs).code = 0 := rfl
                have e2 : (joinS zs).op = allB := rfl
                have e3 : (joinS zs).kids.length = (posK zs).length := rfl
                rw [e1] at x0 R0
                rw [e2] at x1 R0
                rw [e3] at x2 R0
                have C16 := Lib.hid (same_any R0 _ _ _ wr.drew (Ext.drew (Ext.refl _ wr)) (hFr.ext (Ext.drew (Ext.refl _ wr))))
                clear hGr hFr R0 e1 e2 e3
                go_wp2_with fail
                go_region_held3 (fun w' => w'.cell? ⟨w.heap.size, 0, none⟩ = some (.int .i64 0) ∧ w'.cell? ⟨w.heap.size, 1, none⟩ = some (.string allB) ∧ w'.cell? ⟨w.heap.size, 2, none⟩ = some (.slice a' (posK zs).length cap') ∧
                    w'.cell? ⟨w5.heap.size, 1, none⟩ = some (.string op) ∧ w'.cell? ⟨w5.heap.size, 2, none⟩ = some (.slice (some ⟨gb, go, none⟩) 1 gc) ∧
                    w'.cell? ⟨gb, go, none⟩ = some (.int .i64 0) ∧ w'.cell? ⟨gb, go + 1, none⟩ = some (.string allB) ∧ w'.cell? ⟨gb, go + 2, none⟩ = some (.slice ka (posK zs).length kc))
                  (first | go_keep | (go_split_ands; refine ⟨?_, ?_, ?_, ?_, ?_, ?_, ?_, ?_⟩ <;> (first | exact keep_below hB8 (by assumption) | exact keep_below hB7 (by assumption))))
                  (first
                    | (go_at_call 16; (with_reducible refine C16.out.mono ?_); rintro e w7 ⟨rfl, hB7⟩)
                    | (go_at_call 11; refine (awake_any _ (errT_keep HT.out (bcall hbr.drew hB7))).mono ?_; rintro e w8 ⟨rfl, hB8⟩))
                all_goals
                  go_wp2_with fail
                  go_ret
                  exact ⟨rfl, bcall (bcall hbr.drew hB7) hB8⟩
  · by_cases h1 : zs.length ≤ 15
    · have d1 : decide ((15 : Int) < (zs.length : Int)) = false := by simp; omega
      have d2 : decide ((50 : Int) < (op.size : Int)) = true := by simp; omega
      go_enter Tryd.func3, Tryd.ntmps3
      go_wp2_with fail
      refine (awake_any w HT.out).mono ?_
      rintro e w1 ⟨rfl, hB⟩
      go_wp2_with fail
      go_ret
      exact ⟨rfl, hB⟩
    · have d1 : decide ((15 : Int) < (zs.length : Int)) = true := by simp; omega
      go_enter Tryd.func3, Tryd.ntmps3
      go_wp2_with fail
      refine (awake_any w HT.out).mono ?_
      rintro e w1 ⟨rfl, hB⟩
      go_wp2_with fail
      go_ret
      exact ⟨rfl, hB⟩
end Go.Proofs.YtpdljglamjanmaaDoor
