/-
  tarpaulinlaw2.FaultTexts: THE WALK.
-/
import Derived.Test.YtpdljglamjanmaaDoorWraps
import Derived.Lib.ItoaLen
import Derived.Lib.SmallJoins
namespace Go.Proofs.YtpdljglamjanmaaDoor
open Go.RowKit Go.Extern.Stop Go.Stop Go.Extern

def fL (n : Int) : List UInt8 := Lib.itoa n
def CdL (n : Int) (w : World) : Prop := -9223372036854775808 ≤ n ∧ n ≤ 9223372036854775807 ∧ Lib.TabIs Tryd.prog w "internal/strconv.uint64pow10" .u64 Lib.pow10Tab

theorem powK : (Tryd.prog.globalNamed "internal/strconv.uint64pow10").isSome = true := by kernel_rfl
theorem tab_keep {w w' : World} (h : Lib.TabIs Tryd.prog w "internal/strconv.uint64pow10" .u64 Lib.pow10Tab) (hb : Below w.heap.size w w') : Lib.TabIs Tryd.prog w' "internal/strconv.uint64pow10" .u64 Lib.pow10Tab := by
  obtain ⟨g, hg⟩ := Option.isSome_iff_exists.1 powK
  exact Go.Joins.tab_stays hg h hb (Nat.le_refl _)
theorem below_grow (w : World) (q : Nat) (os : Array Obj) : Below w.heap.size w (Go.Sort.grow (w.drewN q) os) :=
  ⟨rfl, rfl, rfl, by simp [Go.Sort.grow, World.drewN], fun k hk => by
    simp only [Go.Sort.grow, World.drewN]
    rw [Array.getElem?_append_left hk]⟩
theorem itoa_full : ItoaOK fL CdL where
  call n w hn := by
    refine (Tryd.strconv_Itoa n hn.1 hn.2.1 w hn.2.2).mono ?_
    rintro e w' ⟨rfl, k, os, rfl⟩
    exact ⟨rfl, below_grow _ _ _⟩
  keep n w w' h hb := ⟨h.1, h.2.1, tab_keep h.2.2 hb⟩
  short n w h := by have := Lib.itoa_length_le n h.1 h.2.1; unfold fL; omega

/-- A code's text; the texts of a row. -/
def oneL (c : Int) : List UInt8 := [99, 111, 100, 101, 32] ++ fL c
def textL (op : ByteArray) (zs : List Int) : List UInt8 := op.data.toList ++ [58, 32] ++ Lib.join (zs.map oneL) [59, 32]
def rowS (op : ByteArray) (zs : List Int) : Sh := .mk 0 op (zs.map codeS)

theorem say_row (op : ByteArray) (zs : List Int) (h : 0 < zs.length) : say fL (rowS op zs) = textL op zs := by
  unfold rowS textL
  rw [say_wrap _ _ _ _ (by simpa using h), List.map_map]
  rfl
theorem join_take (l : List (List UInt8)) (k : Nat) (x : List UInt8) (h : l[k]? = some x) : Lib.join (l.take (k + 1)) [59, 32] = Lib.join (l.take k) [59, 32] ++ (if 0 < k then [59, 32] else []) ++ x := by
  rw [List.take_add_one, h]
  cases k with
  | zero => simp [Lib.join_one, Lib.join_nil]
  | succ k =>
    cases l with
    | nil => simp at h
    | cons y l =>
      simp [Lib.join_cons, Lib.joinTail]
theorem textL_take (op : ByteArray) (zs : List Int) (k : Nat) (c : Int) (h : zs[k]? = some c) : textL op (zs.take (k + 1)) = textL op (zs.take k) ++ (if 0 < k then [59, 32] else []) ++ oneL c := by
  unfold textL
  rw [List.map_take, List.map_take, join_take (zs.map oneL) k (oneL c) (by simp [h])]
  simp
theorem wts_row : ∀ zs : List Int, wts (zs.map codeS) = zs.length * 42
  | [] => rfl
  | c :: zs => by
    have := wts_row zs
    simp only [List.map_cons, wts, List.length_cons]
    rw [this]
    simp only [codeS, wt]
    omega
theorem textL_len (op : ByteArray) : ∀ zs : List Int, (∀ c ∈ zs, (fL c).length ≤ 30) → (textL op zs).length ≤ op.size + 2 + zs.length * 42 := by
  intro zs h
  have key : (Lib.join (zs.map oneL) [59, 32]).length ≤ zs.length * 42 := by
    have : zs.map oneL = (zs.map codeS).map (say fL) := by rw [List.map_map]; rfl
    rw [this]
    have hj := join_len fL (zs.map codeS) (fun s hs => by
      obtain ⟨c, hc, rfl⟩ := List.mem_map.1 hs
      have := h c hc
      simp only [say, codeS, wt, List.length_append, List.length_cons, List.length_nil]
      omega)
    rw [wts_row] at hj
    exact hj
  unfold textL
  have e : op.data.size = op.size := rfl
  simp only [List.length_append, List.length_cons, List.length_nil, Array.length_toList]
  omega

theorem size_row (op : ByteArray) (ho : op.toList.isEmpty = false) (zs : List Int) (h1 : 0 < zs.length) (h2 : zs.length ≤ 20) (hp : ∀ c ∈ zs, 0 < c) : makeO (rowS op zs) = some (rowS op zs) := by
  unfold makeO rowS
  rw [sizeP_kids _ _ _ _ (by omega)]
  have e : ((0 : Int) == 0 && !op.toList.isEmpty && !(zs.map codeS).isEmpty) = true := by
    have : (zs.map codeS).isEmpty = false := by cases zs <;> simp_all
    simp [ho, this]
  rw [e, sizeL_all (sizeP 19) 1 1 (zs.map codeS) (fun s hs => by
    obtain ⟨c, hc, rfl⟩ := List.mem_map.1 hs
    exact size_code 18 c (hp c hc)) 1 0 (by omega)]
  have hl : 1 + 1 * (zs.map codeS).length ≤ 50 := by rw [List.length_map]; omega
  rw [if_pos hl]
  rfl

set_option maxHeartbeats 8000000 in
set_option maxRecDepth 20000 in
theorem texts_any (op : ByteArray) (zs : List Int) (v : Value) (w : World) (hI : IRep w zs v) (hT : ErrT w) (hTab : Lib.TabIs Tryd.prog w "internal/strconv.uint64pow10" .u64 Lib.pow10Tab) (hR : ∀ c ∈ zs, -9223372036854775808 ≤ c ∧ c ≤ 9223372036854775807) :
    Calls Tryd.prog 5 #[.string op, v] w fun e w' => e = .returned (.bool true) ∧ Below w.heap.size w w' := by
  obtain ⟨i0, hi0, hz0, hz1, hz2⟩ := info_parts Tryd.info27
  obtain ⟨a, cap, b, off, rfl, hmx, hab, hc⟩ := hI
  have HT := Lib.hid hT
  have HTab := Lib.hid hTab
  have HRg := Lib.hid hR
  have mW := mErrorW
  clear hT hTab hR
  by_cases hin : op.toList.isEmpty = false ∧ op.size ≤ 50 ∧ 1 ≤ zs.length ∧ zs.length ≤ 20
  · obtain ⟨hop, h1, h2, h3⟩ := hin
    have d1 : decide ((50 : Int) < (op.size : Int)) = false := by simp; omega
    have d2 : decide ((zs.length : Int) < 1) = false := by simp; omega
    have d3 : decide ((20 : Int) < (zs.length : Int)) = false := by simp; omega
    obtain ⟨ea⟩ := hab (by omega)
    obtain ⟨W0, hW0⟩ : ∃ W0, W0 = w.alloc (.cells #[.int .i64 0, .string op, .slice none 0 0] 27) := ⟨_, rfl⟩
    have hx0 : W0.heap[w.heap.size]? = some (.cells #[.int .i64 0, .string op, .slice none 0 0] 27 (0, 0)) := by rw [hW0]; exact heap_alloc_new w _
    have hwW0 : Below w.heap.size w W0 := by rw [hW0]; exact bnew (Below.refl _ w) _
    have hsw : W0.heap.size = w.heap.size + 1 := by rw [hW0]; simp
    have HW0 := Lib.hid hW0
    have HC := Lib.hid hc
    have HS := Lib.hid (fun (c : Int) (hm : c ∈ zs) => itoa_full.short c w ⟨(HRg.out c hm).1, (HRg.out c hm).2, HTab.out⟩)
    clear hW0 hc hab
    go_enter Tryd.func5, Tryd.ntmps5
    go_wp2_with fail
    rw [← HW0.out]
    go_loopw [6, 7] (fun vt vi wr => ∃ (k : Nat) (kv : Value) (xs : List Value), k ≤ zs.length ∧ vi = .int .i64 k ∧ vt = .string ⟨(textL op (zs.take k)).toArray⟩ ∧ (∀ c ∈ zs.take k, 0 < c) ∧ KidsRel W0 w.heap.size op ((zs.take k).map codeS) kv xs wr) (fun _ vi _ => zs.length - (intOf vi).toNat)
    case atStart => exact ⟨0, _, _, by omega, rfl, congrArg Value.string (str_eq _ _ (by simp [ByteArray.data_append, textL, Lib.join_nil])), by simp, kids_start hx0⟩
    case round =>
      obtain ⟨k, kv, xs, hkl, rfl, rfl, hpos, hK⟩ := hrel
      have HK := Lib.hid hK
      have HP := Lib.hid hpos
      obtain ⟨_, hbB, hown1, _, hgr⟩ := hK
      rw [List.length_map, List.length_take_of_le hkl] at hown1
      have hszr : W0.heap.size ≤ wr.heap.size := hgr.size
      have hwr : Below w.heap.size w wr := hwW0.trans ⟨hgr.os, hgr.tape, hgr.output, hgr.size, fun i hi => hgr.block i (by omega) (fun e => by injection e with e; omega)⟩
      have hlen : (textL op (zs.take k)).length ≤ 1000 := by
        have := textL_len op (zs.take k) (fun c hm => HS.out c (List.mem_of_mem_take hm))
        rw [List.length_take_of_le hkl] at this
        omega
      clear hpos
      by_cases hlt : k < zs.length
      · have hkc : (k : Int) < (zs.length : Int) := by omega
        have hk0 : (0 : Int) ≤ (k : Int) := by omega
        obtain ⟨c, hcz⟩ : ∃ c, zs[k]? = some c := ⟨_, List.getElem?_eq_getElem hlt⟩
        have hmem : c ∈ zs := List.mem_of_getElem? hcz
        have hbl : b < w.heap.size := cell_lt (HC.out k hlt)
        have hcr : wr.cell? ⟨b, off + k, none⟩ = some (.int .i64 c) := by
          rw [keep_below hwr (HC.out k hlt)]
          simp [List.getD, hcz]
        by_cases hc0 : c < 1
        · have d0 : decide (c < 1) = true := by simpa using hc0
          clear hbB hown1 hgr hx0 hwW0 hsw
          go_wp2_with fail
          refine (awake_any _ (errT_keep HT.out hwr)).mono ?_
          rintro e w1 ⟨rfl, hB⟩
          go_wp2_with fail
          go_ret
          exact ⟨rfl, bcall hwr hB⟩
        · have d0 : decide (c < 1) = false := by simpa using hc0
          have z2 : wr.cell? ⟨w.heap.size, 2, none⟩ = some kv := by rw [cell_of_row wr _ _ _ _ _ hbB]; rfl
          have zf : wr.frozen? ⟨w.heap.size, 2, none⟩ = false := by simp [World.frozen?, hbB]
          have hn1 : some w.heap.size ≠ kv.ownBlock := fun e => by have := (hown1.lt _ e.symm).1; omega
          have hn2 : some b ≠ kv.ownBlock := fun e => by have := (hown1.lt _ e.symm).1; omega
          have hbs : w.heap.size < wr.heap.size := cell_lt z2
          have HW := Lib.hid hwW0
          have HC3 := Lib.hid (show w.cell? ⟨b, off + k, none⟩ = some (.int .i64 c) by rw [HC.out k hlt]; simp [List.getD, hcz])
          have x2a := fun o => keep_alloc (o := o) z2
          have xca := fun o => keep_alloc (o := o) hcr
          clear hbB hgr hx0 hwW0 hsw
          go_wp2_with fail
          go_region_law (first
            | (refine step_append_lies _ (by rfl) _ _ _ (by rfl) W0.heap.size 27 i0 _ 3 48 Tryd.underlying25 hi0 hz0 hz1 hz2 rfl (by omega) kv k xs (by rfl) ((hown1.alloc _).drew) ⟨wr.heap.size, 0, none⟩ 1 1 [.int .i64 c, .string ⟨#[]⟩, .slice none 0 0] (by rfl) (by rfl) (World.news_of_block (heap_alloc_new wr _)) (by simp [Value.oneCell']) (by omega) (by unfold maxLen; omega) (by omega) (by simp; omega) (wr.heap.size + 1) (by simp) ?_
               intro gg cap2 w2 hown3 hgrow hat hlt2
               have hx2 := keep_grown hgrow hn1 (x2a _)
               have hf2 : w2.frozen? ⟨w.heap.size, 2, none⟩ = false := by
                 rw [hgrow.frozen_far _ (by simp; omega) hn1]
                 show (wr.alloc _).frozen? _ = _
                 rw [World.frozen?_alloc_old _ _ _ (by simp; omega)]; exact zf))
          all_goals
            obtain ⟨W3, hW3⟩ : ∃ W3, W3 = w2.setCell ⟨w.heap.size, 2, none⟩ (.slice (some ⟨gg, 0, none⟩) (k + 1) cap2) := ⟨_, rfl⟩
            rw [← hW3]
            have el : ((zs.take k).map codeS).length = k := by rw [List.length_map, List.length_take_of_le hkl]
            have hst := kids_step (w1 := (wr.alloc (.cells #[.int .i64 c, .string ⟨#[]⟩, .slice none 0 0] 27)).drew) (w2 := w2) (gg := gg) (cap2 := cap2) HK.out ((bnew (Below.refl _ wr) _).drew) (lit_code _ _ c) (by rw [el]; exact hown3) hgrow (by simpa using hat)
            rw [el, ← hW3, show (zs.take k).map codeS ++ [Sh.mk c ⟨#[]⟩ []] = (zs.take (k + 1)).map codeS by rw [List.take_add_one, hcz]; simp [codeS]] at hst
            have hgr3 := hst.2.2.2.2
            have hw3 : Below w.heap.size w W3 := HW.out.trans ⟨hgr3.os, hgr3.tape, hgr3.output, hgr3.size, fun i hi => hgr3.block i (by have := HW.out.size; omega) (fun e => by injection e with e; omega)⟩
            have hc3 := keep_below hw3 HC3.out
            have C18 := Lib.hid (code_error itoa_full c W3 ⟨(HRg.out c hmem).1, (HRg.out c hmem).2, tab_keep HTab.out hw3⟩)
            have hs3 := HS.out c hmem
            have hsts := Lib.hid hst
            have hpos' : ∀ x ∈ zs.take (k + 1), 0 < x := fun x hx => by
              rw [List.take_add_one, hcz] at hx
              rcases List.mem_append.1 hx with h | h
              · exact HP.out x h
              · simp at h; omega
            have HP' := Lib.hid hpos'
            have htk := Lib.hid (textL_take op zs k c hcz)
            clear hst hgr3 hW3 hx2 hf2 hown3 hgrow hat hlt2 hpos' x2a xca z2 zf
            by_cases hk : 0 < k
            · have dk : decide ((0 : Int) < (k : Int)) = true := by simpa using hk
              go_wp2_with (go_at_call 18; refine C18.out.mono ?_; rintro e w4 ⟨rfl, hB4⟩)
              go_roundw
              case rel =>
                refine ⟨k + 1, _, _, by omega, by go_num, congrArg Value.string (str_eq _ _ ?_), HP'.out, kids_keep hsts.out hB4⟩
                rw [htk.out, if_pos hk]
                simp [ByteArray.data_append, oneL]
              case measure => simp [intOf]; omega
            · have dk : decide ((0 : Int) < (k : Int)) = false := by simp; omega
              go_wp2_with (go_at_call 18; refine C18.out.mono ?_; rintro e w4 ⟨rfl, hB4⟩)
              go_roundw
              case rel =>
                refine ⟨k + 1, _, _, by omega, by go_num, congrArg Value.string (str_eq _ _ ?_), HP'.out, kids_keep hsts.out hB4⟩
                rw [htk.out, if_neg hk]
                simp [ByteArray.data_append, oneL]
              case measure => simp [intOf]; omega
      · obtain rfl : k = zs.length := by omega
        rw [List.take_length] at HK HP hlen ⊢
        obtain ⟨a', cap', rfl, hF⟩ := kids_end HK.out (by omega) (by rw [List.length_map]; omega)
        have el : (zs.map codeS).length = zs.length := List.length_map ..
        rw [el] at hF hbB
        have q0 : wr.cell? ⟨w.heap.size, 0, none⟩ = some (.int .i64 0) := by rw [cell_of_row wr _ _ _ _ _ hbB]; rfl
        have q1 : wr.cell? ⟨w.heap.size, 1, none⟩ = some (.string op) := by rw [cell_of_row wr _ _ _ _ _ hbB]; rfl
        have q2 : wr.cell? ⟨w.heap.size, 2, none⟩ = some (.slice a' zs.length cap') := by rw [cell_of_row wr _ _ _ _ _ hbB]; rfl
        have CA := make_any _ _ _ _ _ _ hF
        rw [show (Sh.mk 0 op (zs.map codeS)) = rowS op zs from rfl, size_row op hop zs (by omega) (by omega) HP.out] at CA
        have CH := Lib.hid CA
        clear CA hF hbB hown1 hgr hx0 hwW0 hsw
        go_wp2_with fail
        refine CH.out.mono ?_
        rintro e w1 ⟨v1, rfl, ⟨hg1, hv1⟩, hB1⟩
        have hb1 := bcall hwr hB1
        obtain ⟨c0, zs', hzs⟩ : ∃ c0 zs', zs = c0 :: zs' := by
          cases zs with
          | nil => simp at h2
          | cons c0 zs' => exact ⟨c0, zs', rfl⟩
        obtain ⟨b1, rfl⟩ : ∃ b, v1 = .iface 66 (.pointer (some ⟨b, 0, none⟩)) := by
          rw [hzs] at hv1
          exact wrap_form hv1
        clear hzs
        have hA : AllC (fun n => CdL n w1) (rowS op zs) := .wrap _ _ _ (by rw [List.length_map]; omega) (fun s hs => by
          obtain ⟨c, hc, rfl⟩ := List.mem_map.1 hs
          exact .code _ _ ⟨(HRg.out c hc).1, (HRg.out c hc).2, tab_keep HTab.out hb1⟩)
        have hwt : wt (rowS op zs) ≤ 1000000 := by
          unfold rowS
          rw [wt_wrap _ _ _ (by rw [List.length_map]; omega), wts_row]
          omega
        have C79 := wrap_error itoa_full (rowS op zs) hg1 _ b1 w1 hv1 hA hwt
        rw [say_row op zs (by omega)] at C79
        have C79h := Lib.hid C79
        clear C79 hA hwt hv1
        go_wp2_with fail
        refine C79h.out.mono ?_
        rintro e w2 ⟨rfl, hB2⟩
        have hb2 := bcall hb1 hB2
        go_wp2_with fail
        refine (awake_any _ (errT_keep HT.out hb2)).mono ?_
        rintro e w3 ⟨rfl, hB3⟩
        go_wp2_with fail
        go_ret
        exact ⟨rfl, bcall hb2 hB3⟩
  · cases hop : op.toList.isEmpty with
    | true =>
      go_enter Tryd.func5, Tryd.ntmps5
      go_wp2_with fail
      refine (awake_any w HT.out).mono ?_
      rintro e w1 ⟨rfl, hB⟩
      go_wp2_with fail
      go_ret
      exact ⟨rfl, hB⟩
    | false =>
      by_cases h1 : op.size ≤ 50
      · have d1 : decide ((50 : Int) < (op.size : Int)) = false := by simp; omega
        by_cases h2 : 1 ≤ zs.length
        · have d2 : decide ((zs.length : Int) < 1) = false := by simp; omega
          have d3 : decide ((20 : Int) < (zs.length : Int)) = true := by
            have : ¬ zs.length ≤ 20 := fun h => hin ⟨hop, h1, h2, h⟩
            simp; omega
          go_enter Tryd.func5, Tryd.ntmps5
          go_wp2_with fail
          refine (awake_any w HT.out).mono ?_
          rintro e w1 ⟨rfl, hB⟩
          go_wp2_with fail
          go_ret
          exact ⟨rfl, hB⟩
        · have d2 : decide ((zs.length : Int) < 1) = true := by simp; omega
          go_enter Tryd.func5, Tryd.ntmps5
          go_wp2_with fail
          refine (awake_any w HT.out).mono ?_
          rintro e w1 ⟨rfl, hB⟩
          go_wp2_with fail
          go_ret
          exact ⟨rfl, hB⟩
      · have d1 : decide ((50 : Int) < (op.size : Int)) = true := by simp; omega
        go_enter Tryd.func5, Tryd.ntmps5
        go_wp2_with fail
        refine (awake_any w HT.out).mono ?_
        rintro e w1 ⟨rfl, hB⟩
        go_wp2_with fail
        go_ret
        exact ⟨rfl, hB⟩
end Go.Proofs.YtpdljglamjanmaaDoor
