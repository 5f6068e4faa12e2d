/-
  THE TEXT OF AN ERROR, whatever tells a number in decimal.
-/
import Derived.Test.YtpdljglamjanmaaDoorPure3
import Derived.Test.YtpdljglamjanmaaDoorMake
import Derived.Test.YtpdljglamjanmaaDoorShelf
import Derived.Deep.RegionHeld3
import Derived.Deep.DrawnRows
namespace Go.Proofs.YtpdljglamjanmaaDoor
open Go.RowKit Go.Extern.Stop Go.Stop Go.Extern

/-- strconv.Itoa tells n by f wherever Cd holds; Cd stays, and what is told is short. -/
structure ItoaOK (f : Int → List UInt8) (Cd : Int → World → Prop) : Prop where
  call : ∀ n w, Cd n w → Calls Tryd.prog 38 #[.int .i64 n] w fun e w' => e = .returned (.string ⟨(f n).toArray⟩) ∧ Below w.heap.size w w'
  keep : ∀ n w w', Cd n w → Below w.heap.size w w' → Cd n w'
  short : ∀ n w, Cd n w → (f n).length ≤ 30

variable {f : Int → List UInt8} {Cd : Int → World → Prop}

theorem str_eq (a : ByteArray) (l : List UInt8) (h : a.data.toList = l) : a = ⟨l.toArray⟩ := by
  obtain ⟨d⟩ := a
  simp at h
  subst h
  simp

/-- (Code).Error. -/
theorem code_error (H : ItoaOK f Cd) (n : Int) (w : World) (hn : Cd n w) : Calls Tryd.prog 18 #[.agg #[.int .i64 n]] w fun e w' => e = .returned (.string ⟨([99, 111, 100, 101, 32] ++ f n).toArray⟩) ∧ Below w.heap.size w w' := by
  have hn1 := H.keep n w (w.alloc (.cells #[.int .i64 n] 40)) hn (bnew (Below.refl _ w) _)
  have C := Lib.hid (H.call n _ hn1)
  have hs := H.short n w hn
  go_enter Tryd.func18, Tryd.ntmps18
  go_wp2_with (go_at_call 38; refine C.out.mono ?_; rintro e w1 ⟨rfl, hB⟩)
  go_ret
  exact ⟨congrArg (fun b => Ending.returned (Value.string b)) (str_eq _ _ (by simp [ByteArray.data_append])), bcall (bnew (Below.refl _ w) _) hB⟩

theorem Tryd.info9 : (Tryd.prog.info? 9).map (fun i => (i.zero, i.size, i.bytes)) = some (some (.string ⟨#[]⟩), 1, 16) := by kernel_rfl

/-- The texts of the first k kids. -/
def texts (f : Int → List UInt8) (ks : List Sh) (k : Nat) : List Value := (ks.take k).map fun s => .string ⟨(say f s).toArray⟩
theorem texts_succ (ks : List Sh) (k : Nat) (s : Sh) (h : ks[k]? = some s) : texts f ks (k + 1) = texts f ks k ++ [.string ⟨(say f s).toArray⟩] := by
  unfold texts
  rw [List.take_add_one, h]; simp

/-- How far the texts are gathered. -/
def TextRel (f : Int → List UInt8) (w : World) (ks : List Sh) (k : Nat) (lv : Value) (wr : World) : Prop := wr.ownsRow w.heap.size 9 1 lv k (texts f ks k) ∧ Below w.heap.size w wr

theorem text_step {w wr u1 u2 : World} {ks : List Sh} {k : Nat} {lv : Value} {s : Sh} {o : Obj} {g cap : Nat} {v : Value} (hown : wr.ownsRow w.heap.size 9 1 lv k (texts f ks k)) (HB : Below w.heap.size w wr) (hB : Below wr.heap.size wr u1)
    (hown2 : u2.ownsRow w.heap.size 9 1 (.slice (some ⟨g, 0, none⟩) (k + 1) cap) (k + 1) (texts f ks k ++ [v])) (hgrow : (u1.alloc o).grownBy u2 lv.ownBlock) (hs : ks[k]? = some s) (hv : v = .string ⟨(say f s).toArray⟩ := by rfl) :
    TextRel f w ks (k + 1) (.slice (some ⟨g, 0, none⟩) (k + 1) cap) u2 := by
  subst hv
  refine ⟨by rw [texts_succ ks k s hs]; exact hown2, ?_⟩
  have h1 : Below w.heap.size w (u1.alloc o) := bnew (bcall HB hB) o
  exact h1.grown hgrow h1.size (fun j hj => (hown.lt _ hj).1)

set_option maxHeartbeats 4000000 in
theorem wrap_error (H : ItoaOK f Cd) (s : Sh) (hg : Good s) : ∀ (A : Nat → Prop) (b : Nat) (w : World), ERep A w s (.iface 66 (.pointer (some ⟨b, 0, none⟩))) → AllC (fun n => Cd n w) s → wt s ≤ 1000000 →
    Calls Tryd.prog 79 #[.pointer (some ⟨b, 0, none⟩)] w fun e w' => e = .returned (.string ⟨(say f s).toArray⟩) ∧ Below w.heap.size w w' := by
  obtain ⟨i0, hi0, hz0, hz1, hz2⟩ := info_parts Tryd.info9
  induction hg with
  | code n hn =>
    intro A b w h
    cases h with
    | wrap op ks b kb koff cap vs hop hks hpos hcap hcm hA hA' c0 c1 hc hr => simp at hpos
  | wrap op ks ho hk hgs ih =>
    intro A b w h hC hW
    cases h with
    | wrap op ks b kb koff cap vs hop hks hpos hcap hcm hA hA' c0 c1 hc hr =>
    have hCk : ∀ s ∈ ks, AllC (fun n => Cd n w) s := by
      cases hC with
      | code n op h => simp at hk
      | wrap c op ks _ h => exact h
    have hWk := wt_wrap 0 op ks hk
    rw [hWk] at hW
    have hWm : ∀ s ∈ ks, wt s ≤ 1000000 := fun s hs => by have := wts_mem ks s hs; omega
    have hSl : ∀ s ∈ ks, (say f s).length ≤ wt s := fun s hs => say_len f s (hgs s hs) (by
      have : ∀ {t : Sh}, AllC (fun n => Cd n w) t → AllC (fun n => (f n).length ≤ 30) t := fun {t} ht => by
        induction ht with
        | code n op h => exact .code n op (H.short n w h)
        | wrap c op ks hk _ ih => exact .wrap c op ks hk ih
      exact this (hCk s hs))
    have hjl := join_len f ks hSl
    have hsay := say_wrap f 0 op ks hk
    have HH := Lib.hid hsay
    have HI := Lib.hid ih
    have HR := Lib.hid hr
    have HV := Lib.hid hc
    have HCk := Lib.hid hCk
    have HWm := Lib.hid hWm
    have HG := Lib.hid hgs
    have mC := mErrorC
    have mW := mErrorW
    clear ih hr hc hCk hWm hgs hSl hsay hC hWk
    have hc0 := Lib.hid c0
    go_enter Tryd.func79, Tryd.ntmps79
    go_wp2_with fail
    go_loopw [11, 3] (fun vi vl wr => ∃ k : Nat, k ≤ ks.length ∧ vi = .int .i64 k ∧ TextRel f w ks k vl wr) (fun vi _ _ => ks.length - (intOf vi).toNat)
    case atStart => exact ⟨0, by omega, rfl, World.ownsRow_nil _ _ _ _, Below.refl _ w⟩
    case round =>
      obtain ⟨k, hkl, rfl, hown, HB⟩ := hrel
      by_cases hlt : k < ks.length
      · obtain ⟨s', hs'⟩ : ∃ s', ks[k]? = some s' := ⟨_, List.getElem?_eq_getElem hlt⟩
        have hE := (HR.out k s' hs').ext (Ext.of_below HB)
        have e0 := keep_below HB (HV.out k hlt)
        have hg' := HG.out s' (List.mem_of_getElem? hs')
        have hC' := HCk.out s' (List.mem_of_getElem? hs')
        have HS := Lib.hid hs'
        generalize vs k = v at hE e0
        cases hE with
        | code c =>
          have hn' : Cd c wr := by
            cases hC' with
            | code n op h => exact H.keep c w wr h HB
            | wrap c op ks hk _ => simp at hk
          have C18 := Lib.hid (code_error H c wr hn')
          clear hC' hn' hg' hs'
          go_wp2_with (first | (go_at_call 18; refine C18.out.mono ?_; rintro e u1 ⟨rfl, hB⟩) | (at_builtin; refine wpList_append_lies (w := _) (hgd := rfl) (s := _) (x := _) (t := _) (ho := rfl) (base := w.heap.size) (e := 9) (i := i0) (z := _) (size := 1) (bytes := 16) (ht := Tryd.underlying135) (hi := hi0) (hz := hz0) (hsize := hz1) (hby := hz2) (hzs := rfl) (hsz := Nat.one_pos) (v := u3) (n := k) (xs := texts f ks k) (hs := ?a1) (hown := ?a2) (ad := ⟨u1.heap.size, 0, none⟩) (m := 1) (c := 1) (news := [.string ⟨([99, 111, 100, 101, 32] ++ f c).toArray⟩]) (hx := ?a3) (hl := ?a4) (hnews := ?a5) (h1 := ?a6) (hm := by omega) (h63 := ?a8) (hbytes := ?a9) (hbase := ?a10) (H := _) (hH := rfl) (h := ?_); (rotate_left 9); intro gg cap2 u2 hown2 hgrow hat hlt2))
          case a1 => rfl
          case a2 => exact (own_below hown hB).alloc _
          case a3 => rfl
          case a4 => rfl
          case a5 => exact World.news_of_block (heap_alloc_new u1 _)
          case a6 => simp [Value.oneCell']
          case a8 => unfold maxLen; omega
          case a9 => omega
          case a10 => have := HB.size; have := hB.size; simp; omega
          go_roundw
          case rel => exact ⟨k + 1, by omega, by go_num, text_step hown HB hB hown2 hgrow HS.out⟩
          case measure => simp [intOf]; omega
        | wrap op' ks' b' kb' koff' cap' vs' hop' hks' hpos' hcap' hcm' hA2 hA2' c0' c1' hc' hr' =>
          have hE' : ERep A wr (.mk 0 op' ks') (.iface 66 (.pointer (some ⟨b', 0, none⟩))) := .wrap op' ks' b' kb' koff' cap' vs' hop' hks' hpos' hcap' hcm' hA2 hA2' c0' c1' hc' hr'
          have hCw : ∀ {t : Sh}, AllC (fun n => Cd n w) t → AllC (fun n => Cd n wr) t := fun {t} ht => by
            induction ht with
            | code n op h => exact .code n op (H.keep n w wr h HB)
            | wrap c op ks hk _ ih => exact .wrap c op ks hk ih
          have C79 := Lib.hid (HI.out _ (List.mem_of_getElem? hs') A b' wr hE' (hCw hC') (HWm.out _ (List.mem_of_getElem? hs')))
          clear hC' hg' hs' c0' c1' hc' hr' hE' hCw
          go_wp2_with (first | (go_at_call 79; refine C79.out.mono ?_; rintro e u1 ⟨rfl, hB⟩) | (at_builtin; refine wpList_append_lies (w := _) (hgd := rfl) (s := _) (x := _) (t := _) (ho := rfl) (base := w.heap.size) (e := 9) (i := i0) (z := _) (size := 1) (bytes := 16) (ht := Tryd.underlying135) (hi := hi0) (hz := hz0) (hsize := hz1) (hby := hz2) (hzs := rfl) (hsz := Nat.one_pos) (v := u3) (n := k) (xs := texts f ks k) (hs := ?a1) (hown := ?a2) (ad := ⟨u1.heap.size, 0, none⟩) (m := 1) (c := 1) (news := [.string ⟨(say f (.mk 0 op' ks')).toArray⟩]) (hx := ?a3) (hl := ?a4) (hnews := ?a5) (h1 := ?a6) (hm := by omega) (h63 := ?a8) (hbytes := ?a9) (hbase := ?a10) (H := _) (hH := rfl) (h := ?_); (rotate_left 9); intro gg cap2 u2 hown2 hgrow hat hlt2))
          case a1 => rfl
          case a2 => exact (own_below hown hB).alloc _
          case a3 => rfl
          case a4 => rfl
          case a5 => exact World.news_of_block (heap_alloc_new u1 _)
          case a6 => simp [Value.oneCell']
          case a8 => unfold maxLen; omega
          case a9 => omega
          case a10 => have := HB.size; have := hB.size; simp; omega
          go_roundw
          case rel => exact ⟨k + 1, by omega, by go_num, text_step hown HB hB hown2 hgrow HS.out⟩
          case measure => simp [intOf]; omega
      · obtain rfl : k = ks.length := by omega
        obtain ⟨g, lcap, rfl, hgb, hgl⟩ := hown.form hk
        have hlc : ks.length ≤ lcap := by
          rcases hown.2 with ⟨h, _⟩ | ⟨g', cap', cur, h, _, _, h1, h2, _⟩
          · cases h
          · injection h with _ _ h3
            omega
        have hxs : (ks.map fun s => (⟨(say f s).toArray⟩ : ByteArray)).length = ks.length := by simp
        have hjj : Lib.join ((ks.map fun s => (⟨(say f s).toArray⟩ : ByteArray)).map (·.data.toList)) [59, 32] = Lib.join (ks.map (say f)) [59, 32] := by
          rw [List.map_map]; congr 1
        have CJ := Tryd.strings_Join g 0 lcap (ks.map fun s => (⟨(say f s).toArray⟩ : ByteArray)) ⟨#[59, 32]⟩ wr.drew (fun j x hj => by
          show wr.cell? _ = _
          have hj' : j < ks.length := by have := (List.getElem?_eq_some_iff.1 hj).1; simpa using this
          rw [Nat.zero_add, hown.cellAt j (by omega)]
          unfold texts
          rw [List.take_length]
          simp [hj'] at hj ⊢
          exact hj) (by simpa using hgl) (by omega) (by omega) (by rw [show (⟨#[59, 32]⟩ : ByteArray).data.toList = [59, 32] from rfl, hjj]; omega)
        rw [show (⟨#[59, 32]⟩ : ByteArray).data.toList = [59, 32] from rfl, hjj, hxs] at CJ
        have e0 := keep_below HB hc0.out
        have CJh := Lib.hid CJ
        have ha1 : ¬ (9223372036854775805 < op.size) := by omega
        have ha2 : ¬ (9223372036854775807 < op.size + 2 + (Lib.join (ks.map (say f)) [59, 32]).length) := by omega
        have ha3 : ¬ (9223372036854775807 < op.size + 2) := by omega
        clear CJ hjj hxs
        go_wp2_with fail
        go_region_held3 (fun w' => w'.cell? ⟨b, 0, none⟩ = some (.string op)) (first | go_keep | exact keep_below hB (by assumption))
          (first | (go_at_call 81; refine CJh.out.mono ?_; rintro e w1 ⟨rfl, hB⟩))
        go_wp2_with fail
        go_ret
        exact ⟨by rw [HH.out]; exact congrArg (fun b => Ending.returned (Value.string b)) (str_eq _ _ (by simp [ByteArray.data_append])), bcall HB.drew hB⟩

/-- (*errors.errorString).Error, errors.New. -/
theorem new_any (x : ByteArray) (w : World) : Calls Tryd.prog 19 #[.string x] w fun e w' => e = .returned (.iface 71 (.pointer (some ⟨w.heap.size, 0, none⟩))) ∧ Below w.heap.size w w' := by
  go_enter Tryd.func19, Tryd.ntmps19
  go_wp2_with fail
  go_ret
  exact ⟨rfl, bnew (Below.refl _ w) _⟩
end Go.Proofs.YtpdljglamjanmaaDoor
