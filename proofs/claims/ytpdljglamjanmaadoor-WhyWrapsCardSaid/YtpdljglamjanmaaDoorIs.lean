/-
  errors.Is AT A CODE: is that code in the error?
-/
import Derived.Test.YtpdljglamjanmaaDoorAs
import Derived.Test.YtpdljglamjanmaaDoorPure2
namespace Go.Proofs.YtpdljglamjanmaaDoor
open Go.RowKit Go.Extern.Stop Go.Stop Go.Extern

theorem comp40 : (Tryd.prog.info? 40).map (·.comparable) = some true := by kernel_rfl
theorem fields40 : Tryd.prog.underlying 40 = some (.struct (Tryd.prog.fieldsOf 40)) := by kernel_rfl
theorem stood40 : Tryd.prog.stoodInHeld 40 = false := by kernel_rfl
theorem eq40 (a b : Int) (w : World) : (binOp .eql 29 (.iface 40 (.agg #[.int .i64 a])) (.iface 40 (.agg #[.int .i64 b]))).run Tryd.prog w = .ok (.bool (a == b)) w := by
  obtain ⟨i, hi, hcmp⟩ := Option.map_eq_some_iff.1 comp40
  have h1 : ∀ d : Nat, (Op.equalIn (d + 2) 29 (.iface 40 (.agg #[.int .i64 a])) (.iface 40 (.agg #[.int .i64 b]))).run Tryd.prog w = (Op.equalIn (d + 1) 40 (.agg #[.int .i64 a]) (.agg #[.int .i64 b])).run Tryd.prog w := fun d => by
    simp [Op.equalIn, run_underlying Tryd.underlying29, typeInfo, hi, hcmp]
  have h2 : (Op.equalIn 9999 40 (.agg #[.int .i64 a]) (.agg #[.int .i64 b])).run Tryd.prog w = .ok (a == b) w := by
    rw [run_equalIn_agg (P := Tryd.prog) w _ 40 _ _ fields40 stood40]
    have hf : (Tryd.prog.fieldsOf 40).toList = [{ name := "N", type := 3, offset := 0, embedded := false, tag := "", pkgPath := "", byteOffset := 0 }] := by kernel_rfl
    rw [hf]
    simp [go_sem, Op.eqFields, Tryd.underlying3]
    by_cases h : a = b <;> simp [h]
  simp only [binOp]
  simp [Op.equal, Op.maxDepth, h1 9998, h2]
theorem eq6640 (v x : Value) (w : World) : (binOp .eql 29 (.iface 66 v) (.iface 40 x)).run Tryd.prog w = .ok (.bool false) w := run_eql_iface_types (P := Tryd.prog) 66 40 v x Tryd.underlying29 (by decide) w
theorem eq7140 (v x : Value) (w : World) : (binOp .eql 29 (.iface 71 v) (.iface 40 x)).run Tryd.prog w = .ok (.bool false) w := run_eql_iface_types (P := Tryd.prog) 71 40 v x Tryd.underlying29 (by decide) w

theorem run96 (w : World) : ((ReflectliteType.method fun t => do Rtype.noPackHeld "Comparable" t; pure (.bool (← typeInfo t).comparable)) #[rt 40]).run Tryd.prog w = .ok (.bool true) w := by kernel_rfl
theorem call96 (w : World) : (callFunc 96 #[rt 40]).run Tryd.prog w = .ok (.value (.bool true)) w := by
  have h96 := @run_callFunc_extern Tryd.prog 96 _ (ReflectliteType.method fun t => do Rtype.noPackHeld "Comparable" t; pure (.bool (← typeInfo t).comparable)) Tryd.func96 (by kernel_rfl) (by kernel_rfl) (by kernel_rfl) (by kernel_rfl)
  rw [h96, run96]; rfl

set_option maxHeartbeats 2000000 in
theorem is_any (s : Sh) (hg : Good s) : ∀ (A : Nat → Prop) (v : Value) (n : Int) (w : World), ERep A w s v →
    Calls Tryd.prog 42 #[v, .iface 40 (.agg #[.int .i64 n]), .bool true] w fun e w' => e = .returned (.bool (hasC n s)) ∧ Below w.heap.size w w' := by
  induction hg with
  | code c hc =>
    intro A v n w h
    cases h with
    | wrap op ks b kb koff cap vs hop hks hpos hcap hcm hA hA' c0 c1 hc hr => simp at hpos
    | code c =>
    have l1 := lacks40
    have l2 := lacks40u
    have l3 := lacks40us
    have HH : Hid (hasC n (.mk c ⟨#[]⟩ []) = (c == n)) := rfl
    cases hcn : (c == n)
    all_goals
      have he : ∀ W : World, (binOp .eql 29 (.iface 40 (.agg #[.int .i64 c])) (.iface 40 (.agg #[.int .i64 n]))).run Tryd.prog W = .ok (.bool (c == n)) W := eq40 c n
      rw [hcn] at he
      have HC := Lib.hid hcn
      clear hcn
      go_enter Tryd.func42, Tryd.ntmps42
      go_wp2_with fail
      refine wp_loop_rounds 1 ?_
      rw [rounds_succ]
      go_wp2_with fail
      go_ret
      exact ⟨by rw [HH.out, HC.out]; rfl, Below.refl _ w⟩
  | wrap op ks ho hk hgs ih =>
    intro A v n w h
    cases h with
    | code c => simp at hk
    | wrap op ks b kb koff cap vs hop hks hpos hcap hcm hA hA' c0 c1 hc hr =>
    have l1 := lacks66
    have l2 := lacks66u
    have l3 := has66us
    have he := eq6640
    have mU := mUnwrap
    have hone : ∀ i, i < ks.length → (vs i).oneCell' = true := fun i hi => by
      obtain ⟨x, y, e⟩ := (hr i ks[i] (List.getElem?_eq_getElem hi)).form
      rw [e]; rfl
    have CU := Lib.hid (unwrap_any b kb koff ks.length cap vs w hk hks c1 hone hc)
    have HI := Lib.hid ih
    have HR := Lib.hid hr
    have HH := Lib.hid (hasC_wrap n 0 op ks hk)
    clear ih hr hone hc hgs c0 c1
    go_enter Tryd.func42, Tryd.ntmps42
    go_wp2_with fail
    refine wp_loop_rounds 1 ?_
    rw [rounds_succ]
    go_wp2_with (go_at_call 80; refine CU.out.mono ?_; rintro e w1 ⟨g, cap2, rfl, hg, hB⟩; have hg' := Lib.hid hg; clear hg)
    have hb1 := hB
    go_loopw [45] (fun vi wr => ∃ k : Nat, k ≤ ks.length ∧ vi = .int .i64 k ∧ Hid (hasCs n (ks.drop k) = hasC n (.mk 0 op ks)) ∧ Below w1.heap.size w1 wr) (fun vi _ => ks.length - (intOf vi).toNat)
    case atStart => exact ⟨0, by omega, rfl, HH.out.symm, Below.refl _ _⟩
    case round =>
      obtain ⟨k, hkl, rfl, HD, HB⟩ := hrel
      by_cases hlt : k < ks.length
      · obtain ⟨s', hs'⟩ : ∃ s', ks[k]? = some s' := ⟨_, List.getElem?_eq_getElem hlt⟩
        have hE := (HR.out k s' hs').ext ((Ext.of_below hb1).trans (Ext.of_below HB))
        obtain ⟨x, y, hv⟩ := hE.form
        have e0 := keep_below HB (hg'.out k hlt)
        rw [hv] at e0 hE
        have C := HI.out s' (List.mem_of_getElem? hs') A (.iface x y) n wr hE
        have hd := hasCs_drop n ks k s' hs'
        rw [HD.out] at hd
        generalize hasC n s' = bb at C hd
        have HV := Lib.hid hv
        have CH := Lib.hid C
        have HD' := Lib.hid hd
        clear hv C hd hE hs' HD
        cases bb
        · go_wp2_with (refine CH.out.mono ?_; rintro e w2 ⟨rfl, hB2⟩)
          go_roundw
          case rel => exact ⟨k + 1, by omega, by go_num, by rw [HD'.out]; rfl, bcall HB hB2⟩
          case measure => simp [intOf]; omega
        · go_wp2_with (refine CH.out.mono ?_; rintro e w2 ⟨rfl, hB2⟩)
          go_ret
          exact ⟨by rw [HD'.out]; rfl, bcall hb1 (bcall HB hB2)⟩
      · have HF := HD.out
        rw [hasCs_drop_nil _ _ _ (by omega)] at HF
        have HF' := Lib.hid HF
        clear HF HD
        go_wp2_with fail
        go_ret
        exact ⟨by rw [← HF'.out]; rfl, bcall hb1 HB⟩

/-- errors.Is(err, Code{n}). -/
theorem Is_any (s : Sh) (hg : Good s) (A : Nat → Prop) (v : Value) (n : Int) (w : World) (h : ERep A w s v) :
    Calls Tryd.prog 34 #[v, .iface 40 (.agg #[.int .i64 n])] w fun e w' => e = .returned (.bool (hasC n s)) ∧ Below w.heap.size w w' := by
  have h41 := @run_callFunc_extern Tryd.prog 41 _ ReflectliteType.typeOf Tryd.func41 (by kernel_rfl) (by kernel_rfl) (by kernel_rfl) (by kernel_rfl)
  have h96 := call96
  have tT := typeOf40
  have mC := mComparable
  have CH := Lib.hid (is_any s hg A v n w h)
  obtain ⟨x, y, rfl⟩ := h.form
  clear h
  go_enter Tryd.func34, Tryd.ntmps34
  go_wp2_with (go_at_call 42; refine CH.out.mono ?_; rintro e w2 ⟨rfl, hB2⟩)
  go_ret
  exact ⟨rfl, hB2⟩

/-- fault.Has. -/
theorem Has_any (s : Sh) (hg : Good s) (A : Nat → Prop) (v : Value) (n : Int) (w : World) (h : ERep A w s v) :
    Calls Tryd.prog 17 #[v, .int .i64 n] w fun e w' => e = .returned (.bool (hasC n s)) ∧ Below w.heap.size w w' := by
  have CH := Lib.hid (Is_any s hg A v n w h)
  clear h
  go_enter Tryd.func17, Tryd.ntmps17
  go_wp2_with (go_at_call 34; refine CH.out.mono ?_; rintro e w2 ⟨rfl, hB2⟩)
  go_ret
  exact ⟨rfl, hB2⟩
theorem Has_nil (n : Int) (w : World) :
    Calls Tryd.prog 17 #[.nilIface, .int .i64 n] w fun e w' => e = .returned (.bool false) ∧ Below w.heap.size w w' := by
  have hn := run_eql_iface_nil_left (P := Tryd.prog) w 40 (.agg #[.int .i64 n]) Tryd.underlying29
  go_enter Tryd.func17, Tryd.ntmps17
  go_wp2
  go_ret
  exact ⟨rfl, Below.refl _ _⟩
theorem Has_str (p : Value) (n : Int) (w : World) :
    Calls Tryd.prog 17 #[.iface 71 p, .int .i64 n] w fun e w' => e = .returned (.bool false) ∧ Below w.heap.size w w' := by
  have h41 := @run_callFunc_extern Tryd.prog 41 _ ReflectliteType.typeOf Tryd.func41 (by kernel_rfl) (by kernel_rfl) (by kernel_rfl) (by kernel_rfl)
  have h96 := call96
  have tT := typeOf40
  have mC := mComparable
  have l1 := lacks71
  have l2 := lacks71u
  have l3 := lacks71us
  have he := eq7140
  go_enter Tryd.func17, Tryd.ntmps17
  go_wp2
  refine wp_loop_rounds 1 ?_
  rw [rounds_succ]
  go_wp2
  go_ret
  exact ⟨rfl, Below.refl _ _⟩
end Go.Proofs.YtpdljglamjanmaaDoor
