/-
  errors.As AT THE TWO TARGETS THAT THE PROGRAM HANDS IT: a variable of type Code, a variable of type *wrap; on what the program makes, and on an error of errors.New's make.
-/
import Derived.Test.YtpdljglamjanmaaDoorRefl
import Derived.Test.YtpdljglamjanmaaDoorMem
import Derived.WalkSpells
import Derived.Outline
namespace Go.Proofs.YtpdljglamjanmaaDoor
open Go.RowKit Go.Extern.Stop Go.Stop Go.Extern

theorem mAssign (h : Value) (w : World) : (Go.method 260 91 (.agg #[h]) "AssignableTo").run Tryd.prog w = .ok (95, .agg #[h]) w := by kernel_rfl
theorem mKind (h : Value) (w : World) : (Go.method 260 91 (.agg #[h]) "Kind").run Tryd.prog w = .ok (76, h) w := by kernel_rfl
theorem mElem (h : Value) (w : World) : (Go.method 260 91 (.agg #[h]) "Elem").run Tryd.prog w = .ok (97, .agg #[h]) w := by kernel_rfl
theorem mImplements (h : Value) (w : World) : (Go.method 260 91 (.agg #[h]) "Implements").run Tryd.prog w = .ok (98, .agg #[h]) w := by kernel_rfl
theorem mComparable (h : Value) (w : World) : (Go.method 260 91 (.agg #[h]) "Comparable").run Tryd.prog w = .ok (96, .agg #[h]) w := by kernel_rfl
theorem mUnwrap (a : Addr) (w : World) : (Go.method 260 66 (.pointer (some a)) "Unwrap").run Tryd.prog w = .ok (80, .pointer (some a)) w := by kernel_rfl
theorem mErrorC (n : Int) (w : World) : (Go.method 260 40 (.agg #[.int .i64 n]) "Error").run Tryd.prog w = .ok (18, .agg #[.int .i64 n]) w := by kernel_rfl
theorem mErrorW (a : Addr) (w : World) : (Go.method 260 66 (.pointer (some a)) "Error").run Tryd.prog w = .ok (79, .pointer (some a)) w := by kernel_rfl
theorem mErrorS (a : Addr) (w : World) : (Go.method 260 71 (.pointer (some a)) "Error").run Tryd.prog w = .ok (90, .pointer (some a)) w := by kernel_rfl

/-- What a copy of a wrap's kids is. -/
def Copied (W : World) (n : Nat) (vs : Nat → Value) (e : Ending) (w' : World) : Prop :=
  ∃ g cap, e = .returned (.slice (some ⟨g, 0, none⟩) n cap) ∧ (∀ i, i < n → w'.cell? ⟨g, i, none⟩ = some (vs i)) ∧ Below W.heap.size W w'

theorem copied_end {w w1 : World} {n g cap : Nat} {vs : Nat → Value} {xs : List Value} {row : Option Nat} (hown : w1.ownsRow w.heap.size 29 1 (.slice (some ⟨g, 0, none⟩) n cap) n xs) (hx : xs = (List.range n).map vs)
    (hg : (w.alloc (.cells #[] 29)).grownBy w1 row) (hr : ∀ k, row = some k → w.heap.size ≤ k) : Copied w n vs (.returned (.slice (some ⟨g, 0, none⟩) n cap)) w1 := by
  refine ⟨g, cap, rfl, fun i hi => ?_, (bnew (Below.refl _ w) _).grown hg (by simp) hr⟩
  rw [hown.cellAt i (by omega), hx]
  simp [hi]

theorem Tryd.info29' : (Tryd.prog.info? 29).map (fun i => (i.zero, i.size, i.bytes)) = some (some .nilIface, 1, 16) := by kernel_rfl
set_option maxHeartbeats 1000000 in
theorem clone_any (kb koff n cap : Nat) (vs : Nat → Value) (w : World) (hn : 0 < n) (hm : n ≤ 4096) (h1 : ∀ i, i < n → (vs i).oneCell' = true) (hc : ∀ i, i < n → w.cell? ⟨kb, koff + i, none⟩ = some (vs i)) :
    Calls Tryd.prog 82 #[.slice (some ⟨kb, koff, none⟩) n cap] w (Copied w n vs) := by
  obtain ⟨i0, hi0, hz0, hz1, hz2⟩ := info_parts Tryd.info29'
  have HC := Lib.hid hc
  have H1 := Lib.hid h1
  have he := fun W : World => Lib.run_eql_slice_nil (P := Tryd.prog) W 24 29 (some ⟨kb, koff, none⟩) n cap 0 0 Tryd.underlying24
  clear hc h1
  go_enter Tryd.func82, Tryd.ntmps82
  go_wp2_with (at_builtin; refine wpList_append_lies (w := _) (hgd := rfl) (s := _) (x := _) (t := _) (ho := rfl) (base := w.heap.size) (e := 29) (i := i0) (z := .nilIface) (size := 1) (bytes := 16) (ht := Tryd.underlying24) (hi := hi0) (hz := hz0) (hsize := hz1) (hby := hz2) (hzs := rfl) (hsz := Nat.one_pos) (v := .slice (some ⟨w.heap.size, 0, none⟩) 0 0) (n := 0) (xs := []) (hs := ?a1) (hown := ?a2) (ad := ⟨kb, koff, none⟩) (m := n) (c := cap) (news := (List.range n).map vs) (hx := ?a3) (hl := ?a4) (hnews := ?a5) (h1 := ?a6) (hm := hn) (h63 := ?a8) (hbytes := ?a9) (hbase := ?a10) (H := _) (hH := rfl) (h := ?_); (rotate_left 9); intro g cap2 w1 hown hgrow hat hlt)
  case a1 => rfl
  case a2 => exact World.ownsRow_lit w #[] 0 (Nat.le_refl _) (by unfold maxLen; omega) rfl
  case a3 => rfl
  case a4 => simp
  case a5 =>
    intro j u hj
    have hjn : j < n := by
      rcases Nat.lt_or_ge j n with h | h
      · exact h
      · simp [h] at hj
    simp [hjn] at hj
    subst hj
    have hcell := keep_alloc (o := .cells #[] 29) (HC.out j hjn)
    have hadd : (⟨kb, koff, none⟩ : Addr).add j = ⟨kb, koff + j, none⟩ := by unfold Addr.add; split <;> simp_all
    rw [hadd]; exact hcell
  case a6 =>
    intro u hu
    obtain ⟨i, hi, rfl⟩ := List.mem_map.1 hu
    exact H1.out i (by simpa using hi)
  case a8 => unfold maxLen; omega
  case a9 => omega
  case a10 => simp
  go_ret
  have e0 : 0 + n = n := Nat.zero_add n
  exact copied_end (by simpa [e0] using hown) rfl hgrow (by simp [Value.ownBlock])

set_option maxHeartbeats 1000000 in
theorem as_code_code (n : Int) (t : Addr) (a : Nat) (old : Value) (w : World) (ha : w.cell? ⟨a, 0, none⟩ = some (.pointer (some t))) (ht0 : w.cell? t = some old) (hf0 : w.frozen? t = false) :
    Calls Tryd.prog 46 #[.iface 40 (.agg #[.int .i64 n]), .iface 65 (.pointer (some t)), rv 65 ⟨a, 0, none⟩ 150, .iface 91 (rt 40)] w fun e w' => e = .returned (.bool true) ∧ Below w.heap.size (w.setCell t (.int .i64 n)) w' := by
  have h41 := @run_callFunc_extern Tryd.prog 41 _ ReflectliteType.typeOf Tryd.func41 (by kernel_rfl) (by kernel_rfl) (by kernel_rfl) (by kernel_rfl)
  have h95 := @run_callFunc_extern Tryd.prog 95 _ (ReflectliteType.relation "AssignableTo" ReflectliteType.assignableTo) Tryd.func95 (by kernel_rfl) (by kernel_rfl) (by kernel_rfl) (by kernel_rfl)
  have h43 := @run_callFunc_extern Tryd.prog 43 _ (fun args => ReflectliteValue.unpack (args.getD 0 (.tuple #[]))) Tryd.func43 (by kernel_rfl) (by kernel_rfl) (by kernel_rfl) (by kernel_rfl)
  have h48 := @run_callFunc_extern Tryd.prog 48 _ (ReflectliteValue.method (ReflectliteValue.valueError "reflectlite.Value.Elem" 0) ReflectliteValue.elem) Tryd.func48 (by kernel_rfl) (by kernel_rfl) (by kernel_rfl) (by kernel_rfl)
  have h49 := @run_callFunc_extern Tryd.prog 49 _ ReflectliteValue.set Tryd.func49 (by kernel_rfl) (by kernel_rfl) (by kernel_rfl) (by kernel_rfl)
  have tO := typeOf40
  have a4 := assign4040
  have v4 := valueOf40
  have mA := mAssign
  have hal := cell_lt ha
  have htl := cell_lt ht0
  have el := elemV65 ⟨a, 0, none⟩ t (w.alloc (.cells #[.pointer (some ⟨5, 65, none⟩), .pointer (some ⟨a, 0, none⟩), .int .u64 150] 81)) (keep_alloc ha)
  have st := set40 t (w.heap.size + 1) n old ((w.alloc (.cells #[.pointer (some ⟨5, 65, none⟩), .pointer (some ⟨a, 0, none⟩), .int .u64 150] 81)).alloc (.cells #[.int .i64 n] 40))
    (by rw [World.cell?_alloc_at _ _ _ _ (by simp)]; rfl) (keep_alloc (keep_alloc ht0)) (by rw [World.frozen?_alloc_old _ _ t (by simp; omega), World.frozen?_alloc_old _ _ t (by omega)]; exact hf0)
  go_enter Tryd.func46, Tryd.ntmps46
  go_wp2
  refine wp_loop_rounds 1 ?_
  rw [rounds_succ]
  go_wp2
  go_ret
  exact ⟨rfl, below_set2 (bnew (bnew (Below.refl _ w) _) _) _ _⟩
/-- (*wrap).Unwrap: a copy of the kids. -/
theorem unwrap_any (b kb koff n cap : Nat) (vs : Nat → Value) (w : World) (hn : 0 < n) (hm : n ≤ 4096) (c1 : w.cell? ⟨b, 1, none⟩ = some (.slice (some ⟨kb, koff, none⟩) n cap)) (h1 : ∀ i, i < n → (vs i).oneCell' = true) (hc : ∀ i, i < n → w.cell? ⟨kb, koff + i, none⟩ = some (vs i)) :
    Calls Tryd.prog 80 #[.pointer (some ⟨b, 0, none⟩)] w (Copied w n vs) := by
  have C := Lib.hid (clone_any kb koff n cap vs w hn hm h1 hc)
  clear h1 hc
  go_enter Tryd.func80, Tryd.ntmps80
  go_wp2_with (go_at_call 82; refine C.out.mono ?_; rintro e w1 ⟨g, cap2, rfl, hg, hB⟩; have hg' := Lib.hid hg; clear hg)
  go_ret
  exact ⟨g, cap2, rfl, hg'.out, hB⟩

theorem firstCode_wrap (op : ByteArray) (ks : List Sh) (s : Sh) (h : ks[0]? = some s) : firstCode (.mk 0 op ks) = firstCode s := by
  cases ks with
  | nil => simp at h
  | cons k ks => simp at h; subst h; rfl

set_option maxHeartbeats 2000000 in
theorem as_code (s : Sh) (hg : Good s) : ∀ (A : Nat → Prop) (v : Value) (t : Addr) (a : Nat) (old : Value) (w : World), ERep A w s v → w.cell? ⟨a, 0, none⟩ = some (.pointer (some t)) → w.cell? t = some old → w.frozen? t = false →
    Calls Tryd.prog 46 #[v, .iface 65 (.pointer (some t)), rv 65 ⟨a, 0, none⟩ 150, .iface 91 (rt 40)] w fun e w' => e = .returned (.bool true) ∧ Below w.heap.size (w.setCell t (.int .i64 (firstCode s))) w' := by
  induction hg with
  | code n hn =>
    intro A v t a old w h ha ht0 hf0
    cases h with
    | code n => exact as_code_code n t a old w ha ht0 hf0
    | wrap op ks b kb koff cap vs hop hks hpos hcap hcm hA hA' c0 c1 hc hr => simp at hpos
  | wrap op ks ho hk hgs ih =>
    intro A v t a old w h ha ht0 hf0
    cases h with
    | code n => simp at hk
    | wrap op ks b kb koff cap vs hop hks hpos hcap hcm hA hA' c0 c1 hc hr =>
    have h41 := @run_callFunc_extern Tryd.prog 41 _ ReflectliteType.typeOf Tryd.func41 (by kernel_rfl) (by kernel_rfl) (by kernel_rfl) (by kernel_rfl)
    have h95 := @run_callFunc_extern Tryd.prog 95 _ (ReflectliteType.relation "AssignableTo" ReflectliteType.assignableTo) Tryd.func95 (by kernel_rfl) (by kernel_rfl) (by kernel_rfl) (by kernel_rfl)
    have tO := typeOf66
    have a4 := assign6640
    have mA := mAssign
    have mU := mUnwrap
    have la := lacks66a
    have lu := lacks66u
    have hu := has66us
    obtain ⟨s0, hs0⟩ : ∃ s0, ks[0]? = some s0 := ⟨ks[0], List.getElem?_eq_getElem hk⟩
    have hE0 := hr 0 s0 hs0
    obtain ⟨ut, ux, hv0⟩ := hE0.form
    have hone : ∀ i, i < ks.length → (vs i).oneCell' = true := fun i hi => by
      obtain ⟨x, y, e⟩ := (hr i ks[i] (List.getElem?_eq_getElem hi)).form
      rw [e]; rfl
    have CU := Lib.hid (unwrap_any b kb koff ks.length cap vs (w.alloc (.cells #[.pointer (some ⟨5, 65, none⟩), .pointer (some ⟨a, 0, none⟩), .int .u64 150] 81)) hk hks (keep_alloc c1) hone (fun i hi => keep_alloc (hc i hi)))
    have HI := Lib.hid (ih s0 (List.mem_of_getElem? hs0))
    have HF := Lib.hid (firstCode_wrap op ks s0 hs0)
    have HV := Lib.hid hv0
    have HE := Lib.hid hE0
    have Ha := Lib.hid ha
    have Ht := Lib.hid ht0
    have Hf := Lib.hid hf0
    clear ih hs0 hv0 hE0 hr hone hc ha ht0 hf0 hgs
    go_enter Tryd.func46, Tryd.ntmps46
    go_wp2_with fail
    refine wp_loop_rounds 1 ?_
    rw [rounds_succ]
    go_wp2_with (go_at_call 80; refine CU.out.mono ?_; rintro e w1 ⟨g, cap2, rfl, hg, hB⟩; have hg' := Lib.hid hg; clear hg)
    obtain ⟨b0, b1, b2⟩ := box3 hB
    have e0 := hg'.out 0 hk
    have hE1 := (HE.out.ext (Ext.alloc w (.cells #[.pointer (some ⟨5, 65, none⟩), .pointer (some ⟨a, 0, none⟩), .int .u64 150] 81))).ext (Ext.of_below hB)
    rw [HV.out] at e0 hE1
    have C46 := Lib.hid (HI.out A (.iface ut ux) t a old w1 hE1 (keep_below hB (keep_alloc Ha.out)) (keep_below hB (keep_alloc Ht.out)) (by
      rw [hB.frozen (by have := cell_lt Ht.out; simp; omega), World.frozen?_alloc_old _ _ t (by have := cell_lt Ht.out; omega)]; exact Hf.out))
    refine wp_loop_rounds 1 ?_
    rw [rounds_succ]
    go_wp2_with (go_at_call 46; refine C46.out.mono ?_; rintro e w2 ⟨rfl, hB2⟩)
    go_ret
    have hb := bcall (bnew (Below.refl _ w) _) hB
    exact ⟨rfl, by rw [HF.out]; exact (below_set2 hb t _).trans (hB2.mono hb.size)⟩

set_option maxHeartbeats 1000000 in
/-- On an error of errors.New's make: nothing is found. -/
theorem as_code_str (p : Value) (t : Addr) (a : Nat) (w : World) :
    Calls Tryd.prog 46 #[.iface 71 p, .iface 65 (.pointer (some t)), rv 65 ⟨a, 0, none⟩ 150, .iface 91 (rt 40)] w fun e w' => e = .returned (.bool false) ∧ Below w.heap.size w w' := by
  have h41 := @run_callFunc_extern Tryd.prog 41 _ ReflectliteType.typeOf Tryd.func41 (by kernel_rfl) (by kernel_rfl) (by kernel_rfl) (by kernel_rfl)
  have h95 := @run_callFunc_extern Tryd.prog 95 _ (ReflectliteType.relation "AssignableTo" ReflectliteType.assignableTo) Tryd.func95 (by kernel_rfl) (by kernel_rfl) (by kernel_rfl) (by kernel_rfl)
  have tO := typeOf71
  have a4 := assign7140
  have mA := mAssign
  have la := lacks71a
  have lu := lacks71u
  have hu := lacks71us
  go_enter Tryd.func46, Tryd.ntmps46
  go_wp2_with fail
  refine wp_loop_rounds 1 ?_
  rw [rounds_succ]
  go_wp2_with fail
  go_ret
  exact ⟨rfl, bnew (Below.refl _ w) _⟩

/-- errors.As(nil, ..). -/
theorem As_nil (t : Value) (w : World) : Calls Tryd.prog 37 #[.nilIface, t] w fun e w' => e = .returned (.bool false) ∧ w = w' := by
  go_enter Tryd.func37, Tryd.ntmps37
  go_wp2_with fail
  go_ret
  exact ⟨rfl, rfl⟩

/-- The library's variable errors.errorType, as the program's text lays it. -/
def ErrT (w : World) : Prop := w.cell? ⟨0, 0, none⟩ = some (.iface 91 (rt 29))

set_option maxHeartbeats 2000000 in
theorem As_code (s : Sh) (hg : Good s) (A : Nat → Prop) (v : Value) (t : Addr) (old : Value) (w : World) (h : ERep A w s v) (hT : ErrT w) (ht0 : w.cell? t = some old) (hf0 : w.frozen? t = false) :
    Calls Tryd.prog 37 #[v, .iface 65 (.pointer (some t))] w fun e w' => e = .returned (.bool true) ∧ Below w.heap.size (w.setCell t (.int .i64 (firstCode s))) w' := by
  have h43 := @run_callFunc_extern Tryd.prog 43 _ (fun args => ReflectliteValue.unpack (args.getD 0 (.tuple #[]))) Tryd.func43 (by kernel_rfl) (by kernel_rfl) (by kernel_rfl) (by kernel_rfl)
  have h44 := @run_callFunc_extern Tryd.prog 44 _ (ReflectliteValue.methodAny (ReflectliteValue.valueError "reflectlite.Value.Type" 0) (fun t _ _ _ => ReflectliteType.toType t)) Tryd.func44 (by kernel_rfl) (by kernel_rfl) (by kernel_rfl) (by kernel_rfl)
  have h45 := @run_callFunc_extern Tryd.prog 45 _ (ReflectliteValue.method (ReflectliteValue.valueError "reflectlite.Value.IsNil" 0) ReflectliteValue.isNil) Tryd.func45 (by kernel_rfl) (by kernel_rfl) (by kernel_rfl) (by kernel_rfl)
  have h76 := @run_callFunc_extern Tryd.prog 76 _ (ReflectliteType.abiMethod fun t => do pure (.int .u8 (← Rtype.kind t))) Tryd.func76 (by kernel_rfl) (by kernel_rfl) (by kernel_rfl) (by kernel_rfl)
  have h97 := @run_callFunc_extern Tryd.prog 97 _ (ReflectliteType.method ReflectliteType.elem) Tryd.func97 (by kernel_rfl) (by kernel_rfl) (by kernel_rfl) (by kernel_rfl)
  have h98 := @run_callFunc_extern Tryd.prog 98 _ (ReflectliteType.relation "Implements" ReflectliteType.implements_) Tryd.func98 (by kernel_rfl) (by kernel_rfl) (by kernel_rfl) (by kernel_rfl)
  have v6 := valueOf65
  have f7 := type65
  have mK := mKind
  have mE := mElem
  have mI := mImplements
  have k65 := kind65
  have k40 := kind40
  have e65 := elem65
  have i40 := implements40
  obtain ⟨ut, ux, rfl⟩ := h.form
  have hT' : w.cell? ⟨0, 0, none⟩ = some (.iface 91 (rt 29)) := hT
  have hT2 := keep_alloc (o := Obj.cells #[.pointer (some ⟨5, 65, none⟩), .pointer (some ⟨w.heap.size, 0, none⟩), .int .u64 150] 81) (keep_alloc (o := Obj.cells #[.pointer (some t)] 65) hT')
  have n8 := isNil65 ⟨w.heap.size, 0, none⟩ t ((w.alloc (.cells #[.pointer (some t)] 65)).alloc (.cells #[.pointer (some ⟨5, 65, none⟩), .pointer (some ⟨w.heap.size, 0, none⟩), .int .u64 150] 81)) (by simp)
  have C := as_code s hg A (.iface ut ux) t w.heap.size old ((w.alloc (.cells #[.pointer (some t)] 65)).alloc (.cells #[.pointer (some ⟨5, 65, none⟩), .pointer (some ⟨w.heap.size, 0, none⟩), .int .u64 150] 81)) ((h.ext (Ext.alloc _ _)).ext (Ext.alloc _ _)) (by simp) (keep_alloc (keep_alloc ht0)) (by
    rw [World.frozen?_alloc_old _ _ t (by have := cell_lt ht0; simp; omega), World.frozen?_alloc_old _ _ t (by have := cell_lt ht0; omega)]; exact hf0)
  have CH := Lib.hid C
  have hb := Lib.hid (below_set2 (bnew (bnew (Below.refl _ w) (.cells #[.pointer (some t)] 65)) (.cells #[.pointer (some ⟨5, 65, none⟩), .pointer (some ⟨w.heap.size, 0, none⟩), .int .u64 150] 81)) t (.int .i64 (firstCode s)))
  clear C h hT hT' ht0 hf0
  go_enter Tryd.func37, Tryd.ntmps37
  go_wp2_with (go_at_call 46; refine CH.out.mono ?_; rintro e w2 ⟨rfl, hB2⟩)
  go_ret
  exact ⟨rfl, hb.out.trans (hB2.mono (by simp; omega))⟩
set_option maxHeartbeats 2000000 in
theorem As_code_str (p : Value) (t : Addr) (w : World) (hT : ErrT w) :
    Calls Tryd.prog 37 #[.iface 71 p, .iface 65 (.pointer (some t))] w fun e w' => e = .returned (.bool false) ∧ Below w.heap.size w w' := by
  have h43 := @run_callFunc_extern Tryd.prog 43 _ (fun args => ReflectliteValue.unpack (args.getD 0 (.tuple #[]))) Tryd.func43 (by kernel_rfl) (by kernel_rfl) (by kernel_rfl) (by kernel_rfl)
  have h44 := @run_callFunc_extern Tryd.prog 44 _ (ReflectliteValue.methodAny (ReflectliteValue.valueError "reflectlite.Value.Type" 0) (fun t _ _ _ => ReflectliteType.toType t)) Tryd.func44 (by kernel_rfl) (by kernel_rfl) (by kernel_rfl) (by kernel_rfl)
  have h45 := @run_callFunc_extern Tryd.prog 45 _ (ReflectliteValue.method (ReflectliteValue.valueError "reflectlite.Value.IsNil" 0) ReflectliteValue.isNil) Tryd.func45 (by kernel_rfl) (by kernel_rfl) (by kernel_rfl) (by kernel_rfl)
  have h76 := @run_callFunc_extern Tryd.prog 76 _ (ReflectliteType.abiMethod fun t => do pure (.int .u8 (← Rtype.kind t))) Tryd.func76 (by kernel_rfl) (by kernel_rfl) (by kernel_rfl) (by kernel_rfl)
  have h97 := @run_callFunc_extern Tryd.prog 97 _ (ReflectliteType.method ReflectliteType.elem) Tryd.func97 (by kernel_rfl) (by kernel_rfl) (by kernel_rfl) (by kernel_rfl)
  have h98 := @run_callFunc_extern Tryd.prog 98 _ (ReflectliteType.relation "Implements" ReflectliteType.implements_) Tryd.func98 (by kernel_rfl) (by kernel_rfl) (by kernel_rfl) (by kernel_rfl)
  have v6 := valueOf65
  have f7 := type65
  have mK := mKind
  have mE := mElem
  have mI := mImplements
  have k65 := kind65
  have k40 := kind40
  have e65 := elem65
  have i40 := implements40
  have hT' : w.cell? ⟨0, 0, none⟩ = some (.iface 91 (rt 29)) := hT
  have hT2 := keep_alloc (o := Obj.cells #[.pointer (some ⟨5, 65, none⟩), .pointer (some ⟨w.heap.size, 0, none⟩), .int .u64 150] 81) (keep_alloc (o := Obj.cells #[.pointer (some t)] 65) hT')
  have n8 := isNil65 ⟨w.heap.size, 0, none⟩ t ((w.alloc (.cells #[.pointer (some t)] 65)).alloc (.cells #[.pointer (some ⟨5, 65, none⟩), .pointer (some ⟨w.heap.size, 0, none⟩), .int .u64 150] 81)) (by simp)
  have C := as_code_str p t w.heap.size ((w.alloc (.cells #[.pointer (some t)] 65)).alloc (.cells #[.pointer (some ⟨5, 65, none⟩), .pointer (some ⟨w.heap.size, 0, none⟩), .int .u64 150] 81))
  have CH := Lib.hid C
  have hb := Lib.hid (bnew (bnew (Below.refl _ w) (.cells #[.pointer (some t)] 65)) (.cells #[.pointer (some ⟨5, 65, none⟩), .pointer (some ⟨w.heap.size, 0, none⟩), .int .u64 150] 81))
  clear C hT hT'
  go_enter Tryd.func37, Tryd.ntmps37
  go_wp2_with (go_at_call 46; refine CH.out.mono ?_; rintro e w2 ⟨rfl, hB2⟩)
  go_ret
  exact ⟨rfl, bcall hb.out hB2⟩

end Go.Proofs.YtpdljglamjanmaaDoor
