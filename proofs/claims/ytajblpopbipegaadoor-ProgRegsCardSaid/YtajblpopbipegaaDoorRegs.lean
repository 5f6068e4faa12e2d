/-
  tarpaulinlaw4.ProgRegs: THE WALK (printed by genregs.py).
-/
import Derived.Test.YtajblpopbipegaaDoorAwake
namespace Go.Proofs.YtajblpopbipegaaDoor
open Go.RowKit Go.Lib

theorem kind_places : ∀ n : Fin 32, n.val + 1 ≠ 4 → n.val + 1 ≠ 5 → fieldsL.getD (3 * n.val) 0 ≠ 112 ∧ fieldsL.getD (3 * n.val + 1) 0 ≠ 112 ∧ fieldsL.getD (3 * n.val + 2) 0 ≠ 112 := by decide
theorem may_places {k : Nat} (h : k ≠ 112) (n p q : Int) : mayB k n p = mayB k n q := by simp [mayB, h]
theorem good_places {i : Ins} {p : Int} (h : goodB i p = true) (h4 : i.op ≠ 4) (h5 : i.op ≠ 5) (q : Int) : goodB i q = true := by
  obtain ⟨h1, h2, _⟩ := good_parts h
  obtain ⟨n, hn⟩ := Int.eq_ofNat_of_zero_le (show 0 ≤ i.op by omega)
  have hk := kind_places ⟨n - 1, by omega⟩ (by simp only; omega) (by simp only; omega)
  simp only at hk
  have e0 : kindAt i.op 0 ≠ 112 := by unfold kindAt; rw [hn, Int.toNat_natCast]; exact hk.1
  have e1 : kindAt i.op 1 ≠ 112 := by unfold kindAt; rw [hn, Int.toNat_natCast]; exact hk.2.1
  have e2 : kindAt i.op 2 ≠ 112 := by unfold kindAt; rw [hn, Int.toNat_natCast]; exact hk.2.2
  unfold goodB at h ⊢
  rw [may_places e0 _ q p, may_places e1 _ q p, may_places e2 _ q p]
  exact h
/-- What a list of registers is good for. -/
structure RegsOK (i : Ins) (zs : List Int) : Prop where
  up : zs.Pairwise (· < ·)
  range : ∀ x ∈ zs, 0 ≤ x ∧ x < 8
  check : zs ≠ [] → i.op ≠ 5 → checkB [i] = true
theorem check_one {i : Ins} (h : goodB i 100 = true) (h4 : i.op ≠ 4) (h5 : i.op ≠ 5) : checkB [i] = true := by
  unfold checkB
  simp [good_places h h4 h5 1]
theorem reads_ok (i : Ins) : RegsOK i (readsB i) := by
  cases hg : goodB i 100 with
  | false =>
    have e : readsB i = [] := by unfold readsB; rw [if_neg (by rw [hg]; simp)]
    rw [e]
    exact ⟨List.Pairwise.nil, fun x hx => by simp at hx, fun h => absurd rfl h⟩
  | true =>
    have hu : readsB i = upI (inR i) := by rw [reads_ref]; unfold refReads; rw [if_pos (by rw [← good_one]; exact hg)]
    refine ⟨by rw [hu]; exact up_sorted _, fun x hx => ?_, fun hne h5 => check_one hg (fun h4 => hne ?_) h5⟩
    · rw [hu, up_mem] at hx; exact hx.2
    · unfold readsB
      rw [if_pos hg]
      have : readsL i = [] := by unfold readsL; rw [h4]; rfl
      rw [this]
      simp [risingI, sortI, Lib.compact, Lib.compactUpTo]
theorem writes_ok (i : Ins) : RegsOK i (writesB i) := by
  cases hg : goodB i 100 with
  | false =>
    have e : writesB i = [] := by unfold writesB; rw [if_neg (by rw [hg]; simp)]
    rw [e]
    exact ⟨List.Pairwise.nil, fun x hx => by simp at hx, fun h => absurd rfl h⟩
  | true =>
    have hu : writesB i = upI (inW i) := by rw [writes_ref]; unfold refWrites; rw [if_pos (by rw [← good_one]; exact hg)]
    refine ⟨by rw [hu]; exact up_sorted _, fun x hx => ?_, fun hne h5 => check_one hg (fun h4 => hne ?_) h5⟩
    · rw [hu, up_mem] at hx; exact hx.2
    · unfold writesB
      rw [if_pos hg]
      have : writesL i = [] := by unfold writesL; rw [h4]; rfl
      rw [this]
      simp [risingI, sortI, Lib.compact, Lib.compactUpTo]

set_option maxRecDepth 100000 in
set_option maxHeartbeats 8000000 in
theorem regs_any (i : Ins) (cv0 : Value) (w : World) (hcs : CRep w i.cases cv0) (hT : TabS w) : Calls Tryd.prog 6 #[.agg #[.int .i64 i.op, .int .i64 i.a, .int .i64 i.b, .int .i64 i.c, cv0, .bool i.dflt]] w fun e w' => e = .returned (.bool true) ∧ Below w.heap.size w w' := by
  have HT := Lib.hid hT
  have hS : LRep (w.alloc (.cells #[.int .i64 i.op, .int .i64 i.a, .int .i64 i.b, .int .i64 i.c, cv0, .bool i.dflt] 36)) [i] (.slice (some ⟨w.heap.size, 0, none⟩) 1 1) := lit1 i _ (hcs.ext (Ext.alloc _ _)) (heap_alloc_new _ _)
  have HS := Lib.hid hS
  have hcl : i.cases.length ≤ 9223372036854775807 := by obtain ⟨_, cap', _, _, _, h2, h3, _⟩ := hcs; unfold maxLen at h3; omega
  obtain ⟨ca, ccap, rfl⟩ := hcs.form
  clear hT hS hcs
  by_cases h20 : 20 < i.cases.length
  · go_enter Tryd.func6, Tryd.ntmps6
    go_wp2_with fail
    refine (awake_any _ (tab_keep HT.out (bnew (Below.refl _ w) _))).mono ?_
    rintro e w1 ⟨rfl, hB⟩
    go_wp2_with fail
    go_ret
    exact ⟨rfl, bcall (bnew (Below.refl _ w) _) hB⟩
  · have hB0 : Below w.heap.size w (w.alloc (.cells #[.int .i64 i.op, .int .i64 i.a, .int .i64 i.b, .int .i64 i.c, .slice ca i.cases.length ccap, .bool i.dflt] 36)) := bnew (Below.refl _ w) _
    go_enter Tryd.func6, Tryd.ntmps6
    go_wp2_with fail
    go_loopw [3] (fun vn wr => ∃ n : Nat, n ≤ 2 ∧ vn = .int .i64 n ∧ Below w.heap.size w wr ∧ LRep wr [i] (.slice (some ⟨w.heap.size, 0, none⟩) 1 1)) (fun vn _ => 2 - (intOf vn).toNat)
    case atStart => exact ⟨0, by omega, rfl, hB0, HS.out⟩
    case round =>
      obtain ⟨n, hn, rfl, hb, hs⟩ := hrel
      have HSn := Lib.hid hs
      clear hs
      by_cases hn2 : n < 2
      · obtain ⟨cv, hcv, y0, y1, y2, y3, y4, y5⟩ := one_cells HSn.out
        obtain ⟨ca', ccap', rfl⟩ := hcv.form
        have C := Lib.hid (reads_any i _ wr hcv)
        clear hcv
        by_cases h0 : n = 0
        · subst h0
          go_wp2_with fail
          refine C.out.mono ?_
          rintro e wX ⟨v, rfl, hv, hB1⟩
          have hbX := bcall hb hB1
          have HSX := Lib.hid (HSn.out.ext (Ext.of_below hB1))
          have HV := Lib.hid hv
          have HOK := Lib.hid (reads_ok i)
          clear hv HSn C y0 y1 y2 y3 y4 y5 hB1
          generalize readsB i = zs at HV HOK
          obtain ⟨la, lcap, lb, loff, rfl, hlc, hlm, hla, hlcell⟩ := HV.out
          unfold maxLen at hlm
          have HLa := Lib.hid hla
          have HLc := Lib.hid hlcell
          clear hla hlcell HV
          obtain ⟨wo, rfl⟩ : ∃ wo : World, wo = wX := ⟨_, rfl⟩
          go_wp2_with fail
          go_loopw [5] (fun vj wr => ∃ k : Nat, k ≤ zs.length ∧ vj = .int .i64 k ∧ Below wo.heap.size wo wr) (fun vj _ => zs.length - (intOf vj).toNat)
          case atStart => exact ⟨0, by omega, rfl, Below.refl _ _⟩
          case round =>
            obtain ⟨k, hk, rfl, hBk⟩ := hrel
            by_cases hlt : k < zs.length
            · obtain ⟨z, hz⟩ : ∃ z, zs[k]? = some z := ⟨_, List.getElem?_eq_getElem hlt⟩
              obtain rfl := HLa.out (by omega)
              have y := keep_below hBk (HLc.out k z hz)
              obtain ⟨r1, r2⟩ := HOK.out.range z (List.mem_of_getElem? hz)
              have d1 : decide (z < 0) = false := decide_eq_false (by omega)
              have d2 : decide (8 ≤ z) = false := decide_eq_false (by omega)
              have hkl : (k : Int) < (zs.length : Int) := by omega
              cases k with
              | zero =>
                have y0k : wr.cell? ⟨lb, loff, none⟩ = some (.int .i64 z) := by simpa using y
                clear hz y
                have hl0 : (0 : Int) < (zs.length : Int) := by omega
                go_wp2_with fail
                go_quiet (fail)
                go_wp2_with fail
                go_roundw
                case rel => exact ⟨1, by omega, by go_num, bdrewN hBk _⟩
                case measure => simp [intOf]; omega
              | succ m =>
                obtain ⟨z', hz'⟩ : ∃ z', zs[m]? = some z' := ⟨_, List.getElem?_eq_getElem (by omega)⟩
                have y' := keep_below hBk (HLc.out m z' hz')
                have hlt2 : z' < z := by
                  have h1 := List.pairwise_iff_getElem.1 HOK.out.up m (m + 1) (by omega) hlt (by omega)
                  rw [(List.getElem?_eq_some_iff.1 hz').2, (List.getElem?_eq_some_iff.1 hz).2] at h1
                  exact h1
                have d3 : decide (z ≤ z') = false := decide_eq_false (by omega)
                have k0 : (0 : Int) ≤ (m : Int) := by omega
                have k1 : (m : Int) < (zs.length : Int) := by omega
                have k2 : (m : Int) + 1 < (zs.length : Int) := by omega
                have k3 : (0 : Int) ≤ (m : Int) + 1 := by omega
                have k4 : decide ((0 : Int) < (m : Int) + 1) = true := decide_eq_true (by omega)
                clear hz hz' hlt2 hkl
                go_wp2_with fail
                go_quiet (fail)
                go_wp2_with fail
                go_roundw
                case rel => exact ⟨m + 2, by omega, by go_num, bdrewN hBk _⟩
                case measure => simp [intOf]; omega
            · obtain rfl : k = zs.length := by omega
              have hbk := bcall hbX hBk
              have HSk := Lib.hid (HSX.out.ext (Ext.of_below hBk))
              by_cases hz0 : zs.length = 0
              · have hz0' : ¬ (0 : Int) < (zs.length : Int) := by omega
                go_wp2_with fail
                go_roundw
                case rel => exact ⟨1, by omega, by go_num, hbk, HSk.out⟩
                case measure => simp [intOf]
              · have hz1 : (0 : Int) < (zs.length : Int) := by omega
                have hne : zs ≠ [] := fun e => hz0 (by rw [e]; rfl)
                obtain ⟨cv, hcv, y0, y1, y2, y3, y4, y5⟩ := one_cells HSk.out
                obtain ⟨ca, ccap, rfl⟩ := hcv.form
                have CC := check_any [i] _ (wr.alloc (.cells #[.int .i64 i.op, .int .i64 i.a, .int .i64 i.b, .int .i64 i.c, .slice ca i.cases.length ccap, .bool i.dflt] 36)) (lit1 i _ (hcv.ext (Ext.alloc _ _)) (heap_alloc_new _ _))
                clear hcv hne
                by_cases h5 : i.op = 5
                · have b5 : (i.op != 5) = false := by rw [h5]; rfl
                  clear h5 hz0
                  cases hck : checkB [i] with
                  | true =>
                    rw [hck, errN_true] at CC
                    have CCh := Lib.hid CC
                    clear CC hck
                    go_wp2_with (go_at_call 13; refine CCh.out.mono ?_; rintro e w5 ⟨rfl, hB5⟩)
                    go_roundw
                    case rel => exact ⟨1, by omega, by go_num, bcall (bnew hbk _) hB5, (HSk.out.ext (Ext.alloc _ _)).ext (Ext.of_below hB5)⟩
                    case measure => simp [intOf]
                  | false =>
                    rw [hck, errN_false] at CC
                    have CCh := Lib.hid CC
                    clear CC hck
                    go_wp2_with (go_at_call 13; refine CCh.out.mono ?_; rintro e w5 ⟨rfl, hB5⟩; have y0' := keep_below hB5 (keep_alloc y0))
                    go_roundw
                    case rel => exact ⟨1, by omega, by go_num, bcall (bnew hbk _) hB5, (HSk.out.ext (Ext.alloc _ _)).ext (Ext.of_below hB5)⟩
                    case measure => simp [intOf]
                · rw [HOK.out.check (fun e => hz0 (by rw [e]; rfl)) h5, errN_true] at CC
                  have CCh := Lib.hid CC
                  clear CC h5 hz0
                  go_wp2_with (go_at_call 13; refine CCh.out.mono ?_; rintro e w5 ⟨rfl, hB5⟩)
                  go_roundw
                  case rel => exact ⟨1, by omega, by go_num, bcall (bnew hbk _) hB5, (HSk.out.ext (Ext.alloc _ _)).ext (Ext.of_below hB5)⟩
                  case measure => simp [intOf]
        · obtain rfl : n = 1 := by omega
          go_wp2_with fail
          refine C.out.mono ?_
          rintro e w2 ⟨v0, rfl, hv0, hB0'⟩
          have hb2 := bcall hb hB0'
          have HS2 := Lib.hid (HSn.out.ext (Ext.of_below hB0'))
          clear hv0 HSn C y0 y1 y2 y3 y4 y5 hB0' h0
          obtain ⟨cv, hcv, y0, y1, y2, y3, y4, y5⟩ := one_cells HS2.out
          obtain ⟨ca'', ccap'', rfl⟩ := hcv.form
          have C := Lib.hid (writes_any i _ w2 hcv)
          clear hcv
          go_wp2_with fail
          refine C.out.mono ?_
          rintro e wX ⟨v, rfl, hv, hB1⟩
          have hbX := bcall hb2 hB1
          have HSX := Lib.hid (HS2.out.ext (Ext.of_below hB1))
          have HV := Lib.hid hv
          have HOK := Lib.hid (writes_ok i)
          clear hv HS2 C y0 y1 y2 y3 y4 y5 hB1
          generalize writesB i = zs at HV HOK
          obtain ⟨la, lcap, lb, loff, rfl, hlc, hlm, hla, hlcell⟩ := HV.out
          unfold maxLen at hlm
          have HLa := Lib.hid hla
          have HLc := Lib.hid hlcell
          clear hla hlcell HV
          obtain ⟨wo, rfl⟩ : ∃ wo : World, wo = wX := ⟨_, rfl⟩
          go_wp2_with fail
          go_loopw [5] (fun vj wr => ∃ k : Nat, k ≤ zs.length ∧ vj = .int .i64 k ∧ Below wo.heap.size wo wr) (fun vj _ => zs.length - (intOf vj).toNat)
          case atStart => exact ⟨0, by omega, rfl, Below.refl _ _⟩
          case round =>
            obtain ⟨k, hk, rfl, hBk⟩ := hrel
            by_cases hlt : k < zs.length
            · obtain ⟨z, hz⟩ : ∃ z, zs[k]? = some z := ⟨_, List.getElem?_eq_getElem hlt⟩
              obtain rfl := HLa.out (by omega)
              have y := keep_below hBk (HLc.out k z hz)
              obtain ⟨r1, r2⟩ := HOK.out.range z (List.mem_of_getElem? hz)
              have d1 : decide (z < 0) = false := decide_eq_false (by omega)
              have d2 : decide (8 ≤ z) = false := decide_eq_false (by omega)
              have hkl : (k : Int) < (zs.length : Int) := by omega
              cases k with
              | zero =>
                have y0k : wr.cell? ⟨lb, loff, none⟩ = some (.int .i64 z) := by simpa using y
                clear hz y
                have hl0 : (0 : Int) < (zs.length : Int) := by omega
                go_wp2_with fail
                go_quiet (fail)
                go_wp2_with fail
                go_roundw
                case rel => exact ⟨1, by omega, by go_num, bdrewN hBk _⟩
                case measure => simp [intOf]; omega
              | succ m =>
                obtain ⟨z', hz'⟩ : ∃ z', zs[m]? = some z' := ⟨_, List.getElem?_eq_getElem (by omega)⟩
                have y' := keep_below hBk (HLc.out m z' hz')
                have hlt2 : z' < z := by
                  have h1 := List.pairwise_iff_getElem.1 HOK.out.up m (m + 1) (by omega) hlt (by omega)
                  rw [(List.getElem?_eq_some_iff.1 hz').2, (List.getElem?_eq_some_iff.1 hz).2] at h1
                  exact h1
                have d3 : decide (z ≤ z') = false := decide_eq_false (by omega)
                have k0 : (0 : Int) ≤ (m : Int) := by omega
                have k1 : (m : Int) < (zs.length : Int) := by omega
                have k2 : (m : Int) + 1 < (zs.length : Int) := by omega
                have k3 : (0 : Int) ≤ (m : Int) + 1 := by omega
                have k4 : decide ((0 : Int) < (m : Int) + 1) = true := decide_eq_true (by omega)
                clear hz hz' hlt2 hkl
                go_wp2_with fail
                go_quiet (fail)
                go_wp2_with fail
                go_roundw
                case rel => exact ⟨m + 2, by omega, by go_num, bdrewN hBk _⟩
                case measure => simp [intOf]; omega
            · obtain rfl : k = zs.length := by omega
              have hbk := bcall hbX hBk
              have HSk := Lib.hid (HSX.out.ext (Ext.of_below hBk))
              by_cases hz0 : zs.length = 0
              · have hz0' : ¬ (0 : Int) < (zs.length : Int) := by omega
                go_wp2_with fail
                go_roundw
                case rel => exact ⟨2, by omega, by go_num, hbk, HSk.out⟩
                case measure => simp [intOf]
              · have hz1 : (0 : Int) < (zs.length : Int) := by omega
                have hne : zs ≠ [] := fun e => hz0 (by rw [e]; rfl)
                obtain ⟨cv, hcv, y0, y1, y2, y3, y4, y5⟩ := one_cells HSk.out
                obtain ⟨ca, ccap, rfl⟩ := hcv.form
                have CC := check_any [i] _ (wr.alloc (.cells #[.int .i64 i.op, .int .i64 i.a, .int .i64 i.b, .int .i64 i.c, .slice ca i.cases.length ccap, .bool i.dflt] 36)) (lit1 i _ (hcv.ext (Ext.alloc _ _)) (heap_alloc_new _ _))
                clear hcv hne
                by_cases h5 : i.op = 5
                · have b5 : (i.op != 5) = false := by rw [h5]; rfl
                  clear h5 hz0
                  cases hck : checkB [i] with
                  | true =>
                    rw [hck, errN_true] at CC
                    have CCh := Lib.hid CC
                    clear CC hck
                    go_wp2_with (go_at_call 13; refine CCh.out.mono ?_; rintro e w5 ⟨rfl, hB5⟩)
                    go_roundw
                    case rel => exact ⟨2, by omega, by go_num, bcall (bnew hbk _) hB5, (HSk.out.ext (Ext.alloc _ _)).ext (Ext.of_below hB5)⟩
                    case measure => simp [intOf]
                  | false =>
                    rw [hck, errN_false] at CC
                    have CCh := Lib.hid CC
                    clear CC hck
                    go_wp2_with (go_at_call 13; refine CCh.out.mono ?_; rintro e w5 ⟨rfl, hB5⟩; have y0' := keep_below hB5 (keep_alloc y0))
                    go_roundw
                    case rel => exact ⟨2, by omega, by go_num, bcall (bnew hbk _) hB5, (HSk.out.ext (Ext.alloc _ _)).ext (Ext.of_below hB5)⟩
                    case measure => simp [intOf]
                · rw [HOK.out.check (fun e => hz0 (by rw [e]; rfl)) h5, errN_true] at CC
                  have CCh := Lib.hid CC
                  clear CC h5 hz0
                  go_wp2_with (go_at_call 13; refine CCh.out.mono ?_; rintro e w5 ⟨rfl, hB5⟩)
                  go_roundw
                  case rel => exact ⟨2, by omega, by go_num, bcall (bnew hbk _) hB5, (HSk.out.ext (Ext.alloc _ _)).ext (Ext.of_below hB5)⟩
                  case measure => simp [intOf]
      · obtain rfl : n = 2 := by omega
        go_wp2_with fail
        refine (awake_any _ (tab_keep HT.out hb)).mono ?_
        rintro e w1 ⟨rfl, hB⟩
        go_wp2_with fail
        go_ret
        exact ⟨rfl, bcall hb hB⟩
end Go.Proofs.YtajblpopbipegaaDoor
