/-
  tarpaulinref1.one: THE WALK.
-/
import Derived.Test.YtajblpopbipegaaDoorFx
import Derived.Deep.RegionHeld3
import Derived.Deep.DeepCutAuto
import Derived.Outline
namespace Go.Proofs.YtajblpopbipegaaDoor
open Go.RowKit

def tF (a b c : Nat) (k : Nat) : Nat := if k = 0 then a else if k = 1 then b else c
theorem tri_cast (a b c k : Nat) : triI a b c k = ((tF a b c k : Nat) : Int) := by unfold triI tF; split <;> (try split) <;> rfl
theorem one_eq {i : Ins} (h1 : 1 ≤ i.op) (h2 : i.op ≤ 32) (p : Int) : oneB i p = (okF (formAt i.op).1 i.a p && okF (formAt i.op).2.1 i.b p && okF (formAt i.op).2.2 i.c p && (if i.op = 15 then !(i.cases.any badC) && decide (i.cases.length ≤ 16) else i.cases.isEmpty && !i.dflt)) := by
  unfold oneB
  rw [decide_eq_true h1, decide_eq_true h2]
  rfl
theorem one_kno {i : Ins} {p : Int} {f0 f1 f2 k : Nat} (hf : formAt i.op = (f0, f1, f2)) (hk : k < 3) (h : okF (tF f0 f1 f2 k) (triI i.a i.b i.c k) p = false) : oneB i p = false := by
  unfold oneB
  rw [hf]
  match k, hk with
  | 0, _ => have h : okF f0 i.a p = false := h; simp [h]
  | 1, _ => have h : okF f1 i.b p = false := h; simp [h]
  | 2, _ => have h : okF f2 i.c p = false := h; simp [h]
theorem one_kyes {i : Ins} {p : Int} {f0 f1 f2 : Nat} (hf : formAt i.op = (f0, f1, f2)) (h1 : 1 ≤ i.op) (h2 : i.op ≤ 32) (h : ∀ k, k < 3 → okF (tF f0 f1 f2 k) (triI i.a i.b i.c k) p = true) :
    oneB i p = (if i.op = 15 then !(i.cases.any badC) && decide (i.cases.length ≤ 16) else i.cases.isEmpty && !i.dflt) := by
  rw [one_eq h1 h2, hf]
  have a0 : okF f0 i.a p = true := h 0 (by omega)
  have a1 : okF f1 i.b p = true := h 1 (by omega)
  have a2 : okF f2 i.c p = true := h 2 (by omega)
  simp [a0, a1, a2]
theorem okF_no0 {f : Nat} {n p : Int} (h0 : f ≠ 0) (h3 : f ≠ 3) (h4 : f ≠ 4) (h5 : f ≠ 5) : okF f n p = regB n := by simp [okF, h0, h3, h4, h5]

theorem any_bad {cs : List Cs} {k : Nat} {x : Cs} (hx : cs[k]? = some x) (h : badC x = true) : cs.any badC = true := List.any_eq_true.2 ⟨x, List.mem_of_getElem? hx, h⟩
theorem nx_bad {cs : List Cs} {k : Nat} {x : Cs} (h : ∀ y ∈ cs.take k, badC y = false) (hx : cs[k]? = some x) (hk : badC x = false) : ∀ y ∈ cs.take (k + 1), badC y = false := by
  intro y hy
  rw [List.take_add_one, hx] at hy
  rcases List.mem_append.1 hy with hy | hy
  · exact h y hy
  · simp at hy; rw [hy]; exact hk
theorem nx_ok {q : Nat → Bool} {k : Nat} (h : ∀ j, j < k → q j = true) (hk : q k = true) : ∀ j, j < k + 1 → q j = true := fun j hj => by
  by_cases e : j = k
  · rw [e]; exact hk
  · exact h j (by omega)

set_option maxRecDepth 100000 in
set_option maxHeartbeats 8000000 in
theorem one_plain (op a b c : Int) (cs : List Cs) (d : Bool) (p : Int) (cv : Value) (w : World) (hcs : CRep w cs cv) (h1 : 1 ≤ op) (h2 : op ≤ 32) :
    Calls Tryd.prog 27 #[.agg #[.int .i64 op, .int .i64 a, .int .i64 b, .int .i64 c, cv, .bool d], .int .i64 p] w fun e w' => e = .returned (.bool (oneB ⟨op, a, b, c, cs, d⟩ p)) ∧ Below w.heap.size w w' := by
  obtain ⟨ca, ccap, rfl⟩ := hcs.form
  have hcl : cs.length ≤ 9223372036854775807 := by obtain ⟨_, cap', _, _, _, h2, h3, _⟩ := hcs; unfold maxLen at h3; omega
  have CF := Lib.hid (form_any op)
  obtain ⟨f0, f1, f2, hff⟩ : ∃ f0 f1 f2, formAt op = (f0, f1, f2) := ⟨_, _, _, rfl⟩
  rw [hff] at CF
  have HNo := Lib.hid (fun k (hk : k < 3) (h : okF (tF f0 f1 f2 k) (triI a b c k) p = false) => one_kno (i := ⟨op, a, b, c, cs, d⟩) (p := p) hff hk h)
  have HYes := Lib.hid (one_kyes (i := ⟨op, a, b, c, cs, d⟩) (p := p) hff h1 h2)
  simp only at CF
  have HC := Lib.hid hcs
  clear hcs hff
  go_enter Tryd.func27, Tryd.ntmps27
  go_upto_region 3 with fail
  go_cut [5, 6] (fun s5 s6 wx => ∃ g h : Nat, s5 = .pointer (some ⟨g, 0, none⟩) ∧ s6 = .pointer (some ⟨h, 0, none⟩) ∧ FX (w.alloc (.cells #[.int .i64 op, .int .i64 a, .int .i64 b, .int .i64 c, .slice ca cs.length ccap, .bool d] 36)) wx g h f0 f1 f2 a b c)
  case first =>
    go_region_held3 (fun w' => w'.cell? ⟨w.heap.size, 0, none⟩ = some (.int .i64 op) ∧ w'.cell? ⟨w.heap.size, 1, none⟩ = some (.int .i64 a) ∧ w'.cell? ⟨w.heap.size, 2, none⟩ = some (.int .i64 b) ∧ w'.cell? ⟨w.heap.size, 3, none⟩ = some (.int .i64 c))
      (go_keep)
      (first | (go_at_call 29; refine (CF.out _).mono ?_; rintro e w1 ⟨rfl, rfl⟩))
    all_goals (go_wp2_with fail; go_meet; refine ⟨_, _, rfl, rfl, ?_⟩; refine FX.drew ?_; first | exact fx_12 _ _ (by simp) f0 f1 f2 a b c | exact fx_13 _ _ (by simp) f0 f1 f2 a b c | exact fx_21 _ _ (by simp) f0 f1 f2 a b c | exact fx_23 _ _ (by simp) f0 f1 f2 a b c | exact fx_31 _ _ (by simp) f0 f1 f2 a b c | exact fx_32 _ _ (by simp) f0 f1 f2 a b c)
  case rest =>
    obtain ⟨g, h, rfl, rfl, HFX⟩ := hcut
    have y0 : wc.cell? ⟨w.heap.size, 0, none⟩ = some (.int .i64 op) := keep_below HFX.below (by simp)
    have y4 : wc.cell? ⟨w.heap.size, 4, none⟩ = some (.slice ca cs.length ccap) := keep_below HFX.below (by simp)
    have y5 : wc.cell? ⟨w.heap.size, 5, none⟩ = some (.bool d) := keep_below HFX.below (by simp)
    have hB : Below w.heap.size w wc := bcall (bnew (Below.refl _ w) _) HFX.below
    have HF := Lib.hid HFX.cf
    have HX := Lib.hid HFX.cx
    clear HFX
    go_wp2_with fail
    go_loopw [7] (fun vi wr => ∃ k : Nat, k ≤ 3 ∧ vi = .int .i64 k ∧ (∀ j, j < k → okF (tF f0 f1 f2 j) (triI a b c j) p = true) ∧ wr = wc) (fun vi _ => 3 - (intOf vi).toNat)
    case atStart => exact ⟨0, by omega, rfl, fun j hj => by omega, rfl⟩
    case round =>
      obtain ⟨k, hk, rfl, hn, rfl⟩ := hrel
      have HN := Lib.hid hn
      clear hn
      by_cases hlt : k < 3
      · have e1 := HF.out k hlt
        rw [tri_cast] at e1
        have e2 := HX.out k hlt
        have hklt : (k : Int) < 3 := by omega
        cases hok : okF (tF f0 f1 f2 k) (triI a b c k) p with
        | false =>
          have HOK := Lib.hid hok
          generalize tF f0 f1 f2 k = F at hok e1
          generalize triI a b c k = X at hok e2
          by_cases g0 : F = 0
          · subst g0
            have t0 : (X != 0) = true := by simpa [okF] using hok
            clear hok
            go_wp2_with fail
            go_ret
            exact ⟨by rw [(HNo.out k hlt HOK.out)]; simp, hB⟩
          · by_cases g3 : F = 3
            · subst g3
              have t0 : ¬ (0 ≤ X ∧ X ≤ p) := by simpa [okF] using hok
              clear hok g0
              by_cases t1 : X < 0
              · go_wp2_with fail
                go_ret
                exact ⟨by rw [(HNo.out k hlt HOK.out)]; simp, hB⟩
              · have t2 : p < X := by omega
                clear t0
                go_wp2_with fail
                go_ret
                exact ⟨by rw [(HNo.out k hlt HOK.out)]; simp, hB⟩
            · by_cases g4 : F = 4
              · subst g4
                have t0 : ¬ (0 ≤ X ∧ X < 16) := by simpa [okF] using hok
                clear hok g0 g3
                by_cases t1 : X < 0
                · go_wp2_with fail
                  go_ret
                  exact ⟨by rw [(HNo.out k hlt HOK.out)]; simp, hB⟩
                · have t2 : 16 ≤ X := by omega
                  clear t0
                  go_wp2_with fail
                  go_ret
                  exact ⟨by rw [(HNo.out k hlt HOK.out)]; simp, hB⟩
              · by_cases g5 : F = 5
                · subst g5; simp [okF] at hok
                · rw [okF_no0 g0 g3 g4 g5] at hok
                  have z0 : ((F : Int) == 0) = false := by simpa using g0
                  have z3 : ((F : Int) == 3) = false := by simpa using (fun e => g3 (by omega) : ¬ (F : Int) = 3)
                  have z4 : ((F : Int) == 4) = false := by simpa using (fun e => g4 (by omega) : ¬ (F : Int) = 4)
                  have z5 : ((F : Int) == 5) = false := by simpa using (fun e => g5 (by omega) : ¬ (F : Int) = 5)
                  have CR := rreg_any X wr
                  rw [hok] at CR
                  have CRh := Lib.hid CR
                  clear CR hok g0 g3 g4 g5
                  go_wp2_with (go_at_call 38; refine CRh.out.mono ?_; rintro e w1 ⟨rfl, rfl⟩)
                  go_ret
                  exact ⟨by rw [(HNo.out k hlt HOK.out)]; simp, hB⟩
        | true =>
          have HOK := Lib.hid hok
          generalize tF f0 f1 f2 k = F at hok e1
          generalize triI a b c k = X at hok e2
          by_cases g0 : F = 0
          · subst g0
            have t0 : (X != 0) = false := by simpa [okF] using hok
            clear hok
            go_wp2_with fail
            go_roundw
            case rel => exact ⟨k + 1, by omega, by go_num, nx_ok HN.out HOK.out, by first | rfl | trivial⟩
            case measure => simp [intOf]; omega
          · by_cases g3 : F = 3
            · subst g3
              have t0 : 0 ≤ X ∧ X ≤ p := by simpa [okF] using hok
              obtain ⟨t1, t2⟩ := t0
              clear hok g0
              go_wp2_with fail
              go_roundw
              case rel => exact ⟨k + 1, by omega, by go_num, nx_ok HN.out HOK.out, by first | rfl | trivial⟩
              case measure => simp [intOf]; omega
            · by_cases g4 : F = 4
              · subst g4
                have t0 : 0 ≤ X ∧ X < 16 := by simpa [okF] using hok
                obtain ⟨t1, t2⟩ := t0
                clear hok g0 g3
                go_wp2_with fail
                go_roundw
                case rel => exact ⟨k + 1, by omega, by go_num, nx_ok HN.out HOK.out, by first | rfl | trivial⟩
                case measure => simp [intOf]; omega
              · by_cases g5 : F = 5
                · subst g5
                  clear hok g0 g3 g4
                  go_wp2_with fail
                  go_roundw
                  case rel => exact ⟨k + 1, by omega, by go_num, nx_ok HN.out HOK.out, by first | rfl | trivial⟩
                  case measure => simp [intOf]; omega
                · rw [okF_no0 g0 g3 g4 g5] at hok
                  have z0 : ((F : Int) == 0) = false := by simpa using g0
                  have z3 : ((F : Int) == 3) = false := by simpa using (fun e => g3 (by omega) : ¬ (F : Int) = 3)
                  have z4 : ((F : Int) == 4) = false := by simpa using (fun e => g4 (by omega) : ¬ (F : Int) = 4)
                  have z5 : ((F : Int) == 5) = false := by simpa using (fun e => g5 (by omega) : ¬ (F : Int) = 5)
                  have CR := rreg_any X wr
                  rw [hok] at CR
                  have CRh := Lib.hid CR
                  clear CR hok g0 g3 g4 g5
                  go_wp2_with (go_at_call 38; refine CRh.out.mono ?_; rintro e w1 ⟨rfl, rfl⟩)
                  go_roundw
                  case rel => exact ⟨k + 1, by omega, by go_num, nx_ok HN.out HOK.out, by first | rfl | trivial⟩
                  case measure => simp [intOf]; omega
      · obtain rfl : k = 3 := by omega
        have G := HYes.out HN.out
        have HG := Lib.hid G
        clear G
        by_cases h15 : op = 15
        · subst h15
          have hfin : oneB ⟨15, a, b, c, cs, d⟩ p = (!(cs.any badC) && decide (cs.length ≤ 16)) := by rw [HG.out, if_pos rfl]
          have HFin := Lib.hid hfin
          clear hfin HG HYes HNo HN
          obtain ⟨wo, rfl⟩ : ∃ wo : World, wo = wr := ⟨_, rfl⟩
          go_wp2_with fail
          go_loopw [8] (fun vi wr => ∃ k : Nat, k ≤ cs.length ∧ vi = .int .i64 k ∧ (∀ x ∈ cs.take k, badC x = false) ∧ Below wo.heap.size wo wr) (fun vi _ => cs.length - (intOf vi).toNat)
          case atStart => exact ⟨0, by omega, rfl, by simp, Below.refl _ _⟩
          case round =>
            obtain ⟨k, hk, rfl, hn, hbc⟩ := hrel
            have HN := Lib.hid hn
            have hbr := bcall hB hbc
            have z4 := keep_below hbc y4
            clear hn
            by_cases hlt : k < cs.length
            · obtain ⟨⟨send, ch, val⟩, hxk⟩ : ∃ x, cs[k]? = some x := ⟨_, List.getElem?_eq_getElem hlt⟩
              obtain ⟨a', cap', cb, coff, he, hcc, hcm, hca, hcell⟩ := HC.out
              obtain ⟨rfl, rfl⟩ : ca = a' ∧ ccap = cap' := by injection he with h1 h2 h3; exact ⟨h1, h3⟩
              obtain rfl := hca (by omega)
              obtain ⟨x0, x1, x2⟩ := hcell k _ hxk
              have x0' := keep_below hbr x0
              have x1' := keep_below hbr x1
              have x2' := keep_below hbr x2
              have HXk := Lib.hid hxk
              clear x0 x1 x2 hxk he hcell hca
              have C1 := rreg_any ch (wr.alloc (.cells #[.bool send, .int .i64 ch, .int .i64 val] 41))
              have C2 := rreg_any val (wr.alloc (.cells #[.bool send, .int .i64 ch, .int .i64 val] 41))
              cases r1 : regB ch with
              | false =>
                rw [r1] at C1
                have HBd := Lib.hid (any_bad HXk.out (by simp [badC, r1]))
                have C1 := Lib.hid C1
                clear r1 C2
                go_wp2_with (first | (go_at_call 38; with_reducible refine C1.out.mono ?_; rintro e w1 ⟨rfl, rfl⟩))
                go_ret
                exact ⟨by rw [HFin.out, HBd.out]; simp, bcall hbr (bnew (Below.refl _ _) _)⟩
              | true =>
                rw [r1] at C1
                have C1 := Lib.hid C1
                cases send with
                | true =>
                  cases r2 : regB val with
                  | false =>
                    rw [r2] at C2
                    have HBd := Lib.hid (any_bad HXk.out (by simp [badC, r1, r2]))
                    have C2 := Lib.hid C2
                    clear r1 r2
                    go_wp2_with (first | (go_at_call 38; with_reducible refine C1.out.mono ?_; rintro e w1 ⟨rfl, rfl⟩) | (go_at_call 38; with_reducible refine C2.out.mono ?_; rintro e w1 ⟨rfl, rfl⟩))
                    go_ret
                    exact ⟨by rw [HFin.out, HBd.out]; simp, bcall hbr (bnew (Below.refl _ _) _)⟩
                  | true =>
                    rw [r2] at C2
                    have HBk := Lib.hid (show badC ⟨true, ch, val⟩ = false by simp [badC, r1, r2])
                    have C2 := Lib.hid C2
                    clear r1 r2
                    go_wp2_with (first | (go_at_call 38; with_reducible refine C1.out.mono ?_; rintro e w1 ⟨rfl, rfl⟩) | (go_at_call 38; with_reducible refine C2.out.mono ?_; rintro e w1 ⟨rfl, rfl⟩))
                    go_roundw
                    case rel => ((repeat apply Exists.intro); exact ⟨⟨k + 1, by omega, by go_num, nx_bad HN.out HXk.out HBk.out, bcall hbc (bnew (Below.refl _ _) _)⟩, rfl⟩)
                    case measure => simp [intOf]; omega
                | false =>
                  clear C2
                  by_cases hv : val = 0
                  · subst hv
                    have HBk := Lib.hid (show badC ⟨false, ch, 0⟩ = false by simp [badC, r1, show regB 0 = true from rfl])
                    clear r1
                    go_wp2_with (first | (go_at_call 38; with_reducible refine C1.out.mono ?_; rintro e w1 ⟨rfl, rfl⟩))
                    go_roundw
                    case rel => ((repeat apply Exists.intro); exact ⟨⟨k + 1, by omega, by go_num, nx_bad HN.out HXk.out HBk.out, bcall hbc (bnew (Below.refl _ _) _)⟩, rfl⟩)
                    case measure => simp [intOf]; omega
                  · have v0 : (val != 0) = true := bne_iff_ne.2 hv
                    have HBd := Lib.hid (any_bad HXk.out (by simp [badC, hv]))
                    clear r1 hv
                    go_wp2_with (first | (go_at_call 38; with_reducible refine C1.out.mono ?_; rintro e w1 ⟨rfl, rfl⟩))
                    go_ret
                    exact ⟨by rw [HFin.out, HBd.out]; simp, bcall hbr (bnew (Below.refl _ _) _)⟩
            · obtain rfl : k = cs.length := by omega
              have hno : cs.any badC = false := by
                have h1 := HN.out
                rw [List.take_length] at h1
                rw [List.any_eq_false]
                intro x hx
                rw [h1 x hx]
                simp
              have HNb := Lib.hid hno
              clear hno
              by_cases h16 : cs.length ≤ 16
              · go_wp2_with fail
                go_ret
                exact ⟨by rw [HFin.out, HNb.out]; simp [h16]; omega, hbr⟩
              · go_wp2_with fail
                go_ret
                exact ⟨by rw [HFin.out, HNb.out]; simp [h16]; omega, hbr⟩
        · have b15 : (op != 15) = true := bne_iff_ne.2 h15
          have hfin : oneB ⟨op, a, b, c, cs, d⟩ p = (cs.isEmpty && !d) := by rw [HG.out, if_neg h15]
          have HFin := Lib.hid hfin
          clear hfin h15
          cases hcs0 : cs with
          | nil =>
            subst hcs0
            go_wp2_with fail
            go_ret
            exact ⟨by rw [HFin.out]; simp, hB⟩
          | cons x l =>
            have hl0 : ((cs.length : Int) == 0) = false := by rw [hcs0]; simp; omega
            have HCons := Lib.hid hcs0
            clear hcs0
            go_wp2_with fail
            go_ret
            exact ⟨by rw [HFin.out, HCons.out]; simp, hB⟩
end Go.Proofs.YtajblpopbipegaaDoor
