/-
  tarpaulinref1.Reads, Writes: THE WALKS (printed by genrr.py).
-/
import Derived.Test.YtajblpopbipegaaDoorRef
import Derived.Test.YtajblpopbipegaaDoorSmall
import Derived.Test.YtajblpopbipegaaDoorSel
import Derived.Deep.DeepCutAuto
namespace Go.Proofs.YtajblpopbipegaaDoor
open Go.RowKit Go.Lib

def bitsOf (l : List Int) (j : Nat) : Bool := l.any fun x => x == (j : Int)
theorem up_bits (l : List Int) : upB (bitsOf l) 8 = upI l := rfl
def Bits (w : World) (B : Nat) (l : List Int) : Prop := w.heap[B]? = some (.cells #[.bool (bitsOf l 0), .bool (bitsOf l 1), .bool (bitsOf l 2), .bool (bitsOf l 3), .bool (bitsOf l 4), .bool (bitsOf l 5), .bool (bitsOf l 6), .bool (bitsOf l 7)] 50 (0, 0))
theorem bits_snoc (l : List Int) (n j : Nat) : bitsOf (l ++ [(n : Int)]) j = (bitsOf l j || decide (n = j)) := by
  unfold bitsOf
  rw [List.any_append]
  congr 1
  by_cases h : n = j
  · simp [h]
  · simp [h]; omega
theorem bits_set {w : World} {B : Nat} {l : List Int} (h : Bits w B l) (n : Nat) (hn : n < 8) : Bits (w.setCell ⟨B, n, none⟩ (.bool true)) B (l ++ [(n : Int)]) := by
  unfold Bits at h ⊢
  simp only [bits_snoc]
  simp [World.setCell, Array.getElem?_modify, h]
  match n, hn with
  | 0, _ => simp
  | 1, _ => simp
  | 2, _ => simp
  | 3, _ => simp
  | 4, _ => simp
  | 5, _ => simp
  | 6, _ => simp
  | 7, _ => simp
theorem bits_cell {w : World} {B : Nat} {l : List Int} (h : Bits w B l) (n : Nat) (hn : n < 8) : w.cell? ⟨B, n, none⟩ = some (.bool (bitsOf l n)) := by
  refine (cell_of_row w B n _ _ _ h).trans ?_
  match n, hn with
  | 0, _ => rfl
  | 1, _ => rfl
  | 2, _ => rfl
  | 3, _ => rfl
  | 4, _ => rfl
  | 5, _ => rfl
  | 6, _ => rfl
  | 7, _ => rfl
theorem bits_free {w : World} {B : Nat} {l : List Int} (h : Bits w B l) (n : Nat) : w.frozen? ⟨B, n, none⟩ = false := by
  unfold Bits at h
  simp [World.frozen?, h]
theorem bits_keep {w w' : World} {B : Nat} {l : List Int} (h : Bits w B l) (hb : Below w.heap.size w w') : Bits w' B l := by
  unfold Bits at h ⊢
  rw [hb.block B (by
    rcases Nat.lt_or_ge B w.heap.size with hl | hl
    · exact hl
    · rw [Array.getElem?_eq_none hl] at h; cases h)]
  exact h
theorem only_trans {a b c : World} {row : Option Nat} (h : a.grownBy b row) (k : b.grownBy c row) : a.grownBy c row :=
  ⟨k.os.trans h.os, k.tape.trans h.tape, k.output.trans h.output, Nat.le_trans h.size k.size, fun i hi hne => (k.block i (Nat.lt_of_lt_of_le hi h.size) hne).trans (h.block i hi hne)⟩
theorem only_set (w : World) (B n : Nat) (v : Value) : w.grownBy (w.setCell ⟨B, n, none⟩ v) (some B) :=
  ⟨rfl, rfl, rfl, by simp [World.setCell], fun i hi hne => by
    have : B ≠ i := fun e => hne (by rw [e])
    simp [World.setCell, Array.getElem?_modify, this]⟩
theorem only_below {a b c : World} {B n : Nat} (h : Below n a b) (k : b.grownBy c (some B)) (hn : n ≤ B) (hs : n ≤ b.heap.size) : Below n a c := h.grown k hs (fun j hj => by injection hj with hj; omega)

theorem keep4 {w : World} {o : Obj} {p0 p1 p2 p3 : Addr} {x0 x1 x2 x3 : Value} (h : w.cell? p0 = some x0 ∧ w.cell? p1 = some x1 ∧ w.cell? p2 = some x2 ∧ w.cell? p3 = some x3) :
    (w.alloc o).cell? p0 = some x0 ∧ (w.alloc o).cell? p1 = some x1 ∧ (w.alloc o).cell? p2 = some x2 ∧ (w.alloc o).cell? p3 = some x3 := ⟨keep_alloc h.1, keep_alloc h.2.1, keep_alloc h.2.2.1, keep_alloc h.2.2.2⟩
theorem keep4d {w : World} {p0 p1 p2 p3 : Addr} {x0 x1 x2 x3 : Value} (h : w.cell? p0 = some x0 ∧ w.cell? p1 = some x1 ∧ w.cell? p2 = some x2 ∧ w.cell? p3 = some x3) :
    w.drew.cell? p0 = some x0 ∧ w.drew.cell? p1 = some x1 ∧ w.drew.cell? p2 = some x2 ∧ w.drew.cell? p3 = some x3 := h
def accR (g : Nat → Int → List Int) (f0 f1 f2 : Nat) (a b c : Int) : Nat → List Int
  | 0 => []
  | k + 1 => accR g f0 f1 f2 a b c k ++ g (tF f0 f1 f2 k) (triI a b c k)
theorem acc_3 (g : Nat → Int → List Int) (f0 f1 f2 : Nat) (a b c : Int) : accR g f0 f1 f2 a b c 3 = g f0 a ++ g f1 b ++ g f2 c := rfl
theorem rw_range {i : Ins} {f0 f1 f2 : Nat} (hf : formAt i.op = (f0, f1, f2)) (h : oneB i 100 = true) (k : Nat) (hk : k < 3) (hq : tF f0 f1 f2 k = 1 ∨ tF f0 f1 f2 k = 2 ∨ tF f0 f1 f2 k = 6) : 0 ≤ triI i.a i.b i.c k ∧ triI i.a i.b i.c k < 8 := by
  obtain ⟨_, _, h3, h4, h5, _, _⟩ := one_parts h
  rw [hf] at h3 h4 h5
  have key : ∀ {f : Nat} {n : Int}, okF f n 100 = true → (f = 1 ∨ f = 2 ∨ f = 6) → 0 ≤ n ∧ n < 8 := fun h hq => by
    rcases hq with rfl | rfl | rfl <;> exact reg_of h
  match k, hk with
  | 0, _ => exact key h3 hq
  | 1, _ => exact key h4 hq
  | 2, _ => exact key h5 hq

set_option maxRecDepth 100000 in
set_option maxHeartbeats 8000000 in
theorem rwrites_any (i : Ins) (cv : Value) (w : World) (hcs : CRep w i.cases cv) : Calls Tryd.prog 19 #[.agg #[.int .i64 i.op, .int .i64 i.a, .int .i64 i.b, .int .i64 i.c, cv, .bool i.dflt]] w (RPost w (refWrites i)) := by
  obtain ⟨op, a, b, c, cs, d⟩ := i
  simp only at hcs ⊢
  have C := one_any ⟨op, a, b, c, cs, d⟩ 100 cv _ ((hcs.ext (Ext.alloc w (.cells #[.int .i64 op, .int .i64 a, .int .i64 b, .int .i64 c, cv, .bool d] 36))).ext (Ext.alloc _ (.cells #[.bool false, .bool false, .bool false, .bool false, .bool false, .bool false, .bool false, .bool false] 50)))
  simp only at C
  obtain ⟨ca, ccap, rfl⟩ := hcs.form
  cases hg : oneB ⟨op, a, b, c, cs, d⟩ 100 with
  | false =>
    have e : refWrites ⟨op, a, b, c, cs, d⟩ = [] := by unfold refWrites; rw [if_neg (by rw [hg]; simp)]
    rw [e]
    rw [hg] at C
    have Ch := Lib.hid C
    clear C hg hcs e
    go_enter Tryd.func19, Tryd.ntmps19
    go_wp2_with fail
    refine Ch.out.mono ?_
    rintro e w1 ⟨rfl, hB⟩
    go_wp2_with fail
    go_ret
    exact ⟨_, rfl, ⟨none, 0, 0, 0, rfl, Nat.le_refl _, by unfold maxLen; omega, fun h => by simp at h, fun j z hj => by simp at hj⟩, bcall (bnew (bnew (Below.refl _ w) _) _) hB⟩
  | true =>
    have e : refWrites ⟨op, a, b, c, cs, d⟩ = upI (inW ⟨op, a, b, c, cs, d⟩) := by unfold refWrites; rw [if_pos hg]
    rw [e]
    have CF := form_any op
    obtain ⟨f0, f1, f2, hff⟩ : ∃ f0 f1 f2, formAt op = (f0, f1, f2) := ⟨_, _, _, rfl⟩
    rw [hff] at CF
    simp only at CF
    have CFh := Lib.hid CF
    have HR := Lib.hid (rw_range (i := ⟨op, a, b, c, cs, d⟩) hff hg)
    have hin : inW ⟨op, a, b, c, cs, d⟩ = accR wF f0 f1 f2 a b c 3 := by unfold inW; simp only [hff]; rfl
    have HIn := Lib.hid hin
    have HBad := Lib.hid (one_parts hg).2.2.2.2.2.2
    rw [hg] at C
    have Ch := Lib.hid C
    have HCS := Lib.hid hcs
    have hcl : cs.length ≤ 9223372036854775807 := by obtain ⟨_, cap', _, _, _, h2, h3, _⟩ := hcs; unfold maxLen at h3; omega
    clear C hg hcs e CF hff hin
    go_enter Tryd.func19, Tryd.ntmps19
    go_wp2_with fail
    refine Ch.out.mono ?_
    rintro e w1 ⟨rfl, hB⟩
    have hb := bcall (bnew (bnew (Below.refl _ w) _) _) hB
    have hsz := hB.size
    simp at hsz
    have y0 : w1.cell? ⟨w.heap.size, 0, none⟩ = some (.int .i64 op) := keep_below hB (keep_alloc (by simp))
    have y1 : w1.cell? ⟨w.heap.size, 1, none⟩ = some (.int .i64 a) := keep_below hB (keep_alloc (by simp))
    have y2 : w1.cell? ⟨w.heap.size, 2, none⟩ = some (.int .i64 b) := keep_below hB (keep_alloc (by simp))
    have y3 : w1.cell? ⟨w.heap.size, 3, none⟩ = some (.int .i64 c) := keep_below hB (keep_alloc (by simp))
    have y4 : w1.cell? ⟨w.heap.size, 4, none⟩ = some (.slice ca cs.length ccap) := keep_below hB (keep_alloc (by simp))
    have hbits : Bits w1 (w.heap.size + 1) [] := by
      refine bits_keep ?_ hB
      have := heap_alloc_new (w.alloc (.cells #[.int .i64 op, .int .i64 a, .int .i64 b, .int .i64 c, .slice ca cs.length ccap, .bool d] 36)) (.cells #[.bool false, .bool false, .bool false, .bool false, .bool false, .bool false, .bool false, .bool false] 50)
      simpa [Bits, bitsOf] using this
    have HBits := Lib.hid hbits
    clear hB hbits
    have Q := Lib.hid (And.intro y0 (And.intro y1 (And.intro y2 y3)))
    go_upto_region 4 with fail
    go_cut [4, 5] (fun s5 s6 wx => ∃ g h : Nat, s5 = .pointer (some ⟨g, 0, none⟩) ∧ s6 = .pointer (some ⟨h, 0, none⟩) ∧ FX w1 wx g h f0 f1 f2 a b c)
    case first =>
      go_region_held3 (fun w' => w'.cell? ⟨w.heap.size, 0, none⟩ = some (.int .i64 op) ∧ w'.cell? ⟨w.heap.size, 1, none⟩ = some (.int .i64 a) ∧ w'.cell? ⟨w.heap.size, 2, none⟩ = some (.int .i64 b) ∧ w'.cell? ⟨w.heap.size, 3, none⟩ = some (.int .i64 c))
        (first | ((repeat (first | exact Q.out | refine keep4d ?_ | refine keep4 ?_)); done) | go_keep)
        (first | (go_at_call 29; refine (CFh.out _).mono ?_; rintro e w1 ⟨rfl, rfl⟩))
      all_goals (go_wp2_with fail; go_meet; refine ⟨_, _, rfl, rfl, ?_⟩; refine FX.drew ?_; first | exact fx_12 _ _ rfl f0 f1 f2 a b c | exact fx_13 _ _ rfl f0 f1 f2 a b c | exact fx_21 _ _ rfl f0 f1 f2 a b c | exact fx_23 _ _ rfl f0 f1 f2 a b c | exact fx_31 _ _ rfl f0 f1 f2 a b c | exact fx_32 _ _ rfl f0 f1 f2 a b c)
    case rest =>
      obtain ⟨g, h, rfl, rfl, HFX⟩ := hcut
      have hgB : g ≠ w.heap.size + 1 := by have := HFX.gl; omega
      have hhB : h ≠ w.heap.size + 1 := by have := HFX.hl; omega
      have z4 := keep_below HFX.below y4
      have hbc := bcall hb HFX.below
      have hszc := HFX.below.size
      have hbits := bits_keep HBits.out HFX.below
      have HF := Lib.hid HFX.cf
      have HX := Lib.hid HFX.cx
      have HBc := Lib.hid hbits
      have HZ4 := Lib.hid z4
      clear HFX y0 y1 y2 y3 y4 z4 hbits
      go_wp2_with fail
      go_loopw [6] (fun vi wr => ∃ k : Nat, k ≤ 3 ∧ vi = .int .i64 k ∧ Bits wr (w.heap.size + 1) (accR wF f0 f1 f2 a b c k) ∧ wc.grownBy wr (some (w.heap.size + 1))) (fun vi _ => 3 - (intOf vi).toNat)
      case atStart => exact ⟨0, by omega, rfl, HBc.out, World.grownBy.refl _ _⟩
      case round =>
        obtain ⟨k, hk, rfl, hbk, hgr⟩ := hrel
        have HBk := Lib.hid hbk
        by_cases hlt : k < 3
        · have e1 := keep_grown hgr (by simpa using hgB) (HF.out k hlt)
          rw [tri_cast] at e1
          have e2 := keep_grown hgr (by simpa using hhB) (HX.out k hlt)
          have hklt : (k : Int) < 3 := by omega
          have HRk := HR.out k hlt
          have hacc : accR wF f0 f1 f2 a b c (k + 1) = accR wF f0 f1 f2 a b c k ++ wF (tF f0 f1 f2 k) (triI a b c k) := rfl
          generalize tF f0 f1 f2 k = F at e1 HRk hacc
          generalize triI a b c k = X at e2 HRk hacc
          have HAcc := Lib.hid hacc
          clear hacc
          by_cases g1 : F = 2 ∨ F = 6
          · obtain ⟨n, rfl⟩ := Int.eq_ofNat_of_zero_le (HRk (by omega)).1
            have hn8 : n < 8 := by have := (HRk (by omega)).2; omega
            have hn8' : (n : Int) < 8 := by omega
            have hn0 : (0 : Int) ≤ (n : Int) := by omega
            have c1 := bits_cell HBk.out n hn8
            have c2 := bits_free HBk.out n
            have hnew : Bits (wr.setCell ⟨w.heap.size + 1, n, none⟩ (.bool true)) (w.heap.size + 1) (accR wF f0 f1 f2 a b c (k + 1)) := by
              rw [HAcc.out]
              have : wF F (n : Int) = [(n : Int)] := by unfold wF; rw [if_pos g1]
              rw [this]
              exact bits_set HBk.out n hn8
            have HNew := Lib.hid hnew
            clear hnew HRk
            rcases g1 with rfl | rfl
            · go_wp2_with fail
              go_roundw
              case rel => exact ⟨k + 1, by omega, by go_num, HNew.out, only_trans hgr (only_set _ _ _ _)⟩
              case measure => simp [intOf]; omega
            · go_wp2_with fail
              go_roundw
              case rel => exact ⟨k + 1, by omega, by go_num, HNew.out, only_trans hgr (only_set _ _ _ _)⟩
              case measure => simp [intOf]; omega
          · have z1 : ((F : Int) == 2) = false := by simpa using (fun e => g1 (by omega) : ¬ (F : Int) = 2)
            have z6 : ((F : Int) == 6) = false := by simpa using (fun e => g1 (by omega) : ¬ (F : Int) = 6)
            have hnew : Bits wr (w.heap.size + 1) (accR wF f0 f1 f2 a b c (k + 1)) := by
              rw [HAcc.out]
              have : wF F X = [] := by unfold wF; rw [if_neg g1]
              rw [this, List.append_nil]
              exact HBk.out
            have HNew := Lib.hid hnew
            clear hnew HRk g1
            go_wp2_with fail
            go_roundw
            case rel => exact ⟨k + 1, by omega, by go_num, HNew.out, hgr⟩
            case measure => simp [intOf]; omega
        · obtain rfl : k = 3 := by omega
          have CR := rrise_any (bitsOf (accR wF f0 f1 f2 a b c 3)) wr
          have d0 := bits_cell HBk.out 0 (by omega)
          have d1 := bits_cell HBk.out 1 (by omega)
          have d2 := bits_cell HBk.out 2 (by omega)
          have d3 := bits_cell HBk.out 3 (by omega)
          have d4 := bits_cell HBk.out 4 (by omega)
          have d5 := bits_cell HBk.out 5 (by omega)
          have d6 := bits_cell HBk.out 6 (by omega)
          have d7 := bits_cell HBk.out 7 (by omega)
          have CRh := Lib.hid CR
          clear CR hbk
          have hbr := only_below hbc hgr (by omega) hbc.size
          generalize hM : bitsOf (accR wF f0 f1 f2 a b c 3) = M at d0 d1 d2 d3 d4 d5 d6 d7 CRh
          have HM := Lib.hid hM
          clear hM
          go_wp2_with (go_at_call 30; refine CRh.out.mono ?_; rintro e w3 ⟨v, rfl, hv, hB2⟩)
          go_ret
          exact ⟨v, rfl, by rw [HIn.out, ← up_bits, HM.out]; exact hv, bcall hbr hB2⟩

set_option maxRecDepth 100000 in
set_option maxHeartbeats 8000000 in
theorem rreads_any (i : Ins) (cv : Value) (w : World) (hcs : CRep w i.cases cv) : Calls Tryd.prog 17 #[.agg #[.int .i64 i.op, .int .i64 i.a, .int .i64 i.b, .int .i64 i.c, cv, .bool i.dflt]] w (RPost w (refReads i)) := by
  obtain ⟨op, a, b, c, cs, d⟩ := i
  simp only at hcs ⊢
  have C := one_any ⟨op, a, b, c, cs, d⟩ 100 cv _ ((hcs.ext (Ext.alloc w (.cells #[.int .i64 op, .int .i64 a, .int .i64 b, .int .i64 c, cv, .bool d] 36))).ext (Ext.alloc _ (.cells #[.bool false, .bool false, .bool false, .bool false, .bool false, .bool false, .bool false, .bool false] 50)))
  simp only at C
  obtain ⟨ca, ccap, rfl⟩ := hcs.form
  cases hg : oneB ⟨op, a, b, c, cs, d⟩ 100 with
  | false =>
    have e : refReads ⟨op, a, b, c, cs, d⟩ = [] := by unfold refReads; rw [if_neg (by rw [hg]; simp)]
    rw [e]
    rw [hg] at C
    have Ch := Lib.hid C
    clear C hg hcs e
    go_enter Tryd.func17, Tryd.ntmps17
    go_wp2_with fail
    refine Ch.out.mono ?_
    rintro e w1 ⟨rfl, hB⟩
    go_wp2_with fail
    go_ret
    exact ⟨_, rfl, ⟨none, 0, 0, 0, rfl, Nat.le_refl _, by unfold maxLen; omega, fun h => by simp at h, fun j z hj => by simp at hj⟩, bcall (bnew (bnew (Below.refl _ w) _) _) hB⟩
  | true =>
    have e : refReads ⟨op, a, b, c, cs, d⟩ = upI (inR ⟨op, a, b, c, cs, d⟩) := by unfold refReads; rw [if_pos hg]
    rw [e]
    have CF := form_any op
    obtain ⟨f0, f1, f2, hff⟩ : ∃ f0 f1 f2, formAt op = (f0, f1, f2) := ⟨_, _, _, rfl⟩
    rw [hff] at CF
    simp only at CF
    have CFh := Lib.hid CF
    have HR := Lib.hid (rw_range (i := ⟨op, a, b, c, cs, d⟩) hff hg)
    have hin : inR ⟨op, a, b, c, cs, d⟩ = accR rF f0 f1 f2 a b c 3 ++ csL cs := by unfold inR; simp only [hff]; rfl
    have HIn := Lib.hid hin
    have HBad := Lib.hid (one_parts hg).2.2.2.2.2.2
    rw [hg] at C
    have Ch := Lib.hid C
    have HCS := Lib.hid hcs
    have hcl : cs.length ≤ 9223372036854775807 := by obtain ⟨_, cap', _, _, _, h2, h3, _⟩ := hcs; unfold maxLen at h3; omega
    clear C hg hcs e CF hff hin
    go_enter Tryd.func17, Tryd.ntmps17
    go_wp2_with fail
    refine Ch.out.mono ?_
    rintro e w1 ⟨rfl, hB⟩
    have hb := bcall (bnew (bnew (Below.refl _ w) _) _) hB
    have hsz := hB.size
    simp at hsz
    have y0 : w1.cell? ⟨w.heap.size, 0, none⟩ = some (.int .i64 op) := keep_below hB (keep_alloc (by simp))
    have y1 : w1.cell? ⟨w.heap.size, 1, none⟩ = some (.int .i64 a) := keep_below hB (keep_alloc (by simp))
    have y2 : w1.cell? ⟨w.heap.size, 2, none⟩ = some (.int .i64 b) := keep_below hB (keep_alloc (by simp))
    have y3 : w1.cell? ⟨w.heap.size, 3, none⟩ = some (.int .i64 c) := keep_below hB (keep_alloc (by simp))
    have y4 : w1.cell? ⟨w.heap.size, 4, none⟩ = some (.slice ca cs.length ccap) := keep_below hB (keep_alloc (by simp))
    have hbits : Bits w1 (w.heap.size + 1) [] := by
      refine bits_keep ?_ hB
      have := heap_alloc_new (w.alloc (.cells #[.int .i64 op, .int .i64 a, .int .i64 b, .int .i64 c, .slice ca cs.length ccap, .bool d] 36)) (.cells #[.bool false, .bool false, .bool false, .bool false, .bool false, .bool false, .bool false, .bool false] 50)
      simpa [Bits, bitsOf] using this
    have HBits := Lib.hid hbits
    clear hB hbits
    have Q := Lib.hid (And.intro y0 (And.intro y1 (And.intro y2 y3)))
    go_upto_region 4 with fail
    go_cut [4, 5] (fun s5 s6 wx => ∃ g h : Nat, s5 = .pointer (some ⟨g, 0, none⟩) ∧ s6 = .pointer (some ⟨h, 0, none⟩) ∧ FX w1 wx g h f0 f1 f2 a b c)
    case first =>
      go_region_held3 (fun w' => w'.cell? ⟨w.heap.size, 0, none⟩ = some (.int .i64 op) ∧ w'.cell? ⟨w.heap.size, 1, none⟩ = some (.int .i64 a) ∧ w'.cell? ⟨w.heap.size, 2, none⟩ = some (.int .i64 b) ∧ w'.cell? ⟨w.heap.size, 3, none⟩ = some (.int .i64 c))
        (first | ((repeat (first | exact Q.out | refine keep4d ?_ | refine keep4 ?_)); done) | go_keep)
        (first | (go_at_call 29; refine (CFh.out _).mono ?_; rintro e w1 ⟨rfl, rfl⟩))
      all_goals (go_wp2_with fail; go_meet; refine ⟨_, _, rfl, rfl, ?_⟩; refine FX.drew ?_; first | exact fx_12 _ _ rfl f0 f1 f2 a b c | exact fx_13 _ _ rfl f0 f1 f2 a b c | exact fx_21 _ _ rfl f0 f1 f2 a b c | exact fx_23 _ _ rfl f0 f1 f2 a b c | exact fx_31 _ _ rfl f0 f1 f2 a b c | exact fx_32 _ _ rfl f0 f1 f2 a b c)
    case rest =>
      obtain ⟨g, h, rfl, rfl, HFX⟩ := hcut
      have hgB : g ≠ w.heap.size + 1 := by have := HFX.gl; omega
      have hhB : h ≠ w.heap.size + 1 := by have := HFX.hl; omega
      have z4 := keep_below HFX.below y4
      have hbc := bcall hb HFX.below
      have hszc := HFX.below.size
      have hbits := bits_keep HBits.out HFX.below
      have HF := Lib.hid HFX.cf
      have HX := Lib.hid HFX.cx
      have HBc := Lib.hid hbits
      have HZ4 := Lib.hid z4
      clear HFX y0 y1 y2 y3 y4 z4 hbits
      go_wp2_with fail
      go_loopw [6] (fun vi wr => ∃ k : Nat, k ≤ 3 ∧ vi = .int .i64 k ∧ Bits wr (w.heap.size + 1) (accR rF f0 f1 f2 a b c k) ∧ wc.grownBy wr (some (w.heap.size + 1))) (fun vi _ => 3 - (intOf vi).toNat)
      case atStart => exact ⟨0, by omega, rfl, HBc.out, World.grownBy.refl _ _⟩
      case round =>
        obtain ⟨k, hk, rfl, hbk, hgr⟩ := hrel
        have HBk := Lib.hid hbk
        by_cases hlt : k < 3
        · have e1 := keep_grown hgr (by simpa using hgB) (HF.out k hlt)
          rw [tri_cast] at e1
          have e2 := keep_grown hgr (by simpa using hhB) (HX.out k hlt)
          have hklt : (k : Int) < 3 := by omega
          have HRk := HR.out k hlt
          have hacc : accR rF f0 f1 f2 a b c (k + 1) = accR rF f0 f1 f2 a b c k ++ rF (tF f0 f1 f2 k) (triI a b c k) := rfl
          generalize tF f0 f1 f2 k = F at e1 HRk hacc
          generalize triI a b c k = X at e2 HRk hacc
          have HAcc := Lib.hid hacc
          clear hacc
          by_cases g1 : F = 1 ∨ F = 6
          · obtain ⟨n, rfl⟩ := Int.eq_ofNat_of_zero_le (HRk (by omega)).1
            have hn8 : n < 8 := by have := (HRk (by omega)).2; omega
            have hn8' : (n : Int) < 8 := by omega
            have hn0 : (0 : Int) ≤ (n : Int) := by omega
            have c1 := bits_cell HBk.out n hn8
            have c2 := bits_free HBk.out n
            have hnew : Bits (wr.setCell ⟨w.heap.size + 1, n, none⟩ (.bool true)) (w.heap.size + 1) (accR rF f0 f1 f2 a b c (k + 1)) := by
              rw [HAcc.out]
              have : rF F (n : Int) = [(n : Int)] := by unfold rF; rw [if_pos g1]
              rw [this]
              exact bits_set HBk.out n hn8
            have HNew := Lib.hid hnew
            clear hnew HRk
            rcases g1 with rfl | rfl
            · go_wp2_with fail
              go_roundw
              case rel => exact ⟨k + 1, by omega, by go_num, HNew.out, only_trans hgr (only_set _ _ _ _)⟩
              case measure => simp [intOf]; omega
            · go_wp2_with fail
              go_roundw
              case rel => exact ⟨k + 1, by omega, by go_num, HNew.out, only_trans hgr (only_set _ _ _ _)⟩
              case measure => simp [intOf]; omega
          · have z1 : ((F : Int) == 1) = false := by simpa using (fun e => g1 (by omega) : ¬ (F : Int) = 1)
            have z6 : ((F : Int) == 6) = false := by simpa using (fun e => g1 (by omega) : ¬ (F : Int) = 6)
            have hnew : Bits wr (w.heap.size + 1) (accR rF f0 f1 f2 a b c (k + 1)) := by
              rw [HAcc.out]
              have : rF F X = [] := by unfold rF; rw [if_neg g1]
              rw [this, List.append_nil]
              exact HBk.out
            have HNew := Lib.hid hnew
            clear hnew HRk g1
            go_wp2_with fail
            go_roundw
            case rel => exact ⟨k + 1, by omega, by go_num, HNew.out, hgr⟩
            case measure => simp [intOf]; omega
        · obtain rfl : k = 3 := by omega
          have hbr0 := only_below hbc hgr (by omega) hbc.size
          have z4 := keep_grown hgr (by simp) HZ4.out
          have HZ := Lib.hid z4
          obtain ⟨wo, rfl⟩ : ∃ wo : World, wo = wr := ⟨_, rfl⟩
          clear z4 hbk
          go_wp2_with fail
          go_loopw [7] (fun vi wr => ∃ m : Nat, m ≤ cs.length ∧ vi = .int .i64 m ∧ Bits wr (w.heap.size + 1) (accR rF f0 f1 f2 a b c 3 ++ csL (cs.take m)) ∧ wo.grownBy wr (some (w.heap.size + 1))) (fun vi _ => cs.length - (intOf vi).toNat)
          case atStart => exact ⟨0, by omega, rfl, by simpa [csL] using HBk.out, World.grownBy.refl _ _⟩
          case round =>
            obtain ⟨m, hm, rfl, hbm, hgm⟩ := hrel
            have HBm := Lib.hid hbm
            have hbr := only_below hbr0 hgm (by omega) hbr0.size
            have zz := keep_grown hgm (by simp) HZ.out
            clear hbm
            by_cases hlt : m < cs.length
            · obtain ⟨⟨send, ch, val⟩, hxk⟩ : ∃ x, cs[m]? = some x := ⟨_, List.getElem?_eq_getElem hlt⟩
              obtain ⟨a', cap', cb, coff, he, hcc, hcm, hca, hcell⟩ := HCS.out
              obtain ⟨rfl, rfl⟩ : ca = a' ∧ ccap = cap' := by injection he with h1 h2 h3; exact ⟨h1, h3⟩
              obtain rfl := hca (by omega)
              obtain ⟨x0, x1, x2⟩ := hcell m _ hxk
              have x0' := keep_below hbr x0
              have x1' := keep_below hbr x1
              have x2' := keep_below hbr x2
              have hcbl := cell_lt x0
              have hcb : cb ≠ w.heap.size + 1 := by simp only at hcbl; omega
              have hregs := bad_regs (c := ⟨send, ch, val⟩) (by
                cases e : badC ⟨send, ch, val⟩ with
                | false => rfl
                | true =>
                  have h9 := HBad.out
                  rw [any_bad hxk e] at h9; cases h9)
              obtain ⟨r1, r2⟩ := hregs
              obtain ⟨n1, rfl⟩ := Int.eq_ofNat_of_zero_le (reg_of r1).1
              obtain ⟨n2, rfl⟩ := Int.eq_ofNat_of_zero_le (reg_of r2).1
              have l1 : n1 < 8 := by have := (reg_of r1).2; simp only at this; omega
              have l2 : n2 < 8 := by have := (reg_of r2).2; simp only at this; omega
              have l1' : (n1 : Int) < 8 := by omega
              have l2' : (n2 : Int) < 8 := by omega
              have htk := csL_take cs m _ hxk
              simp only at htk
              have c1 := bits_cell HBm.out n1 l1
              have c2 := bits_free HBm.out n1
              have hB1 := bits_set HBm.out n1 l1
              have HB1 := Lib.hid hB1
              clear hcell he hca hxk x0 x1 x2 r1 r2 hB1
              cases send with
              | false =>
                have hnew : Bits (wr.setCell ⟨w.heap.size + 1, n1, none⟩ (.bool true)) (w.heap.size + 1) (accR rF f0 f1 f2 a b c 3 ++ csL (cs.take (m + 1))) := by
                  rw [htk, ← List.append_assoc]
                  exact HB1.out
                have HNew := Lib.hid hnew
                have q0 : (wr.setCell ⟨w.heap.size + 1, n1, none⟩ (.bool true)).cell? ⟨w.heap.size, 4, none⟩ = some (.slice (some ⟨cb, coff, none⟩) cs.length ccap) := keep_grown (only_set _ _ _ _) (by simp) zz
                have q1 : (wr.setCell ⟨w.heap.size + 1, n1, none⟩ (.bool true)).cell? ⟨cb, coff + m * 3, none⟩ = some (.bool false) := keep_grown (only_set _ _ _ _) (by simpa using hcb) x0'
                clear hnew htk
                go_wp2_with fail
                go_roundw
                case rel => exact ⟨m + 1, by omega, by go_num, HNew.out, only_trans hgm (only_set _ _ _ _)⟩
                case measure => simp [intOf]; omega
              | true =>
                have hnew : Bits ((wr.setCell ⟨w.heap.size + 1, n1, none⟩ (.bool true)).setCell ⟨w.heap.size + 1, n2, none⟩ (.bool true)) (w.heap.size + 1) (accR rF f0 f1 f2 a b c 3 ++ csL (cs.take (m + 1))) := by
                  have := bits_set HB1.out n2 l2
                  rw [htk]
                  simpa [List.append_assoc] using this
                have HNew := Lib.hid hnew
                have q0 : (wr.setCell ⟨w.heap.size + 1, n1, none⟩ (.bool true)).cell? ⟨w.heap.size, 4, none⟩ = some (.slice (some ⟨cb, coff, none⟩) cs.length ccap) := keep_grown (only_set _ _ _ _) (by simp) zz
                have q1 : (wr.setCell ⟨w.heap.size + 1, n1, none⟩ (.bool true)).cell? ⟨cb, coff + m * 3, none⟩ = some (.bool true) := keep_grown (only_set _ _ _ _) (by simpa using hcb) x0'
                have q2 : (wr.setCell ⟨w.heap.size + 1, n1, none⟩ (.bool true)).cell? ⟨cb, coff + m * 3 + 2, none⟩ = some (.int .i64 n2) := keep_grown (only_set _ _ _ _) (by simpa using hcb) x2'
                have q3 := bits_cell HB1.out n2 l2
                have q4 := bits_free HB1.out n2
                clear hnew htk
                go_wp2_with fail
                go_roundw
                case rel => exact ⟨m + 1, by omega, by go_num, HNew.out, only_trans hgm (only_trans (only_set _ _ _ _) (only_set _ _ _ _))⟩
                case measure => simp [intOf]; omega
            · obtain rfl : m = cs.length := by omega
              have CR := rrise_any (bitsOf (accR rF f0 f1 f2 a b c 3 ++ csL (cs.take cs.length))) wr
              have d0 := bits_cell HBm.out 0 (by omega)
              have d1 := bits_cell HBm.out 1 (by omega)
              have d2 := bits_cell HBm.out 2 (by omega)
              have d3 := bits_cell HBm.out 3 (by omega)
              have d4 := bits_cell HBm.out 4 (by omega)
              have d5 := bits_cell HBm.out 5 (by omega)
              have d6 := bits_cell HBm.out 6 (by omega)
              have d7 := bits_cell HBm.out 7 (by omega)
              have CRh := Lib.hid CR
              clear CR
              have hI3 : inR ⟨op, a, b, c, cs, d⟩ = accR rF f0 f1 f2 a b c 3 ++ csL (cs.take cs.length) := by rw [HIn.out, List.take_length]
              have HI3 := Lib.hid hI3
              clear hI3
              generalize hM : bitsOf (accR rF f0 f1 f2 a b c 3 ++ csL (cs.take cs.length)) = M at d0 d1 d2 d3 d4 d5 d6 d7 CRh
              have HM := Lib.hid hM
              clear hM
              go_wp2_with (go_at_call 30; refine CRh.out.mono ?_; rintro e w3 ⟨v, rfl, hv, hB2⟩)
              go_ret
              exact ⟨v, rfl, by rw [HI3.out, ← up_bits, HM.out]; exact hv, bcall hbr hB2⟩
end Go.Proofs.YtajblpopbipegaaDoor
