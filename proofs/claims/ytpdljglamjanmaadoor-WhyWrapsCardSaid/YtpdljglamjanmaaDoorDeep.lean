/-
  tarpaulinlaw2.FaultDeep: THE WALK.
-/
import Derived.Test.YtpdljglamjanmaaDoorAwake
import Derived.Test.YtpdljglamjanmaaDoorIs
import Derived.Test.YtpdljglamjanmaaDoorPure4
namespace Go.Proofs.YtpdljglamjanmaaDoor
open Go.RowKit Go.Extern.Stop Go.Stop Go.Extern

/-- How far the nested shape is made: its variable lies in block B. -/
def NestRel (w : World) (code : Int) (k : Nat) (c : Int) (op : ByteArray) (a : Option Addr) (n cap : Nat) (wr : World) : Prop :=
  wr.heap[w.heap.size]? = some (.cells #[.int .i64 c, .string op, .slice a n cap] 27 (0, 0)) ∧ FRep (fun b => w.heap.size < b) wr (nest code k) (.int .i64 c) (.string op) (.slice a n cap) ∧ Below w.heap.size w wr

theorem nest_step {w wr : World} {code : Int} {k : Nat} {c : Int} {op : ByteArray} {a : Option Addr} {n cap : Nat} (h : NestRel w code k c op a n cap wr) :
    NestRel w code (k + 1) 0 oB (some ⟨wr.heap.size, 0, none⟩) 1 1 ((((wr.setCell ⟨w.heap.size, 0, none⟩ (.int .i64 0)).setCell ⟨w.heap.size, 1, none⟩ (.string oB)).setCell ⟨w.heap.size, 2, none⟩ (.slice (some ⟨wr.heap.size, 0, none⟩) 1 1)).alloc (.cells #[.int .i64 c, .string op, .slice a n cap] 27)) := by
  obtain ⟨hb, hF, hB⟩ := h
  have hl : w.heap.size < wr.heap.size := cell_lt (p := ⟨w.heap.size, 0, none⟩) (cell_of_row wr _ 0 _ _ _ hb)
  obtain ⟨W, hW⟩ : ∃ W, W = ((wr.setCell ⟨w.heap.size, 0, none⟩ (.int .i64 0)).setCell ⟨w.heap.size, 1, none⟩ (.string oB)).setCell ⟨w.heap.size, 2, none⟩ (.slice (some ⟨wr.heap.size, 0, none⟩) 1 1) := ⟨_, rfl⟩
  have hsz : W.heap.size = wr.heap.size := by rw [hW]; simp [World.setCell]
  have hbW : W.heap[w.heap.size]? = some (.cells #[.int .i64 0, .string oB, .slice (some ⟨wr.heap.size, 0, none⟩) 1 1] 27 (0, 0)) := by
    rw [hW]; simp [World.setCell, Array.getElem?_modify, hb]
  have hBW : Below w.heap.size w W := by rw [hW]; exact ((hB.setCell (p := ⟨w.heap.size, 0, none⟩) (by simp) _).setCell (p := ⟨w.heap.size, 1, none⟩) (by simp) _).setCell (p := ⟨w.heap.size, 2, none⟩) (by simp) _
  have hFW : FRep (fun b => w.heap.size < b) W (nest code k) (.int .i64 c) (.string op) (.slice a n cap) := by
    rw [hW]; exact hF.ext (((Ext.setCell _ _ _ (by simp)).trans (Ext.setCell _ _ _ (by simp))).trans (Ext.setCell _ _ _ (by simp)))
  rw [← hW, ← hsz]
  rw [← hsz] at hbW hl
  refine ⟨by rw [Below.heap_alloc _ _ _ hl]; exact hbW, ?_, bnew hBW _⟩
  exact one_kid (A := fun b => w.heap.size < b) (w := W.alloc (.cells #[.int .i64 c, .string op, .slice a n cap] 27)) (op := oB) (g := W.heap.size) (hFW.ext (Ext.alloc _ _)) (by decide) hl (by simp) (by simp) (by simp)

theorem make_nest (code : Int) (hc : 0 < code) (k : Nat) (hk : 1 ≤ k) (hk2 : k ≤ 30) : makeO (nest code (k - 1)) = if (k : Int) ≤ 20 then some (nest code (k - 1)) else none := by
  unfold makeO
  rw [size_nest code hc (k - 1) 20 (by omega)]
  by_cases h : k ≤ 20
  · have h1 : (k - 1) + 1 ≤ 20 := by omega
    have h2 : (k : Int) ≤ 20 := by omega
    simp [h1, h2]
  · have h1 : ¬ (k - 1) + 1 ≤ 20 := by omega
    have h2 : ¬ (k : Int) ≤ 20 := by omega
    simp [h1, h2]
theorem make_wide (m : Nat) (hm : 0 < m) : makeO (wideS m) = if (m : Int) ≤ 49 then some (wideS m) else none := by
  unfold makeO
  rw [size_wide m hm]
  by_cases h : m ≤ 49
  · rw [if_pos (by simpa using h), if_pos (by omega)]
  · rw [if_neg (by simpa using h), if_neg (by omega)]

/-- 'v != nil', 'v == nil' of an error or nil. -/
theorem O_neq {A : Nat → Prop} {w : World} {o : Option Sh} {v : Value} (h : ORep A w o v) (W : World) : (binOp .neq 29 v .nilIface).run Tryd.prog W = .ok (.bool o.isSome) W := by
  cases o with
  | none => obtain rfl : v = .nilIface := h; kernel_rfl
  | some s => obtain ⟨t, u, rfl⟩ := h.2.form; exact run_neq_held_nil (P := Tryd.prog) (w := W) 29 t u (by kernel_rfl)
theorem O_guard {A : Nat → Prop} {w : World} {o : Option Sh} {v : Value} (h : ORep A w o v) (W : World) (x : Operand) : (eqGuard .neq 29 x (.const .nilIface) v .nilIface).run Tryd.prog W = .ok () W := by
  cases o with
  | none => obtain rfl : v = .nilIface := h; simp [eqGuard]
  | some s => obtain ⟨t, u, rfl⟩ := h.2.form; simp [eqGuard]
/-- Is a code in an error, or nil? -/
def hasO (n : Int) : Option Sh → Bool
  | none => false
  | some s => hasC n s
theorem has_O {A : Nat → Prop} {w : World} {o : Option Sh} {v : Value} (h : ORep A w o v) (n : Int) : Calls Tryd.prog 17 #[v, .int .i64 n] w fun e w' => e = .returned (.bool (hasO n o)) ∧ Below w.heap.size w w' := by
  cases o with
  | none => obtain rfl : v = .nilIface := h; exact Has_nil n w
  | some s => exact Has_any s h.1 A v n w h.2

theorem deep_isSome (p : Prop) [Decidable p] (s : Sh) : (if p then some s else none).isSome = decide p := by by_cases h : p <;> simp [h]
theorem deep_has (n : Int) (s : Sh) (p : Prop) [Decidable p] (hs : hasC n s = true) : hasO n (if p then some s else none) = decide p := by by_cases h : p <;> simp [h, hasO, hs]

set_option maxHeartbeats 4000000 in
theorem deep_any (deep wide code : Int) (w : World) (hT : ErrT w) : Calls Tryd.prog 4 #[.int .i64 deep, .int .i64 wide, .int .i64 code] w fun e w' => e = .returned (.bool true) ∧ Below w.heap.size w w' := by
  obtain ⟨i0, hi0, hz0, hz1, hz2⟩ := info_parts Tryd.info27
  have HT := Lib.hid hT
  clear hT
  by_cases hin : 1 ≤ deep ∧ deep ≤ 30 ∧ 1 ≤ wide ∧ wide ≤ 60 ∧ 1 ≤ code
  · obtain ⟨h1, h2, h3, h4, h5⟩ := hin
    obtain ⟨d, rfl⟩ := Int.eq_ofNat_of_zero_le (show (0 : Int) ≤ deep by omega)
    obtain ⟨m, rfl⟩ := Int.eq_ofNat_of_zero_le (show (0 : Int) ≤ wide by omega)
    have d1 : decide ((d : Int) < 1) = false := by simp; omega
    have d2 : decide ((30 : Int) < (d : Int)) = false := by simp; omega
    have d3 : decide ((m : Int) < 1) = false := by simp; omega
    have d4 : decide ((60 : Int) < (m : Int)) = false := by simp; omega
    have d5 : decide (code < 1) = false := by simp; omega
    go_enter Tryd.func4, Tryd.ntmps4
    go_wp2_with fail
    go_loopw [8] (fun vi wr => ∃ (k : Nat) (c : Int) (op : ByteArray) (a : Option Addr) (n cap : Nat), 1 ≤ k ∧ k ≤ d ∧ vi = .int .i64 k ∧ NestRel w code (k - 1) c op a n cap wr) (fun vi _ => d - (intOf vi).toNat)
    case atStart => exact ⟨1, code, ⟨#[]⟩, none, 0, 0, by omega, by omega, rfl, heap_alloc_new w _, lit_code _ _ _, bnew (Below.refl _ w) _⟩
    case round =>
      obtain ⟨k, c, op, a, n, cap, hk1, hkd, rfl, hN⟩ := hrel
      by_cases hlt : k < d
      · have hb := hN.1
        have q0 : wr.cell? ⟨w.heap.size, 0, none⟩ = some (.int .i64 c) := by rw [cell_of_row wr _ _ _ _ _ hb]; rfl
        have q1 : wr.cell? ⟨w.heap.size, 1, none⟩ = some (.string op) := by rw [cell_of_row wr _ _ _ _ _ hb]; rfl
        have q2 : wr.cell? ⟨w.heap.size, 2, none⟩ = some (.slice a n cap) := by rw [cell_of_row wr _ _ _ _ _ hb]; rfl
        have p0 : wr.frozen? ⟨w.heap.size, 0, none⟩ = false := by simp [World.frozen?, hb]
        have p1 : wr.frozen? ⟨w.heap.size, 1, none⟩ = false := by simp [World.frozen?, hb]
        have p2 : wr.frozen? ⟨w.heap.size, 2, none⟩ = false := by simp [World.frozen?, hb]
        have hl : w.heap.size < wr.heap.size := cell_lt q0
        have r0 := fun o => keep_alloc (o := o) q0
        have r1 := fun o => keep_alloc (o := o) q1
        have r2 := fun o => keep_alloc (o := o) q2
        have s0 : ∀ o, (wr.alloc o).frozen? ⟨w.heap.size, 0, none⟩ = false := fun o => by rw [World.frozen?_alloc_old _ _ _ (by simp; omega)]; exact p0
        have s1 : ∀ o, (wr.alloc o).frozen? ⟨w.heap.size, 1, none⟩ = false := fun o => by rw [World.frozen?_alloc_old _ _ _ (by simp; omega)]; exact p1
        have s2 : ∀ o, (wr.alloc o).frozen? ⟨w.heap.size, 2, none⟩ = false := fun o => by rw [World.frozen?_alloc_old _ _ _ (by simp; omega)]; exact p2
        have HN := Lib.hid hN
        clear hN hb
        go_wp2_with fail
        go_roundw
        case rel =>
          have hst := nest_step HN.out
          rw [show k - 1 + 1 = (k + 1) - 1 by omega] at hst
          exact ⟨k + 1, _, _, _, _, _, by omega, by omega, by go_num, hst⟩
        case measure => simp [intOf]; omega
      · obtain rfl : k = d := by omega
        obtain ⟨wo, hwo⟩ : ∃ wo : World, wo = wr := ⟨_, rfl⟩
        subst hwo
        obtain ⟨W0, hW0⟩ : ∃ W0, W0 = wo.alloc (.cells #[.int .i64 0, .string wB, .slice none 0 0] 27) := ⟨_, rfl⟩
        have hx0 : W0.heap[wo.heap.size]? = some (.cells #[.int .i64 0, .string wB, .slice none 0 0] 27 (0, 0)) := by rw [hW0]; exact heap_alloc_new wo _
        have hwW0 : Below wo.heap.size wo W0 := by rw [hW0]; exact bnew (Below.refl _ wo) _
        have hsw : W0.heap.size = wo.heap.size + 1 := by rw [hW0]; simp
        have HW0 : Hid (W0 = wo.alloc (.cells #[.int .i64 0, .string ⟨#[119]⟩, .slice none 0 0] 27)) := hW0
        have HN := Lib.hid hN
        clear hW0 hN
        go_wp2_with fail
        rw [← HW0.out]
        go_loopw [10] (fun vi wr => ∃ (j : Nat) (kv : Value) (xs : List Value), j ≤ m ∧ vi = .int .i64 j ∧ KidsRel W0 wo.heap.size wB (codesTo j) kv xs wr) (fun vi _ => m - (intOf vi).toNat)
        case atStart => exact ⟨0, _, _, by omega, rfl, kids_start hx0⟩
        case round =>
          obtain ⟨j, kv, xs, hjm, rfl, hK⟩ := hrel
          have hK0 := Lib.hid hK
          obtain ⟨_, hbB, hown, _, hgr⟩ := hK
          rw [codesTo_len] at hown
          by_cases hlt : j < m
          · have z2 : wr.cell? ⟨wo.heap.size, 2, none⟩ = some kv := by rw [cell_of_row wr _ _ _ _ _ hbB]; rfl
            have zf : wr.frozen? ⟨wo.heap.size, 2, none⟩ = false := by simp [World.frozen?, hbB]
            have hne : some wo.heap.size ≠ kv.ownBlock := fun e => by have := (hown.lt _ e.symm).1; omega
            have hszr : W0.heap.size ≤ wr.heap.size := hgr.size
            clear hbB hgr hx0 hwW0
            go_wp2_with (at_builtin; refine wpList_append_lies (w := _) (hgd := rfl) (s := _) (x := _) (t := _) (ho := rfl) (base := W0.heap.size) (e := 27) (i := i0) (z := _) (size := 3) (bytes := 48) (ht := Tryd.underlying25) (hi := hi0) (hz := hz0) (hsize := hz1) (hby := hz2) (hzs := rfl) (hsz := by omega) (v := kv) (n := j) (xs := xs) (hs := ?a1) (hown := ?a2) (ad := ⟨wr.heap.size, 0, none⟩) (m := 1) (c := 1) (news := [.int .i64 ((j : Int) + 1), .string ⟨#[]⟩, .slice none 0 0]) (hx := ?a3) (hl := ?a4) (hnews := ?a5) (h1 := ?a6) (hm := by omega) (h63 := ?a8) (hbytes := ?a9) (hbase := ?a10) (H := _) (hH := rfl) (h := ?_); (rotate_left 9); intro gg cap2 u2 hown2 hgrow hat hlt2; have z4 := keep_grown hgrow hne (keep_alloc z2); have zg2 : u2.frozen? ⟨wo.heap.size, 2, none⟩ = false := by { rw [hgrow.frozen_far _ (by simp; omega) hne, World.frozen?_alloc_old _ _ _ (by simp; omega)]; exact zf })
            case roundEnd =>
              have hstep := kids_step (w1 := wr.alloc (.cells #[.int .i64 ((j : Int) + 1), .string ⟨#[]⟩, .slice none 0 0] 27)) (w2 := u2) (gg := gg) (cap2 := cap2) hK0.out (bnew (Below.refl _ wr) _) (lit_code _ _ _) (by rw [codesTo_len]; exact hown2) hgrow (by simpa using hat)
              rw [codesTo_len, ← codesTo_succ] at hstep
              exact ⟨⟨j + 1, _, _, by omega, by go_num, hstep⟩, by simp [intOf]; omega⟩
            case a1 => rfl
            case a2 => exact hown.alloc _
            case a3 => rfl
            case a4 => rfl
            case a5 => exact World.news_of_block (heap_alloc_new _ _)
            case a6 => simp [Value.oneCell']
            case a8 => unfold maxLen; omega
            case a9 => omega
            case a10 => simp; omega
          · obtain rfl : j = m := by omega
            obtain ⟨a', cap', rfl, hF⟩ := kids_end hK0.out (by decide) (by rw [codesTo_len]; omega)
            rw [codesTo_len] at hF hbB
            have hwr : Below wo.heap.size wo wr := hwW0.trans ⟨hgr.os, hgr.tape, hgr.output, hgr.size, fun i hi => hgr.block i (by omega) (fun e => by injection e with e; omega)⟩
            have hnb := blk_below HN.out.1 hwr
            have FA := (HN.out.2.1).ext (Ext.of_below hwr)
            have hbr := bcall HN.out.2.2 hwr
            have q0 : wr.cell? ⟨w.heap.size, 0, none⟩ = some (.int .i64 c) := by rw [cell_of_row wr _ _ _ _ _ hnb]; rfl
            have q1 : wr.cell? ⟨w.heap.size, 1, none⟩ = some (.string op) := by rw [cell_of_row wr _ _ _ _ _ hnb]; rfl
            have q2 : wr.cell? ⟨w.heap.size, 2, none⟩ = some (.slice a n cap) := by rw [cell_of_row wr _ _ _ _ _ hnb]; rfl
            have q3 : wr.cell? ⟨wo.heap.size, 0, none⟩ = some (.int .i64 0) := by rw [cell_of_row wr _ _ _ _ _ hbB]; rfl
            have q4 : wr.cell? ⟨wo.heap.size, 1, none⟩ = some (.string wB) := by rw [cell_of_row wr _ _ _ _ _ hbB]; rfl
            have q5 : wr.cell? ⟨wo.heap.size, 2, none⟩ = some (.slice a' j cap') := by rw [cell_of_row wr _ _ _ _ _ hbB]; rfl
            have CA := make_any _ _ _ _ _ wr.drew (FA.ext (Ext.drew (Ext.refl _ wr)))
            rw [make_nest code (by omega) k hk1 (by omega)] at CA
            have CAh := Lib.hid CA
            have hFh := Lib.hid hF
            clear CA hF FA hnb hgr hown hx0 hwr hwW0 hbB hsw
            go_wp2_with fail
            go_region_held3 (fun w' => w'.cell? ⟨w.heap.size, 0, none⟩ = some (.int .i64 c) ∧ w'.cell? ⟨w.heap.size, 1, none⟩ = some (.string op) ∧ w'.cell? ⟨w.heap.size, 2, none⟩ = some (.slice a n cap) ∧
                w'.cell? ⟨wo.heap.size, 0, none⟩ = some (.int .i64 0) ∧ w'.cell? ⟨wo.heap.size, 1, none⟩ = some (.string wB) ∧ w'.cell? ⟨wo.heap.size, 2, none⟩ = some (.slice a' j cap'))
              (first | go_keep | (go_split_ands; refine ⟨?_, ?_, ?_, ?_, ?_, ?_⟩ <;> (first | exact keep_below hB2 (by assumption) | exact keep_below hB1 (by assumption))))
              (first
                | (go_at_call 12; (with_reducible refine CAh.out.mono ?_); rintro e w1 ⟨va, rfl, hva, hB1⟩)
                | (go_at_call 12; refine (make_any _ (wideS j) _ _ _ w1 (hFh.out.ext (Ext.trans (Ext.drew (Ext.refl _ wr)) (Ext.of_below hB1)))).mono ?_; rintro e w2 ⟨vb, rfl, hvb, hB2⟩))
            have hB12 := bcall hB1 hB2
            have hbo := bcall hbr.drew hB12
            have N1 := O_neq hva
            have N2 := O_neq hvb
            have G1 := O_guard hva
            have G2 := O_guard hvb
            have I1 := fun W hW => has_O (w := W) (hva.ext hW) code
            have I2 := fun W hW => has_O (w := W) (hvb.ext hW) (j : Int)
            rw [deep_isSome] at N1
            rw [make_wide j (by omega), deep_isSome] at N2
            rw [deep_has _ _ _ (has_nest code _)] at I1
            rw [make_wide j (by omega), deep_has _ _ _ (has_wide j (by omega))] at I2
            clear hva hvb
            cases hP : decide ((k : Int) ≤ 20) <;> cases hQ : decide ((j : Int) ≤ 49) <;> rw [hP] at N1 I1 <;> rw [hQ] at N2 I2 <;> clear CAh hFh q0 q1 q2 q3 q4 q5
            all_goals
              go_wp2_with fail
              refine (I1 _ (Ext.of_below hB2)).mono ?_
              rintro e w3 ⟨rfl, hB3⟩
              have hb3 := bcall hbo hB3
              go_wp2_with fail
              refine (I2 _ (Ext.of_below hB3)).mono ?_
              rintro e w4 ⟨rfl, hB4⟩
              have hb4 := bcall hb3 hB4
              go_wp2_with fail
              refine (awake_any _ (errT_keep HT.out hb4)).mono ?_
              rintro e w5 ⟨rfl, hB5⟩
              go_wp2_with fail
              go_ret
              exact ⟨rfl, bcall hb4 hB5⟩
  · have hcase : (deep < 1) ∨ (1 ≤ deep ∧ 30 < deep) ∨ (1 ≤ deep ∧ deep ≤ 30 ∧ wide < 1) ∨ (1 ≤ deep ∧ deep ≤ 30 ∧ 1 ≤ wide ∧ 60 < wide) ∨ (1 ≤ deep ∧ deep ≤ 30 ∧ 1 ≤ wide ∧ wide ≤ 60 ∧ code < 1) := by omega
    rcases hcase with h | ⟨g1, h⟩ | ⟨g1, g2, h⟩ | ⟨g1, g2, g3, h⟩ | ⟨g1, g2, g3, g4, h⟩
    · have d1 : decide (deep < 1) = true := by simpa using h
      go_enter Tryd.func4, Tryd.ntmps4
      go_wp2_with fail
      refine (awake_any w HT.out).mono ?_
      rintro e w1 ⟨rfl, hB⟩
      go_wp2_with fail
      go_ret
      exact ⟨rfl, hB⟩
    · have d1 : decide (deep < 1) = false := by simp; omega
      have d2 : decide (30 < deep) = true := by simpa using h
      go_enter Tryd.func4, Tryd.ntmps4
      go_wp2_with fail
      refine (awake_any w HT.out).mono ?_
      rintro e w1 ⟨rfl, hB⟩
      go_wp2_with fail
      go_ret
      exact ⟨rfl, hB⟩
    · have d1 : decide (deep < 1) = false := by simp; omega
      have d2 : decide (30 < deep) = false := by simp; omega
      have d3 : decide (wide < 1) = true := by simpa using h
      go_enter Tryd.func4, Tryd.ntmps4
      go_wp2_with fail
      refine (awake_any w HT.out).mono ?_
      rintro e w1 ⟨rfl, hB⟩
      go_wp2_with fail
      go_ret
      exact ⟨rfl, hB⟩
    · have d1 : decide (deep < 1) = false := by simp; omega
      have d2 : decide (30 < deep) = false := by simp; omega
      have d3 : decide (wide < 1) = false := by simp; omega
      have d4 : decide (60 < wide) = true := by simpa using h
      go_enter Tryd.func4, Tryd.ntmps4
      go_wp2_with fail
      refine (awake_any w HT.out).mono ?_
      rintro e w1 ⟨rfl, hB⟩
      go_wp2_with fail
      go_ret
      exact ⟨rfl, hB⟩
    · have d1 : decide (deep < 1) = false := by simp; omega
      have d2 : decide (30 < deep) = false := by simp; omega
      have d3 : decide (wide < 1) = false := by simp; omega
      have d4 : decide (60 < wide) = false := by simp; omega
      have d5 : decide (code < 1) = true := by simpa using h
      go_enter Tryd.func4, Tryd.ntmps4
      go_wp2_with fail
      refine (awake_any w HT.out).mono ?_
      rintro e w1 ⟨rfl, hB⟩
      go_wp2_with fail
      go_ret
      exact ⟨rfl, hB⟩
end Go.Proofs.YtpdljglamjanmaaDoor
