/-
  tarpaulinlaw4.ProgLimits: THE WALK (printed by genlim.py).
-/
import Derived.Test.YtajblpopbipegaaDoorLim
namespace Go.Proofs.YtajblpopbipegaaDoor
open Go.RowKit Go.Lib

theorem info29v : (Tryd.prog.info? 29).map (fun i => (i.zero, i.size, i.bytes)) = some (some (.slice none 0 0), 1, 24) := by kernel_rfl
theorem info41v : (Tryd.prog.info? 41).map (fun i => (i.zero, i.size, i.bytes)) = some (some (.agg #[.bool false, .int .i64 0, .int .i64 0]), 3, 24) := by kernel_rfl
theorem six_keep {w w' : World} {p0 p1 p2 p3 p4 p5 : Addr} {x0 x1 x2 x3 x4 x5 : Value} (hb : Below w.heap.size w w') (h : w.cell? p0 = some x0 ∧ w.cell? p1 = some x1 ∧ w.cell? p2 = some x2 ∧ w.cell? p3 = some x3 ∧ w.cell? p4 = some x4 ∧ w.cell? p5 = some x5) :
    w'.cell? p0 = some x0 ∧ w'.cell? p1 = some x1 ∧ w'.cell? p2 = some x2 ∧ w'.cell? p3 = some x3 ∧ w'.cell? p4 = some x4 ∧ w'.cell? p5 = some x5 :=
  ⟨keep_below hb h.1, keep_below hb h.2.1, keep_below hb h.2.2.1, keep_below hb h.2.2.2.1, keep_below hb h.2.2.2.2.1, keep_below hb h.2.2.2.2.2⟩
theorem lim_six {W1 wr : World} {j : Nat} {v7 cv : Value} (h : LimRel W1 j v7 cv wr) : wr.cell? ⟨W1.heap.size, 0, none⟩ = some (.int .i64 15) ∧ wr.cell? ⟨W1.heap.size, 1, none⟩ = some (.int .i64 0) ∧ wr.cell? ⟨W1.heap.size, 2, none⟩ = some (.int .i64 0) ∧ wr.cell? ⟨W1.heap.size, 3, none⟩ = some (.int .i64 0) ∧ wr.cell? ⟨W1.heap.size, 4, none⟩ = some cv ∧ wr.cell? ⟨W1.heap.size, 5, none⟩ = some (.bool false) := by
  have hb := h.box
  refine ⟨?_, ?_, ?_, ?_, ?_, ?_⟩ <;> (rw [cell_of_row _ _ _ _ _ _ hb]; rfl)

set_option maxRecDepth 100000 in
set_option maxHeartbeats 8000000 in
theorem limits_any (n0 k0 : Int) (w : World) (hT : TabS w) : Calls Tryd.prog 5 #[.int .i64 n0, .int .i64 k0] w fun e w' => e = .returned (.bool true) ∧ Below w.heap.size w w' := by
  have HT := Lib.hid hT
  clear hT
  by_cases h1 : n0 < 0
  · go_enter Tryd.func5, Tryd.ntmps5
    go_wp2_with fail
    refine (awake_any _ (tab_keep HT.out (Below.refl _ w))).mono ?_
    rintro e w9 ⟨rfl, hB9⟩
    go_wp2_with fail
    go_ret
    exact ⟨rfl, hB9⟩
  by_cases h2 : 120 < n0
  · go_enter Tryd.func5, Tryd.ntmps5
    go_wp2_with fail
    refine (awake_any _ (tab_keep HT.out (Below.refl _ w))).mono ?_
    rintro e w9 ⟨rfl, hB9⟩
    go_wp2_with fail
    go_ret
    exact ⟨rfl, hB9⟩
  by_cases h3 : k0 < 0
  · go_enter Tryd.func5, Tryd.ntmps5
    go_wp2_with fail
    refine (awake_any _ (tab_keep HT.out (Below.refl _ w))).mono ?_
    rintro e w9 ⟨rfl, hB9⟩
    go_wp2_with fail
    go_ret
    exact ⟨rfl, hB9⟩
  by_cases h4 : 30 < k0
  · go_enter Tryd.func5, Tryd.ntmps5
    go_wp2_with fail
    refine (awake_any _ (tab_keep HT.out (Below.refl _ w))).mono ?_
    rintro e w9 ⟨rfl, hB9⟩
    go_wp2_with fail
    go_ret
    exact ⟨rfl, hB9⟩
  obtain ⟨n, rfl⟩ := Int.eq_ofNat_of_zero_le (show 0 ≤ n0 by omega)
  obtain ⟨k, rfl⟩ := Int.eq_ofNat_of_zero_le (show 0 ≤ k0 by omega)
  obtain ⟨p0, ph, pz, p1, p2⟩ := info_parts info36v
  obtain ⟨q0, qh, qz, q1, q2⟩ := info_parts info29v
  obtain ⟨r0, rh, rz, r1, r2⟩ := info_parts info41v
  have hn120 : n ≤ 120 := by omega
  have hk30 : k ≤ 30 := by omega
  go_enter Tryd.func5, Tryd.ntmps5
  go_wp2_with fail
  clear h1 h2 h3 h4
  go_loopw [5, 6] (fun v5 v6 wr => ∃ j : Nat, j ≤ n ∧ v6 = .int .i64 j ∧ wr.ownsRow w.heap.size 36 6 v5 j (flat6 (List.replicate j (exI, .slice none 0 0))) ∧ Below w.heap.size w wr) (fun _ v6 _ => n - (intOf v6).toNat)
  case atStart => exact ⟨0, by omega, rfl, World.ownsRow_nil _ _ _ _, Below.refl _ _⟩
  case round =>
    obtain ⟨j, hj, rfl, hown, hB⟩ := hrel
    have hszB := hB.size
    by_cases hlt : j < n
    · go_wp2_with (at_builtin; refine wpList_append_lies (w := _) (hgd := rfl) (s := _) (x := _) (t := _) (ho := rfl) (base := w.heap.size) (e := 36) (i := p0) (z := _) (size := 6) (bytes := 64) (ht := Tryd.underlying29) (hi := ph) (hz := pz) (hsize := p1) (hby := p2) (hzs := rfl) (hsz := by omega) (v := u5) (n := j) (xs := flat6 (List.replicate j (exI, .slice none 0 0))) (hs := ?_) (hown := ?_) (ad := ⟨wr.heap.size, 0, none⟩) (m := 1) (c := 1) (news := [.int .i64 7, .int .i64 0, .int .i64 0, .int .i64 0, .slice none 0 0, .bool false]) (hx := ?_) (hl := ?_) (hnews := ?_) (h1 := ?_) (hm := by omega) (h63 := ?_) (hbytes := ?_) (hbase := ?_) (H := _) (hH := rfl) (h := ?_); (rfl); (exact (hown.alloc _)); (rfl); (rfl); (exact World.news_of_block (heap_alloc_new _ _)); (simp [Value.oneCell']); (unfold maxLen; omega); (omega); (have := hszB; simp; omega); intro g1 c1 u1 own1 grow1 hat1 hlt1)
      have hb1 : Below w.heap.size w u1 := (bnew hB _).grown grow1 (by simp; omega) (fun i hi => (hown.lt i hi).1)
      rw [ex_succ] at own1
      clear hown grow1 hat1 hlt1 hB
      go_roundw
      case rel => exact ⟨j + 1, by omega, by go_num, own1, hb1⟩
      case measure => simp [intOf]; omega
    · obtain rfl : j = n := by omega
      have HL1 := Lib.hid (lim_lrep hown)
      have hst := Lib.hid (lim_start wr)
      clear hown
      obtain ⟨W1, rfl⟩ : ∃ W1 : World, W1 = wr := ⟨_, rfl⟩
      go_wp2_with fail
      clear hszB
      go_loopw [7, 9] (fun v7 v9 wr => ∃ (i : Nat) (cv : Value), i ≤ k ∧ v9 = .int .i64 i ∧ LimRel W1 i v7 cv wr) (fun _ v9 _ => k - (intOf v9).toNat)
      case atStart => exact ⟨0, _, by omega, rfl, hst.out⟩
      case round =>
        clear hst
        obtain ⟨i, cv, hi, rfl, hr⟩ := hrel
        have HR := Lib.hid hr
        clear hr
        have hszB := HR.out.lt
        by_cases hlt : i < k
        · go_wp2_with (first | (at_builtin; refine wpList_append_lies (w := _) (hgd := rfl) (s := _) (x := _) (t := _) (ho := rfl) (base := W1.heap.size + 1) (e := 29) (i := q0) (z := _) (size := 1) (bytes := 24) (ht := Tryd.underlying22) (hi := qh) (hz := qz) (hsize := q1) (hby := q2) (hzs := rfl) (hsz := by omega) (v := u7) (n := i) (xs := List.replicate i (.slice none 0 0)) (hs := ?_) (hown := ?_) (ad := ⟨wr.heap.size, 0, none⟩) (m := 1) (c := 1) (news := [.slice none 0 0]) (hx := ?_) (hl := ?_) (hnews := ?_) (h1 := ?_) (hm := by omega) (h63 := ?_) (hbytes := ?_) (hbase := ?_) (H := _) (hH := rfl) (h := ?_); (rfl); (exact (HR.out.own7.alloc _)); (rfl); (rfl); (exact World.news_of_block (heap_alloc_new _ _)); (simp [Value.oneCell']); (unfold maxLen; omega); (omega); (have := hszB; simp; omega); intro g7 c7 u7' own7 grow7 hat7 hlt7; obtain ⟨hb7, hk8, hszB⟩ := lim_mid HR.out grow7; have zc : u7'.cell? ⟨W1.heap.size, 4, none⟩ = some cv := by { rw [cell_of_row _ _ _ _ _ _ hb7]; rfl }) | (at_builtin; refine wpList_append_lies (w := _) (hgd := rfl) (s := _) (x := _) (t := _) (ho := rfl) (base := W1.heap.size + 1) (e := 41) (i := r0) (z := _) (size := 3) (bytes := 24) (ht := Tryd.underlying34) (hi := rh) (hz := rz) (hsize := r1) (hby := r2) (hzs := rfl) (hsz := by omega) (v := cv) (n := i) (xs := flat3 i) (hs := ?_) (hown := ?_) (ad := ⟨u7'.heap.size, 0, none⟩) (m := 1) (c := 1) (news := [.bool false, .int .i64 0, .int .i64 0]) (hx := ?_) (hl := ?_) (hnews := ?_) (h1 := ?_) (hm := by omega) (h63 := ?_) (hbytes := ?_) (hbase := ?_) (H := _) (hH := rfl) (h := ?_); (rfl); (exact (hk8.alloc _)); (rfl); (rfl); (exact World.news_of_block (heap_alloc_new _ _)); (simp [Value.oneCell']); (unfold maxLen; omega); (omega); (have := hszB; simp; omega); intro g8 c8 u8 own8 grow8 hat8 hlt8; have zd := keep_grown grow8 HR.out.n8 (keep_alloc zc); have zf : u8.frozen? ⟨W1.heap.size, 4, none⟩ = false := by { rw [grow8.frozen_far _ (by have := hszB; simp; omega) HR.out.n8, World.frozen?_alloc_old _ _ _ (by have := hszB; simp; omega)]; simp [World.frozen?, hb7] }))
          go_roundw
          case rel => exact ⟨i + 1, _, by omega, by go_num, lim_step HR.out own7 grow7 hat7 hlt7 own8 grow8 hat8⟩
          case measure => simp [intOf]; omega
        · obtain rfl : i = k := by omega
          have HX := Lib.hid (lim_six HR.out)
          have HL := Lib.hid (HL1.out.ext (Ext.of_below HR.out.bel))
          have HP := Lib.hid (lim_prep HR.out.own7)
          have hcr := lim_crep HR.out.own8
          have hbW := bcall hB HR.out.bel
          obtain ⟨ca, ccap, hcv⟩ := hcr.form
          rw [List.length_replicate] at hcv
          subst hcv
          have HC := Lib.hid hcr
          clear HR hcr hszB HL1 hB
          obtain ⟨n, rfl⟩ : ∃ n : Nat, n = j := ⟨_, rfl⟩
          obtain ⟨k, rfl⟩ : ∃ k : Nat, k = i := ⟨_, rfl⟩
          by_cases hn : n ≤ 100
          · by_cases hk : k = 0
            · have CL := Lib.hid (check_t HL.out (by rw [lim_one]; exact decide_eq_true (by omega)))
              have hn1 : (n : Int) ≤ 100 := by omega
              have hk1 : decide (1 ≤ (k : Int)) = false := decide_eq_false (by omega)
              have hk2 : (k : Int) ≤ 16 := by omega
              have hAl : allB (List.replicate k []) = false := by rw [lim_all, decide_eq_false (by omega)]; rfl
              have hSe : checkB [selI k] = true := by rw [lim_sel]; exact decide_eq_true (by omega)
              have HAl := Lib.hid hAl
              have HSe := Lib.hid hSe
              clear hn hk hAl hSe
              go_wp2_with fail
              refine CL.out.mono ?_
              rintro e w3 ⟨rfl, hB3⟩
              have hb3 := bcall hbW hB3
              have CP := Lib.hid (all_f (HP.out.ext (Ext.of_below hB3)) HAl.out)
              clear CL
              go_wp2_with fail
              refine CP.out.mono ?_
              rintro e w4 ⟨rfl, hB4⟩
              have hb4 := bcall hb3 hB4
              obtain ⟨y0, y1, y2, y3, y4, y5⟩ := six_keep hB4 (six_keep hB3 HX.out)
              have hsel := lit1 (w := w4.alloc (.cells #[.int .i64 15, .int .i64 0, .int .i64 0, .int .i64 0, .slice ca k ccap, .bool false] 36)) (selI k) _ (((HC.out.ext (Ext.of_below hB3)).ext (Ext.of_below hB4)).ext (Ext.alloc _ _)) (heap_alloc_new _ _)
              have CS := Lib.hid (check_t hsel HSe.out)
              clear CP hsel hb3 hB3 hB4
              go_wp2_with fail
              refine CS.out.mono ?_
              rintro e w5 ⟨rfl, hB5⟩
              have hb5 := bcall (bnew hb4 _) hB5
              clear CS hB5
              go_wp2_with fail
              refine (awake_any _ (tab_keep HT.out hb5)).mono ?_
              rintro e w9 ⟨rfl, hB9⟩
              go_wp2_with fail
              go_ret
              exact ⟨rfl, bcall hb5 hB9⟩
            by_cases hk' : k ≤ 16
            · have CL := Lib.hid (check_t HL.out (by rw [lim_one]; exact decide_eq_true (by omega)))
              have hn1 : (n : Int) ≤ 100 := by omega
              have hk1 : 1 ≤ (k : Int) := by omega
              have hk2 : (k : Int) ≤ 16 := by omega
              have hAl : allB (List.replicate k []) = true := by rw [lim_all, decide_eq_true (by omega), decide_eq_true (by omega)]; rfl
              have hSe : checkB [selI k] = true := by rw [lim_sel]; exact decide_eq_true (by omega)
              have HAl := Lib.hid hAl
              have HSe := Lib.hid hSe
              clear hn hk hAl hSe
              clear hk'
              go_wp2_with fail
              refine CL.out.mono ?_
              rintro e w3 ⟨rfl, hB3⟩
              have hb3 := bcall hbW hB3
              have CP := Lib.hid (all_t (HP.out.ext (Ext.of_below hB3)) HAl.out)
              clear CL
              go_wp2_with fail
              refine CP.out.mono ?_
              rintro e w4 ⟨rfl, hB4⟩
              have hb4 := bcall hb3 hB4
              obtain ⟨y0, y1, y2, y3, y4, y5⟩ := six_keep hB4 (six_keep hB3 HX.out)
              have hsel := lit1 (w := w4.alloc (.cells #[.int .i64 15, .int .i64 0, .int .i64 0, .int .i64 0, .slice ca k ccap, .bool false] 36)) (selI k) _ (((HC.out.ext (Ext.of_below hB3)).ext (Ext.of_below hB4)).ext (Ext.alloc _ _)) (heap_alloc_new _ _)
              have CS := Lib.hid (check_t hsel HSe.out)
              clear CP hsel hb3 hB3 hB4
              go_wp2_with fail
              refine CS.out.mono ?_
              rintro e w5 ⟨rfl, hB5⟩
              have hb5 := bcall (bnew hb4 _) hB5
              clear CS hB5
              go_wp2_with fail
              refine (awake_any _ (tab_keep HT.out hb5)).mono ?_
              rintro e w9 ⟨rfl, hB9⟩
              go_wp2_with fail
              go_ret
              exact ⟨rfl, bcall hb5 hB9⟩
            · have CL := Lib.hid (check_t HL.out (by rw [lim_one]; exact decide_eq_true (by omega)))
              have hn1 : (n : Int) ≤ 100 := by omega
              have hk1 : 1 ≤ (k : Int) := by omega
              have hk2 : decide ((k : Int) ≤ 16) = false := decide_eq_false (by omega)
              have hAl : allB (List.replicate k []) = false := by rw [lim_all, decide_eq_false (show ¬ k ≤ 16 by omega), Bool.and_false]
              have hSe : checkB [selI k] = false := by rw [lim_sel]; exact decide_eq_false (by omega)
              have HAl := Lib.hid hAl
              have HSe := Lib.hid hSe
              clear hn hk hAl hSe
              clear hk'
              go_wp2_with fail
              refine CL.out.mono ?_
              rintro e w3 ⟨rfl, hB3⟩
              have hb3 := bcall hbW hB3
              have CP := Lib.hid (all_f (HP.out.ext (Ext.of_below hB3)) HAl.out)
              clear CL
              go_wp2_with fail
              refine CP.out.mono ?_
              rintro e w4 ⟨rfl, hB4⟩
              have hb4 := bcall hb3 hB4
              obtain ⟨y0, y1, y2, y3, y4, y5⟩ := six_keep hB4 (six_keep hB3 HX.out)
              have hsel := lit1 (w := w4.alloc (.cells #[.int .i64 15, .int .i64 0, .int .i64 0, .int .i64 0, .slice ca k ccap, .bool false] 36)) (selI k) _ (((HC.out.ext (Ext.of_below hB3)).ext (Ext.of_below hB4)).ext (Ext.alloc _ _)) (heap_alloc_new _ _)
              have CS := Lib.hid (check_f hsel HSe.out)
              clear CP hsel hb3 hB3 hB4
              go_wp2_with fail
              refine CS.out.mono ?_
              rintro e w5 ⟨rfl, hB5⟩
              have hb5 := bcall (bnew hb4 _) hB5
              clear CS hB5
              go_wp2_with fail
              refine (awake_any _ (tab_keep HT.out hb5)).mono ?_
              rintro e w9 ⟨rfl, hB9⟩
              go_wp2_with fail
              go_ret
              exact ⟨rfl, bcall hb5 hB9⟩
          · by_cases hk : k = 0
            · have CL := Lib.hid (check_f HL.out (by rw [lim_one]; exact decide_eq_false (by omega)))
              have hn1 : decide ((n : Int) ≤ 100) = false := decide_eq_false (by omega)
              have hk1 : decide (1 ≤ (k : Int)) = false := decide_eq_false (by omega)
              have hk2 : (k : Int) ≤ 16 := by omega
              have hAl : allB (List.replicate k []) = false := by rw [lim_all, decide_eq_false (by omega)]; rfl
              have hSe : checkB [selI k] = true := by rw [lim_sel]; exact decide_eq_true (by omega)
              have HAl := Lib.hid hAl
              have HSe := Lib.hid hSe
              clear hn hk hAl hSe
              go_wp2_with fail
              refine CL.out.mono ?_
              rintro e w3 ⟨rfl, hB3⟩
              have hb3 := bcall hbW hB3
              have CP := Lib.hid (all_f (HP.out.ext (Ext.of_below hB3)) HAl.out)
              clear CL
              go_wp2_with fail
              refine CP.out.mono ?_
              rintro e w4 ⟨rfl, hB4⟩
              have hb4 := bcall hb3 hB4
              obtain ⟨y0, y1, y2, y3, y4, y5⟩ := six_keep hB4 (six_keep hB3 HX.out)
              have hsel := lit1 (w := w4.alloc (.cells #[.int .i64 15, .int .i64 0, .int .i64 0, .int .i64 0, .slice ca k ccap, .bool false] 36)) (selI k) _ (((HC.out.ext (Ext.of_below hB3)).ext (Ext.of_below hB4)).ext (Ext.alloc _ _)) (heap_alloc_new _ _)
              have CS := Lib.hid (check_t hsel HSe.out)
              clear CP hsel hb3 hB3 hB4
              go_wp2_with fail
              refine CS.out.mono ?_
              rintro e w5 ⟨rfl, hB5⟩
              have hb5 := bcall (bnew hb4 _) hB5
              clear CS hB5
              go_wp2_with fail
              refine (awake_any _ (tab_keep HT.out hb5)).mono ?_
              rintro e w9 ⟨rfl, hB9⟩
              go_wp2_with fail
              go_ret
              exact ⟨rfl, bcall hb5 hB9⟩
            by_cases hk' : k ≤ 16
            · have CL := Lib.hid (check_f HL.out (by rw [lim_one]; exact decide_eq_false (by omega)))
              have hn1 : decide ((n : Int) ≤ 100) = false := decide_eq_false (by omega)
              have hk1 : 1 ≤ (k : Int) := by omega
              have hk2 : (k : Int) ≤ 16 := by omega
              have hAl : allB (List.replicate k []) = true := by rw [lim_all, decide_eq_true (by omega), decide_eq_true (by omega)]; rfl
              have hSe : checkB [selI k] = true := by rw [lim_sel]; exact decide_eq_true (by omega)
              have HAl := Lib.hid hAl
              have HSe := Lib.hid hSe
              clear hn hk hAl hSe
              clear hk'
              go_wp2_with fail
              refine CL.out.mono ?_
              rintro e w3 ⟨rfl, hB3⟩
              have hb3 := bcall hbW hB3
              have CP := Lib.hid (all_t (HP.out.ext (Ext.of_below hB3)) HAl.out)
              clear CL
              go_wp2_with fail
              refine CP.out.mono ?_
              rintro e w4 ⟨rfl, hB4⟩
              have hb4 := bcall hb3 hB4
              obtain ⟨y0, y1, y2, y3, y4, y5⟩ := six_keep hB4 (six_keep hB3 HX.out)
              have hsel := lit1 (w := w4.alloc (.cells #[.int .i64 15, .int .i64 0, .int .i64 0, .int .i64 0, .slice ca k ccap, .bool false] 36)) (selI k) _ (((HC.out.ext (Ext.of_below hB3)).ext (Ext.of_below hB4)).ext (Ext.alloc _ _)) (heap_alloc_new _ _)
              have CS := Lib.hid (check_t hsel HSe.out)
              clear CP hsel hb3 hB3 hB4
              go_wp2_with fail
              refine CS.out.mono ?_
              rintro e w5 ⟨rfl, hB5⟩
              have hb5 := bcall (bnew hb4 _) hB5
              clear CS hB5
              go_wp2_with fail
              refine (awake_any _ (tab_keep HT.out hb5)).mono ?_
              rintro e w9 ⟨rfl, hB9⟩
              go_wp2_with fail
              go_ret
              exact ⟨rfl, bcall hb5 hB9⟩
            · have CL := Lib.hid (check_f HL.out (by rw [lim_one]; exact decide_eq_false (by omega)))
              have hn1 : decide ((n : Int) ≤ 100) = false := decide_eq_false (by omega)
              have hk1 : 1 ≤ (k : Int) := by omega
              have hk2 : decide ((k : Int) ≤ 16) = false := decide_eq_false (by omega)
              have hAl : allB (List.replicate k []) = false := by rw [lim_all, decide_eq_false (show ¬ k ≤ 16 by omega), Bool.and_false]
              have hSe : checkB [selI k] = false := by rw [lim_sel]; exact decide_eq_false (by omega)
              have HAl := Lib.hid hAl
              have HSe := Lib.hid hSe
              clear hn hk hAl hSe
              clear hk'
              go_wp2_with fail
              refine CL.out.mono ?_
              rintro e w3 ⟨rfl, hB3⟩
              have hb3 := bcall hbW hB3
              have CP := Lib.hid (all_f (HP.out.ext (Ext.of_below hB3)) HAl.out)
              clear CL
              go_wp2_with fail
              refine CP.out.mono ?_
              rintro e w4 ⟨rfl, hB4⟩
              have hb4 := bcall hb3 hB4
              obtain ⟨y0, y1, y2, y3, y4, y5⟩ := six_keep hB4 (six_keep hB3 HX.out)
              have hsel := lit1 (w := w4.alloc (.cells #[.int .i64 15, .int .i64 0, .int .i64 0, .int .i64 0, .slice ca k ccap, .bool false] 36)) (selI k) _ (((HC.out.ext (Ext.of_below hB3)).ext (Ext.of_below hB4)).ext (Ext.alloc _ _)) (heap_alloc_new _ _)
              have CS := Lib.hid (check_f hsel HSe.out)
              clear CP hsel hb3 hB3 hB4
              go_wp2_with fail
              refine CS.out.mono ?_
              rintro e w5 ⟨rfl, hB5⟩
              have hb5 := bcall (bnew hb4 _) hB5
              clear CS hB5
              go_wp2_with fail
              refine (awake_any _ (tab_keep HT.out hb5)).mono ?_
              rintro e w9 ⟨rfl, hB9⟩
              go_wp2_with fail
              go_ret
              exact ⟨rfl, bcall hb5 hB9⟩

end Go.Proofs.YtajblpopbipegaaDoor
