/-
  tarpaulinlaw4.ProgTells: THE WALK.
-/
import Derived.Test.YtajblpopbipegaaDoorAwake
import Derived.Deep.RegionHeld3
import Derived.Deep.DeepCutAuto
import Derived.Outline
namespace Go.Proofs.YtajblpopbipegaaDoor
open Go.RowKit Go.Lib

theorem ints_tt {xs ys : List Int} (h : xs = ys) (u v : Value) (w : World) (hx : IRep w xs u) (hy : IRep w ys v) : Calls Tryd.prog 15 #[u, v] w fun e w' => e = .returned (.bool true) ∧ Below w.heap.size w w' := ints_t hx hy h
theorem k7 {w w' : World} {p0 p1 p2 p3 p4 p5 p6 : Addr} {x0 x1 x2 x3 x4 x5 x6 : Value} (hb : Below w.heap.size w w') (h : w.cell? p0 = some x0 ∧ w.cell? p1 = some x1 ∧ w.cell? p2 = some x2 ∧ w.cell? p3 = some x3 ∧ w.cell? p4 = some x4 ∧ w.cell? p5 = some x5 ∧ w.cell? p6 = some x6) :
    w'.cell? p0 = some x0 ∧ w'.cell? p1 = some x1 ∧ w'.cell? p2 = some x2 ∧ w'.cell? p3 = some x3 ∧ w'.cell? p4 = some x4 ∧ w'.cell? p5 = some x5 ∧ w'.cell? p6 = some x6 :=
  ⟨keep_below hb h.1, keep_below hb h.2.1, keep_below hb h.2.2.1, keep_below hb h.2.2.2.1, keep_below hb h.2.2.2.2.1, keep_below hb h.2.2.2.2.2.1, keep_below hb h.2.2.2.2.2.2⟩

set_option maxRecDepth 100000 in
set_option maxHeartbeats 8000000 in
theorem tells_any (ls : List (List Ins)) (op : Int) (v : Value) (w : World) (h : PRep w ls v) (hT : TabS w) : Calls Tryd.prog 3 #[v, .int .i64 op] w fun e w' => e = .returned (.bool true) ∧ Below w.heap.size w w' := by
  have HT := Lib.hid hT
  have CA := alike_any ls v w h
  have HP := Lib.hid h
  clear hT h
  cases hal : alikeB ls with
  | false =>
    rw [hal] at CA
    have CAh := Lib.hid CA
    clear CA hal
    go_enter Tryd.func3, Tryd.ntmps3
    go_wp2_with fail
    refine CAh.out.mono ?_
    rintro e w1 ⟨rfl, rfl⟩
    go_wp2_with fail
    refine (awake_any w HT.out).mono ?_
    rintro e w2 ⟨rfl, hB⟩
    go_wp2_with fail
    go_ret
    exact ⟨rfl, hB⟩
  | true =>
    rw [hal] at CA
    have CAh := Lib.hid CA
    clear CA hal
    have C9 := Lib.hid (all_any ls v w HP.out)
    have hpa := Lib.hid (progs_all ls)
    have hq : (errN (allB ls) == 0) = allB ls := by cases allB ls <;> rfl
    obtain ⟨a, cap, b, off, vs, rfl, hcap, hmx, ha, hc⟩ := HP.out
    have hml : ls.length ≤ 9223372036854775807 := by unfold maxLen at hmx; omega
    have HA := Lib.hid ha
    have HC := Lib.hid hc
    clear ha hc hcap hmx
    go_enter Tryd.func3, Tryd.ntmps3
    go_wp2_with fail
    refine CAh.out.mono ?_
    rintro e w1 ⟨rfl, rfl⟩
    go_wp2_with fail
    refine C9.out.mono ?_
    rintro e w1 ⟨rfl, hB1⟩
    have C10 := progs_any ls _ w1 (HP.out.ext (Ext.of_below hB1))
    rw [hpa.out] at C10
    have C10h := Lib.hid C10
    clear C10 hpa
    generalize allB ls = al at C10h hq
    go_wp2_with fail
    refine C10h.out.mono ?_
    rintro e w2 ⟨rfl, hB2⟩
    have hb2 := bcall hB1 hB2
    have C11 := Lib.hid (name_any op w2 (tab_keep HT.out hb2))
    clear C10h C9 CAh
    go_wp2_with fail
    refine C11.out.mono ?_
    rintro e w3 ⟨rfl, hB3⟩
    have hb3 := bcall hb2 hB3
    have C12 := Lib.hid (rname_any op w3)
    clear C11
    go_wp2_with fail
    refine C12.out.mono ?_
    rintro e w4 ⟨rfl, hB4⟩
    have hb4 := bcall hb3 hB4
    clear C12 hB1 hB2 hB3 hB4 hb2 hb3
    generalize nameOf op = nm
    go_wp2_with fail
    go_loopw [5, 6, 7] (fun vi _ _ wr => ∃ k : Nat, k ≤ ls.length ∧ vi = .int .i64 k ∧ Below w.heap.size w wr) (fun vi _ _ _ => ls.length - (intOf vi).toNat)
    case atStart => exact ⟨0, by omega, rfl, hb4⟩
    case round =>
      obtain ⟨k, hk, rfl, hB⟩ := hrel
      by_cases hlt : k < ls.length
      · obtain ⟨p, hp⟩ : ∃ p, ls[k]? = some p := ⟨_, List.getElem?_eq_getElem hlt⟩
        obtain rfl := HA.out (by omega)
        obtain ⟨hL, hcell⟩ := HC.out k p hp
        have y := keep_below hB hcell
        have HL := Lib.hid hL
        have C13 := check_any p (vs k) wr (hL.ext (Ext.of_below hB))
        obtain ⟨a', cap', b', off', vs', he, hcap', hmx', ha', hc'⟩ := hL
        have hm' : p.length ≤ 9223372036854775807 := by unfold maxLen at hmx'; omega
        have HV := Lib.hid he
        rw [he] at y C13
        have HY := Lib.hid y
        have HA' := Lib.hid ha'
        have HC' := Lib.hid hc'
        have kz : (0 : Int) ≤ (k : Int) := by omega
        have kl : (k : Int) < (ls.length : Int) := by omega
        have hck2 := prog_check p
        clear hcell hp ha' hc' hcap' hmx' he
        cases hck : checkB p with
        | true =>
          rw [hck, errN_true] at C13
          rw [hck] at hck2
          have C13h := Lib.hid C13
          have HCK := Lib.hid hck2
          clear hck C13 hck2
          go_wp2_with fail
          refine C13h.out.mono ?_
          rintro e w5 ⟨rfl, hB5⟩
          have hb5 := bcall hB hB5
          have y5 := keep_below hB5 HY.out
          have C14 := prog_any p _ w5 ((HV.out ▸ HL.out).ext (Ext.of_below hb5))
          rw [HCK.out] at C14
          have C14h := Lib.hid C14
          clear C14
          go_wp2_with fail
          refine C14h.out.mono ?_
          rintro e w6 ⟨rfl, hB6⟩
          have hb6 := bcall hb5 hB6
          have y6 := keep_below hB6 y5
          clear hq C13h C14h
          obtain ⟨wo, rfl⟩ : ∃ wo : World, wo = w6 := ⟨_, rfl⟩
          have HY6 := Lib.hid y6
          clear y y5 y6
          go_wp2_with fail
          go_loopw [7] (fun vj wr => ∃ j : Nat, j ≤ p.length ∧ vj = .int .i64 j ∧ Below wo.heap.size wo wr) (fun vj _ => p.length - (intOf vj).toNat)
          case atStart => exact ⟨0, by omega, rfl, Below.refl _ _⟩
          case round =>
            obtain ⟨j, hj, rfl, hBj⟩ := hrel
            have hbj := bcall hb6 hBj
            have z := keep_below hBj HY6.out
            by_cases hjl : j < p.length
            · obtain ⟨i, hi⟩ : ∃ i, p[j]? = some i := ⟨_, List.getElem?_eq_getElem hjl⟩
              obtain rfl := HA'.out (by omega)
              obtain ⟨hcs, x0, x1, x2, x3, x4, x5⟩ := HC'.out j i hi
              obtain ⟨ca, ccap, hcv⟩ := hcs.form
              rw [hcv] at hcs x4
              have hcs' := hcs.ext (Ext.of_below hbj)
              have jz : (0 : Int) ≤ (j : Int) := by omega
              have jl : (j : Int) < (p.length : Int) := by omega
              have Y := Lib.hid (And.intro z (And.intro (keep_below hbj x0) (And.intro (keep_below hbj x1) (And.intro (keep_below hbj x2) (And.intro (keep_below hbj x3) (And.intro (keep_below hbj x4) (keep_below hbj x5)))))))
              have y0 := Y.out.1
              have y1 := Y.out.2.1
              have y2 := Y.out.2.2.1
              have y3 := Y.out.2.2.2.1
              have y4 := Y.out.2.2.2.2.1
              have y5 := Y.out.2.2.2.2.2.1
              have y6 := Y.out.2.2.2.2.2.2
              have D16 := Lib.hid (fun W (h : Below wr.heap.size wr W) => reads_any i _ W (hcs'.ext (Ext.of_below h)))
              have D17 := Lib.hid (fun W (h : Below wr.heap.size wr W) => rreads_any i _ W (hcs'.ext (Ext.of_below h)))
              have D18 := Lib.hid (fun W (h : Below wr.heap.size wr W) => writes_any i _ W (hcs'.ext (Ext.of_below h)))
              have D19 := Lib.hid (fun W (h : Below wr.heap.size wr W) => rwrites_any i _ W (hcs'.ext (Ext.of_below h)))
              have R1 := Lib.hid (reads_ref i)
              have R2 := Lib.hid (writes_ref i)
              clear z hcs hcs' x0 x1 x2 x3 x4 x5 hi hcv
              go_wp2_with fail
              go_cut [98] (fun c wx => c = .bool false ∧ Below wr.heap.size wr wx)
              case first =>
                go_region_held3 (fun w' => w'.cell? ⟨b, off + k, none⟩ = some (.slice (some ⟨b', off', none⟩) p.length cap') ∧ w'.cell? ⟨b', off' + j * 6, none⟩ = some (.int .i64 i.op) ∧ w'.cell? ⟨b', off' + j * 6 + 1, none⟩ = some (.int .i64 i.a) ∧ w'.cell? ⟨b', off' + j * 6 + 2, none⟩ = some (.int .i64 i.b) ∧ w'.cell? ⟨b', off' + j * 6 + 3, none⟩ = some (.int .i64 i.c) ∧ w'.cell? ⟨b', off' + j * 6 + 4, none⟩ = some (.slice ca i.cases.length ccap) ∧ w'.cell? ⟨b', off' + j * 6 + 5, none⟩ = some (.bool i.dflt))
                  (first | exact Y.out | exact k7 f1 Y.out | exact k7 f2 Y.out | exact k7 f3 Y.out | exact k7 f4 Y.out | exact k7 f5 Y.out | exact k7 f6 Y.out | go_keep)
                  (first
                    | (go_at_call 16; refine (D16.out _ (by exact (Below.refl _ _).drew)).mono ?_; rintro e q1 ⟨v1, rfl, g1, f1'⟩; have f1 := bcall (Below.refl _ wr).drew f1'; have G1 := Lib.hid g1)
                    | (go_at_call 17; refine (D17.out _ (by exact f1)).mono ?_; rintro e q2 ⟨v2, rfl, g2, f2'⟩; have f2 := bcall f1 f2'; have G2 := Lib.hid g2)
                    | (go_at_call 15; (with_reducible refine (ints_tt R1.out v1 v2 q2 (G1.out.ext (Ext.of_below f2')) G2.out).mono ?_); rintro e q3 ⟨rfl, f3'⟩; have f3 := bcall f2 f3')
                    | (go_at_call 18; refine (D18.out _ (by exact f3)).mono ?_; rintro e q4 ⟨v4, rfl, g4, f4'⟩; have f4 := bcall f3 f4'; have G4 := Lib.hid g4)
                    | (go_at_call 19; refine (D19.out _ (by exact f4)).mono ?_; rintro e q5 ⟨v5, rfl, g5, f5'⟩; have f5 := bcall f4 f5'; have G5 := Lib.hid g5)
                    | (go_at_call 15; (with_reducible refine (ints_tt R2.out v4 v5 q5 (G4.out.ext (Ext.of_below f5')) G5.out).mono ?_); rintro e q6 ⟨rfl, f6'⟩; have f6 := bcall f5 f6'))
                all_goals (go_wp2_with fail; go_meet; exact ⟨rfl, by first | exact f6 | exact f6.drew⟩)
              case rest =>
                obtain ⟨rfl, hBx⟩ := hcut
                go_wp2_with fail
                go_roundw
                case rel => exact ⟨j + 1, by omega, by go_num, bcall hBj hBx⟩
                case measure => simp [intOf]; omega
            · obtain rfl : j = p.length := by omega
              go_wp2_with fail
              go_roundw
              case rel => exact ⟨k + 1, by omega, by go_num, hbj⟩
              case measure => simp [intOf]; omega
        | false =>
          rw [hck, errN_false] at C13
          rw [hck] at hck2
          have C13h := Lib.hid C13
          have HCK := Lib.hid hck2
          clear hck C13 hck2
          go_wp2_with fail
          refine C13h.out.mono ?_
          rintro e w5 ⟨rfl, hB5⟩
          have hb5 := bcall hB hB5
          have y5 := keep_below hB5 HY.out
          have C14 := prog_any p _ w5 ((HV.out ▸ HL.out).ext (Ext.of_below hb5))
          rw [HCK.out] at C14
          have C14h := Lib.hid C14
          clear C14
          go_wp2_with fail
          refine C14h.out.mono ?_
          rintro e w6 ⟨rfl, hB6⟩
          have hb6 := bcall hb5 hB6
          have y6 := keep_below hB6 y5
          clear hq C13h C14h
          obtain ⟨wo, rfl⟩ : ∃ wo : World, wo = w6 := ⟨_, rfl⟩
          have HY6 := Lib.hid y6
          clear y y5 y6
          go_wp2_with fail
          go_loopw [7] (fun vj wr => ∃ j : Nat, j ≤ p.length ∧ vj = .int .i64 j ∧ Below wo.heap.size wo wr) (fun vj _ => p.length - (intOf vj).toNat)
          case atStart => exact ⟨0, by omega, rfl, Below.refl _ _⟩
          case round =>
            obtain ⟨j, hj, rfl, hBj⟩ := hrel
            have hbj := bcall hb6 hBj
            have z := keep_below hBj HY6.out
            by_cases hjl : j < p.length
            · obtain ⟨i, hi⟩ : ∃ i, p[j]? = some i := ⟨_, List.getElem?_eq_getElem hjl⟩
              obtain rfl := HA'.out (by omega)
              obtain ⟨hcs, x0, x1, x2, x3, x4, x5⟩ := HC'.out j i hi
              obtain ⟨ca, ccap, hcv⟩ := hcs.form
              rw [hcv] at hcs x4
              have hcs' := hcs.ext (Ext.of_below hbj)
              have jz : (0 : Int) ≤ (j : Int) := by omega
              have jl : (j : Int) < (p.length : Int) := by omega
              have Y := Lib.hid (And.intro z (And.intro (keep_below hbj x0) (And.intro (keep_below hbj x1) (And.intro (keep_below hbj x2) (And.intro (keep_below hbj x3) (And.intro (keep_below hbj x4) (keep_below hbj x5)))))))
              have y0 := Y.out.1
              have y1 := Y.out.2.1
              have y2 := Y.out.2.2.1
              have y3 := Y.out.2.2.2.1
              have y4 := Y.out.2.2.2.2.1
              have y5 := Y.out.2.2.2.2.2.1
              have y6 := Y.out.2.2.2.2.2.2
              have D16 := Lib.hid (fun W (h : Below wr.heap.size wr W) => reads_any i _ W (hcs'.ext (Ext.of_below h)))
              have D17 := Lib.hid (fun W (h : Below wr.heap.size wr W) => rreads_any i _ W (hcs'.ext (Ext.of_below h)))
              have D18 := Lib.hid (fun W (h : Below wr.heap.size wr W) => writes_any i _ W (hcs'.ext (Ext.of_below h)))
              have D19 := Lib.hid (fun W (h : Below wr.heap.size wr W) => rwrites_any i _ W (hcs'.ext (Ext.of_below h)))
              have R1 := Lib.hid (reads_ref i)
              have R2 := Lib.hid (writes_ref i)
              clear z hcs hcs' x0 x1 x2 x3 x4 x5 hi hcv
              go_wp2_with fail
              go_cut [98] (fun c wx => c = .bool false ∧ Below wr.heap.size wr wx)
              case first =>
                go_region_held3 (fun w' => w'.cell? ⟨b, off + k, none⟩ = some (.slice (some ⟨b', off', none⟩) p.length cap') ∧ w'.cell? ⟨b', off' + j * 6, none⟩ = some (.int .i64 i.op) ∧ w'.cell? ⟨b', off' + j * 6 + 1, none⟩ = some (.int .i64 i.a) ∧ w'.cell? ⟨b', off' + j * 6 + 2, none⟩ = some (.int .i64 i.b) ∧ w'.cell? ⟨b', off' + j * 6 + 3, none⟩ = some (.int .i64 i.c) ∧ w'.cell? ⟨b', off' + j * 6 + 4, none⟩ = some (.slice ca i.cases.length ccap) ∧ w'.cell? ⟨b', off' + j * 6 + 5, none⟩ = some (.bool i.dflt))
                  (first | exact Y.out | exact k7 f1 Y.out | exact k7 f2 Y.out | exact k7 f3 Y.out | exact k7 f4 Y.out | exact k7 f5 Y.out | exact k7 f6 Y.out | go_keep)
                  (first
                    | (go_at_call 16; refine (D16.out _ (by exact (Below.refl _ _).drew)).mono ?_; rintro e q1 ⟨v1, rfl, g1, f1'⟩; have f1 := bcall (Below.refl _ wr).drew f1'; have G1 := Lib.hid g1)
                    | (go_at_call 17; refine (D17.out _ (by exact f1)).mono ?_; rintro e q2 ⟨v2, rfl, g2, f2'⟩; have f2 := bcall f1 f2'; have G2 := Lib.hid g2)
                    | (go_at_call 15; (with_reducible refine (ints_tt R1.out v1 v2 q2 (G1.out.ext (Ext.of_below f2')) G2.out).mono ?_); rintro e q3 ⟨rfl, f3'⟩; have f3 := bcall f2 f3')
                    | (go_at_call 18; refine (D18.out _ (by exact f3)).mono ?_; rintro e q4 ⟨v4, rfl, g4, f4'⟩; have f4 := bcall f3 f4'; have G4 := Lib.hid g4)
                    | (go_at_call 19; refine (D19.out _ (by exact f4)).mono ?_; rintro e q5 ⟨v5, rfl, g5, f5'⟩; have f5 := bcall f4 f5'; have G5 := Lib.hid g5)
                    | (go_at_call 15; (with_reducible refine (ints_tt R2.out v4 v5 q5 (G4.out.ext (Ext.of_below f5')) G5.out).mono ?_); rintro e q6 ⟨rfl, f6'⟩; have f6 := bcall f5 f6'))
                all_goals (go_wp2_with fail; go_meet; exact ⟨rfl, by first | exact f6 | exact f6.drew⟩)
              case rest =>
                obtain ⟨rfl, hBx⟩ := hcut
                go_wp2_with fail
                go_roundw
                case rel => exact ⟨j + 1, by omega, by go_num, bcall hBj hBx⟩
                case measure => simp [intOf]; omega
            · obtain rfl : j = p.length := by omega
              go_wp2_with fail
              go_roundw
              case rel => exact ⟨k + 1, by omega, by go_num, hbj⟩
              case measure => simp [intOf]; omega
      · obtain rfl : k = ls.length := by omega
        go_wp2_with fail
        refine (awake_any _ (tab_keep HT.out hB)).mono ?_
        rintro e w5 ⟨rfl, hB5⟩
        go_wp2_with fail
        go_ret
        exact ⟨rfl, bcall hB hB5⟩
end Go.Proofs.YtajblpopbipegaaDoor
