/-
  tarpaulinref1.one, Prog, Progs: THE WALKS.
-/
import Derived.Test.YtajblpopbipegaaDoorOne
import Derived.Test.YtajblpopbipegaaDoorAll
namespace Go.Proofs.YtajblpopbipegaaDoor
open Go.RowKit

/-- The document's one. -/
theorem one_any (i : Ins) (p : Int) (cv : Value) (w : World) (hcs : CRep w i.cases cv) :
    Calls Tryd.prog 27 #[.agg #[.int .i64 i.op, .int .i64 i.a, .int .i64 i.b, .int .i64 i.c, cv, .bool i.dflt], .int .i64 p] w fun e w' => e = .returned (.bool (oneB i p)) ∧ Below w.heap.size w w' := by
  obtain ⟨op, a, b, c, cs, d⟩ := i
  by_cases h : 1 ≤ op ∧ op ≤ 32
  · exact one_plain op a b c cs d p cv w hcs h.1 h.2
  · have e : oneB ⟨op, a, b, c, cs, d⟩ p = false := by
      unfold oneB
      have : (decide (1 ≤ op) && decide (op ≤ 32)) = false := by
        rw [Bool.and_eq_false_iff]
        by_cases h1 : 1 ≤ op
        · right; simp; omega
        · left; simp; omega
      simp [this]
    rw [e]
    obtain ⟨ca, ccap, rfl⟩ := hcs.form
    clear e hcs
    by_cases h1 : op < 1
    · clear h
      go_enter Tryd.func27, Tryd.ntmps27
      go_wp2_with fail
      go_ret
      exact ⟨rfl, bnew (Below.refl _ w) _⟩
    · have h2 : 32 < op := by omega
      clear h
      go_enter Tryd.func27, Tryd.ntmps27
      go_wp2_with fail
      go_ret
      exact ⟨rfl, bnew (Below.refl _ w) _⟩

/-- The document's Check. -/
def progB (l : List Ins) : Bool := decide (l.length ≤ 100) && l.all fun i => oneB i l.length
theorem prog_check (l : List Ins) : progB l = checkB l := by
  unfold progB checkB
  congr 1
  exact congrArg (fun f => l.all f) (funext fun i => (good_one i _).symm)
theorem prog_no {l : List Ins} {k : Nat} {i : Ins} (hi : l[k]? = some i) (h : oneB i l.length = false) : progB l = false := by
  unfold progB
  have : (l.all fun i => oneB i l.length) = false := by
    rw [List.all_eq_false]
    exact ⟨i, List.mem_of_getElem? hi, by rw [h]; simp⟩
  rw [this, Bool.and_false]
theorem prog_yes {l : List Ins} (h1 : l.length ≤ 100) (h : ∀ i ∈ l, oneB i l.length = true) : progB l = true := by
  unfold progB
  rw [decide_eq_true h1, List.all_eq_true.2 h]
  rfl

set_option maxHeartbeats 1000000 in
theorem prog_any (l : List Ins) (v : Value) (w : World) (h : LRep w l v) : Calls Tryd.prog 14 #[v] w fun e w' => e = .returned (.bool (progB l)) ∧ Below w.heap.size w w' := by
  obtain ⟨a, cap, b, off, vs, rfl, hcap, hmx, ha, hc⟩ := h
  unfold maxLen at hmx
  have HC := Lib.hid hc
  have HA := Lib.hid ha
  clear hc ha
  by_cases hl : 100 < l.length
  · have e : progB l = false := by unfold progB; rw [decide_eq_false (by omega)]; rfl
    rw [e]
    clear e
    go_enter Tryd.func14, Tryd.ntmps14
    go_wp2_with fail
    go_ret
    exact ⟨rfl, Below.refl _ _⟩
  · go_enter Tryd.func14, Tryd.ntmps14
    go_wp2_with fail
    go_loopw [3] (fun vi wr => ∃ k : Nat, k ≤ l.length ∧ vi = .int .i64 k ∧ (∀ i ∈ l.take k, oneB i l.length = true) ∧ Below w.heap.size w wr) (fun vi _ => l.length - (intOf vi).toNat)
    case atStart => exact ⟨0, by omega, rfl, by simp, Below.refl _ _⟩
    case round =>
      obtain ⟨k, hk, rfl, hn, hB⟩ := hrel
      have HN := Lib.hid hn
      clear hn
      by_cases hlt : k < l.length
      · obtain ⟨i, hi⟩ : ∃ i, l[k]? = some i := ⟨_, List.getElem?_eq_getElem hlt⟩
        obtain rfl := HA.out (by omega)
        obtain ⟨hcs, x0, x1, x2, x3, x4, x5⟩ := HC.out k i hi
        have y0 := keep_below hB x0
        have y1 := keep_below hB x1
        have y2 := keep_below hB x2
        have y3 := keep_below hB x3
        have y4 := keep_below hB x4
        have y5 := keep_below hB x5
        have C := one_any i l.length (vs k) wr (hcs.ext (Ext.of_below hB))
        have HI := Lib.hid hi
        clear x0 x1 x2 x3 x4 x5 hcs hi
        cases ho : oneB i l.length with
        | false =>
          rw [ho] at C
          have HO := Lib.hid ho
          have Ch := Lib.hid C
          clear ho C
          go_wp2_with (go_at_call 27; refine Ch.out.mono ?_; rintro e w1 ⟨rfl, hB1⟩)
          go_ret
          exact ⟨by rw [prog_no HI.out HO.out]; simp, bcall hB hB1⟩
        | true =>
          rw [ho] at C
          have HO := Lib.hid ho
          have Ch := Lib.hid C
          clear ho C
          go_wp2_with (go_at_call 27; refine Ch.out.mono ?_; rintro e w1 ⟨rfl, hB1⟩)
          go_roundw
          case rel =>
            refine ⟨k + 1, by omega, by go_num, fun q hq => ?_, bcall hB hB1⟩
            rw [List.take_add_one, HI.out] at hq
            rcases List.mem_append.1 hq with hq | hq
            · exact HN.out q hq
            · simp at hq; rw [hq]; exact HO.out
          case measure => simp [intOf]; omega
      · obtain rfl : k = l.length := by omega
        go_wp2_with fail
        go_ret
        have h1 := HN.out
        rw [List.take_length] at h1
        exact ⟨by rw [prog_yes (by omega) h1]; simp, hB⟩

/-- The document's All. -/
def goB (n : Nat) (i : Ins) : Bool := decide ((n : Int) ≤ startsN i)
def progsB (ls : List (List Ins)) : Bool := decide (1 ≤ ls.length) && decide (ls.length ≤ 16) && ls.all fun p => progB p && !(p.any (goB ls.length))
theorem progs_all (ls : List (List Ins)) : progsB ls = allB ls := by
  unfold progsB allB
  congr 1
  exact congrArg (fun f => ls.all f) (funext fun p => by rw [prog_check]; rfl)
theorem progs_no {ls : List (List Ins)} {k : Nat} {p : List Ins} (hp : ls[k]? = some p) (h : progB p = false) : progsB ls = false := by
  have : (ls.all fun p => progB p && !(p.any (goB ls.length))) = false := by
    rw [List.all_eq_false]
    exact ⟨p, List.mem_of_getElem? hp, by rw [h]; simp⟩
  unfold progsB
  rw [this, Bool.and_false]
theorem progs_no2 {ls : List (List Ins)} {k j : Nat} {p : List Ins} {i : Ins} (hp : ls[k]? = some p) (hi : p[j]? = some i) (h : goB ls.length i = true) : progsB ls = false := by
  have : (ls.all fun p => progB p && !(p.any (goB ls.length))) = false := by
    rw [List.all_eq_false]
    exact ⟨p, List.mem_of_getElem? hp, by rw [List.any_eq_true.2 ⟨i, List.mem_of_getElem? hi, h⟩]; simp⟩
  unfold progsB
  rw [this, Bool.and_false]
theorem progs_yes {ls : List (List Ins)} (h1 : 1 ≤ ls.length) (h2 : ls.length ≤ 16) (h : ∀ p ∈ ls, progB p = true ∧ ∀ i ∈ p, goB ls.length i = false) : progsB ls = true := by
  unfold progsB
  rw [decide_eq_true h1, decide_eq_true h2, List.all_eq_true.2 (fun p hp => by
    obtain ⟨a, b⟩ := h p hp
    rw [a, List.any_eq_false.2 (fun i hi => by rw [b i hi]; simp)]
    rfl)]
  rfl

theorem nx_go {n : Nat} {p : List Ins} {j : Nat} {i : Ins} (h : ∀ q ∈ p.take j, goB n q = false) (hi : p[j]? = some i) (hg : goB n i = false) : ∀ q ∈ p.take (j + 1), goB n q = false := by
  intro y hy
  rw [List.take_add_one, hi] at hy
  rcases List.mem_append.1 hy with hy | hy
  · exact h y hy
  · simp at hy; rw [hy]; exact hg
set_option maxHeartbeats 4000000 in
theorem progs_any (ls : List (List Ins)) (v : Value) (w : World) (h : PRep w ls v) : Calls Tryd.prog 10 #[v] w fun e w' => e = .returned (.bool (progsB ls)) ∧ Below w.heap.size w w' := by
  obtain ⟨a, cap, b, off, vs, rfl, hcap, hmx, ha, hc⟩ := h
  have hml : ls.length ≤ 9223372036854775807 := by unfold maxLen at hmx; omega
  by_cases h1 : ls.length < 1
  · have e : progsB ls = false := by unfold progsB; rw [decide_eq_false (by omega)]; rfl
    rw [e]
    clear e hc ha
    go_enter Tryd.func10, Tryd.ntmps10
    go_wp2_with fail
    go_ret
    exact ⟨rfl, Below.refl _ w⟩
  by_cases h2 : 16 < ls.length
  · have e : progsB ls = false := by unfold progsB; rw [decide_eq_false (p := ls.length ≤ 16) (by omega)]; simp
    rw [e]
    clear e hc ha
    go_enter Tryd.func10, Tryd.ntmps10
    go_wp2_with fail
    go_ret
    exact ⟨rfl, Below.refl _ w⟩
  obtain rfl := ha (by omega)
  have HC := Lib.hid hc
  clear hc
  go_enter Tryd.func10, Tryd.ntmps10
  go_wp2_with fail
  go_loopw [3, 4] (fun vi _ wr => ∃ k : Nat, k ≤ ls.length ∧ vi = .int .i64 k ∧ (∀ p ∈ ls.take k, progB p = true ∧ ∀ i ∈ p, goB ls.length i = false) ∧ Below w.heap.size w wr) (fun vi _ _ => ls.length - (intOf vi).toNat)
  case atStart => exact ⟨0, by omega, rfl, by simp, Below.refl _ w⟩
  case round =>
    obtain ⟨k, hk, rfl, hn, hB⟩ := hrel
    have HN := Lib.hid hn
    clear hn
    by_cases hlt : k < ls.length
    · obtain ⟨p, hp⟩ : ∃ p, ls[k]? = some p := ⟨_, List.getElem?_eq_getElem hlt⟩
      obtain ⟨hL, hcell⟩ := HC.out k p hp
      have hcell' := keep_below hB hcell
      have HP := Lib.hid hp
      have CK := prog_any p (vs k) wr (hL.ext (Ext.of_below hB))
      have HL := Lib.hid hL
      clear hp hcell hL
      cases hck : progB p with
      | false =>
        rw [hck] at CK
        have HK := Lib.hid hck
        have CKh := Lib.hid CK
        clear hck CK
        go_wp2_with (go_at_call 14; refine CKh.out.mono ?_; rintro e w1 ⟨rfl, hB1⟩)
        go_ret
        exact ⟨by rw [progs_no HP.out HK.out]; simp, bcall hB hB1⟩
      | true =>
        rw [hck] at CK
        have HK := Lib.hid hck
        have CKh := Lib.hid CK
        clear hck CK
        obtain ⟨a', cap', b', off', vs', he, hcap', hmx', ha', hc'⟩ := HL.out
        have HV := Lib.hid he
        rw [he] at hcell' CKh
        have HA' := Lib.hid ha'
        have HC' := Lib.hid hc'
        unfold maxLen at hmx'
        clear he ha' hc' HL
        go_wp2_with (go_at_call 14; refine CKh.out.mono ?_; rintro e w1 ⟨rfl, hB1⟩)
        have hb1 := bcall hB hB1
        obtain ⟨wo, rfl⟩ : ∃ wo : World, wo = w1 := ⟨_, rfl⟩
        have hcell2 := keep_below hB1 hcell'
        have HX := Lib.hid hcell2
        clear hcell' hcell2
        go_loopw [4] (fun vj wr => ∃ j : Nat, j ≤ p.length ∧ vj = .int .i64 j ∧ (∀ i ∈ p.take j, goB ls.length i = false) ∧ Below wo.heap.size wo wr) (fun vj _ => p.length - (intOf vj).toNat)
        case atStart => exact ⟨0, by omega, rfl, by simp, Below.refl _ _⟩
        case round =>
          obtain ⟨j, hj, rfl, hm, hBj⟩ := hrel
          have HM := Lib.hid hm
          have hbj := bcall hb1 hBj
          have hx := keep_below hBj HX.out
          clear hm
          by_cases hjl : j < p.length
          · obtain ⟨i, hi⟩ : ∃ i, p[j]? = some i := ⟨_, List.getElem?_eq_getElem hjl⟩
            obtain rfl := HA'.out (by omega)
            obtain ⟨hcs, x0, x1, x2, x3, x4, x5⟩ := HC'.out j i hi
            have y0 := keep_below hbj x0
            have y1 := keep_below hbj x1
            have y2 := keep_below hbj x2
            have y3 := keep_below hbj x3
            have y4 := keep_below hbj x4
            have y5 := keep_below hbj x5
            have HI := Lib.hid hi
            obtain ⟨ca, ccap, hcv⟩ := hcs.form
            rw [hcv] at y4
            clear x0 x1 x2 x3 x4 x5 hcs hi hcv
            obtain ⟨op, ia, ib, ic, ics, idf⟩ := i
            simp only at y0 y1 y2 y3 y4 y5
            have hk0 : k < ls.length := hlt
            by_cases o8 : op = 8
            · subst o8
              by_cases hb : (ls.length : Int) ≤ ib
              · have HG := Lib.hid (progs_no2 HP.out HI.out (show goB ls.length ⟨8, ia, ib, ic, ics, idf⟩ = true from decide_eq_true hb))
                go_wp2_with fail
                go_ret
                exact ⟨by rw [HG.out]; simp, bcall hbj (bnew (Below.refl _ _) _)⟩
              · have HG := Lib.hid (show goB ls.length ⟨8, ia, ib, ic, ics, idf⟩ = false from decide_eq_false hb)
                go_wp2_with fail
                go_roundw
                case rel => exact ⟨j + 1, by omega, by go_num, nx_go HM.out HI.out HG.out, bcall hBj (bnew (Below.refl _ _) _)⟩
                case measure => simp [intOf]; omega
            · have b8 : (op == 8) = false := by simpa using o8
              by_cases o19 : op = 19
              · subst o19
                by_cases hb : (ls.length : Int) ≤ ic
                · have HG := Lib.hid (progs_no2 HP.out HI.out (show goB ls.length ⟨19, ia, ib, ic, ics, idf⟩ = true from decide_eq_true hb))
                  go_wp2_with fail
                  go_ret
                  exact ⟨by rw [HG.out]; simp, bcall hbj (bnew (Below.refl _ _) _)⟩
                · have HG := Lib.hid (show goB ls.length ⟨19, ia, ib, ic, ics, idf⟩ = false from decide_eq_false hb)
                  go_wp2_with fail
                  go_roundw
                  case rel => exact ⟨j + 1, by omega, by go_num, nx_go HM.out HI.out HG.out, bcall hBj (bnew (Below.refl _ _) _)⟩
                  case measure => simp [intOf]; omega
              · have b19 : (op == 19) = false := by simpa using o19
                by_cases o31 : op = 31
                · subst o31
                  by_cases hb : (ls.length : Int) ≤ ic
                  · have HG := Lib.hid (progs_no2 HP.out HI.out (show goB ls.length ⟨31, ia, ib, ic, ics, idf⟩ = true from decide_eq_true hb))
                    go_wp2_with fail
                    go_ret
                    exact ⟨by rw [HG.out]; simp, bcall hbj (bnew (Below.refl _ _) _)⟩
                  · have HG := Lib.hid (show goB ls.length ⟨31, ia, ib, ic, ics, idf⟩ = false from decide_eq_false hb)
                    go_wp2_with fail
                    go_roundw
                    case rel => exact ⟨j + 1, by omega, by go_num, nx_go HM.out HI.out HG.out, bcall hBj (bnew (Below.refl _ _) _)⟩
                    case measure => simp [intOf]; omega
                · have b31 : (op == 31) = false := by simpa using o31
                  have hg0 : goB ls.length ⟨op, ia, ib, ic, ics, idf⟩ = false := by
                    unfold goB startsN
                    simp only
                    rw [if_neg o8, if_neg (by omega)]
                    exact decide_eq_false (by omega)
                  clear o8 o19 o31
                  have HG := Lib.hid hg0
                  clear hg0
                  go_wp2_with fail
                  go_roundw
                  case rel => exact ⟨j + 1, by omega, by go_num, nx_go HM.out HI.out HG.out, bcall hBj (bnew (Below.refl _ _) _)⟩
                  case measure => simp [intOf]; omega
          · obtain rfl : j = p.length := by omega
            go_wp2_with fail
            go_roundw
            case rel =>
              refine ⟨k + 1, by omega, by go_num, fun q hq => ?_, hbj⟩
              rw [List.take_add_one, HP.out] at hq
              rcases List.mem_append.1 hq with hq | hq
              · exact HN.out q hq
              · simp at hq
                subst hq
                have h1 := HM.out
                rw [List.take_length] at h1
                exact ⟨HK.out, h1⟩
            case measure => simp [intOf]; omega
    · obtain rfl : k = ls.length := by omega
      go_wp2_with fail
      go_ret
      have h3 := HN.out
      rw [List.take_length] at h3
      exact ⟨by rw [progs_yes (by omega) (by omega) h3]; simp, hB⟩
end Go.Proofs.YtajblpopbipegaaDoor
