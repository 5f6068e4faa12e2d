/-
  prog.All: THE WALK.
-/
import Derived.Test.YtajblpopbipegaaDoorCheck
import Derived.Deep.RegionHeld3
import Derived.Outline
namespace Go.Proofs.YtajblpopbipegaaDoor
open Go.RowKit Go.Lib

/-- The closure of All: a program starts that is not there. -/
theorem all1_any (i : Ins) (cv : Value) (B n cap : Nat) (a : Option Addr) (w : World) (hcs : CRep w i.cases cv) (hB : w.cell? ⟨B, 0, none⟩ = some (.slice a n cap)) :
    Calls Tryd.prog 22 #[.agg #[.int .i64 i.op, .int .i64 i.a, .int .i64 i.b, .int .i64 i.c, cv, .bool i.dflt], .pointer (some ⟨B, 0, none⟩)] w fun e w' => e = .returned (.bool (decide ((n : Int) ≤ startsN i))) ∧ Below w.heap.size w w' := by
  have hB' := keep_alloc (o := .cells #[.int .i64 i.op, .int .i64 i.a, .int .i64 i.b, .int .i64 i.c, cv, .bool i.dflt] 36) hB
  have C := Lib.hid (starts_any i cv)
  have hcs' := Lib.hid (hcs.ext (Ext.alloc w (.cells #[.int .i64 i.op, .int .i64 i.a, .int .i64 i.b, .int .i64 i.c, cv, .bool i.dflt] 36)))
  obtain ⟨ca, ccap, rfl⟩ := hcs.form
  clear hcs hB
  generalize startsN i = g at C
  have HB := Lib.hid hB'
  go_enter Tryd.func22, Tryd.ntmps22
  go_wp2_with fail
  go_region_held3 (fun w' => w'.cell? ⟨B, 0, none⟩ = some (.slice a n cap) ∧ w'.cell? ⟨w.heap.size, 0, none⟩ = some (.int .i64 i.op) ∧ w'.cell? ⟨w.heap.size, 1, none⟩ = some (.int .i64 i.a) ∧ w'.cell? ⟨w.heap.size, 2, none⟩ = some (.int .i64 i.b) ∧ w'.cell? ⟨w.heap.size, 3, none⟩ = some (.int .i64 i.c) ∧ w'.cell? ⟨w.heap.size, 4, none⟩ = some (.slice ca i.cases.length ccap) ∧ w'.cell? ⟨w.heap.size, 5, none⟩ = some (.bool i.dflt))
    (first | go_keep | (go_split_ands; refine ⟨?_, ?_, ?_, ?_, ?_, ?_, ?_⟩ <;> exact keep_below hB1 (by assumption)))
    (first | (go_at_call 23; refine (C.out _ (by exact hcs'.out.ext (fun _ _ h => h))).mono ?_; rintro e w1 ⟨rfl, hB1⟩))
  go_wp2_with fail
  go_ret
  exact ⟨rfl, bcall (bnew (Below.refl _ w) _).drew hB1⟩

def okP (n : Nat) (p : List Ins) : Bool := checkB p && !(p.any fun i => decide ((n : Int) ≤ startsN i))
theorem all_eq (ls : List (List Ins)) : allB ls = (decide (1 ≤ ls.length) && decide (ls.length ≤ 16) && ls.all (okP ls.length)) := rfl
theorem all_no {ls : List (List Ins)} {k : Nat} {p : List Ins} (hp : ls[k]? = some p) (h : okP ls.length p = false) : allB ls = false := by
  rw [all_eq]
  have : ls.all (okP ls.length) = false := by
    rw [List.all_eq_false]
    exact ⟨p, List.mem_of_getElem? hp, by rw [h]; simp⟩
  rw [this, Bool.and_false]
theorem all_yes {ls : List (List Ins)} (h1 : 1 ≤ ls.length) (h2 : ls.length ≤ 16) (h : ∀ p ∈ ls, okP ls.length p = true) : allB ls = true := by
  rw [all_eq, decide_eq_true h1, decide_eq_true h2, List.all_eq_true.2 h]
  rfl

set_option maxHeartbeats 2000000 in
/-- prog.All. -/
theorem all_any (ls : List (List Ins)) (v : Value) (w : World) (h : PRep w ls v) : Calls Tryd.prog 9 #[v] w fun e w' => e = .returned (.int .i64 (errN (allB ls))) ∧ Below w.heap.size w w' := by
  obtain ⟨a, cap, b, off, vs, rfl, hcap, hmx, ha, hc⟩ := h
  have hml : ls.length ≤ 9223372036854775807 := by unfold maxLen at hmx; omega
  by_cases h1 : ls.length < 1
  · have e : allB ls = false := by rw [all_eq, decide_eq_false (by omega)]; rfl
    rw [e]
    clear e hc ha
    go_enter Tryd.func9, Tryd.ntmps9
    go_wp2_with fail
    go_ret
    exact ⟨rfl, bnew (Below.refl _ w) _⟩
  by_cases h2 : 16 < ls.length
  · have e : allB ls = false := by rw [all_eq, decide_eq_false (p := ls.length ≤ 16) (by omega)]; simp
    rw [e]
    clear e hc ha
    go_enter Tryd.func9, Tryd.ntmps9
    go_wp2_with fail
    go_ret
    exact ⟨rfl, bnew (Below.refl _ w) _⟩
  obtain rfl := ha (by omega)
  have HC := Lib.hid hc
  clear hc
  go_enter Tryd.func9, Tryd.ntmps9
  go_wp2_with fail
  go_loopw [15] (fun vi wr => ∃ k : Nat, k ≤ ls.length ∧ vi = .int .i64 k ∧ (∀ p ∈ ls.take k, okP ls.length p = true) ∧ Below w.heap.size w wr ∧ wr.cell? ⟨w.heap.size, 0, none⟩ = some (.slice (some ⟨b, off, none⟩) ls.length cap)) (fun vi _ => ls.length - (intOf vi).toNat)
  case atStart => exact ⟨0, by omega, rfl, by simp, bnew (Below.refl _ w) _, by simp⟩
  case round =>
    obtain ⟨k, hk, rfl, hn, hB, hbox⟩ := hrel
    have HN := Lib.hid hn
    have HBx := Lib.hid hbox
    clear hn hbox
    by_cases hlt : k < ls.length
    · obtain ⟨p, hp⟩ : ∃ p, ls[k]? = some p := ⟨_, List.getElem?_eq_getElem hlt⟩
      obtain ⟨hL, hcell⟩ := HC.out k p hp
      have hL' := hL.ext (Ext.of_below hB)
      have hcell' := keep_below hB hcell
      have HP := Lib.hid hp
      have CK := Lib.hid (check_any p (vs k) wr hL')
      clear hL hcell hp
      cases hck : checkB p with
      | false =>
        rw [hck, errN_false] at CK
        have HK := Lib.hid hck
        clear hck
        go_wp2_with fail
        refine CK.out.mono ?_
        rintro e w1 ⟨rfl, hB1⟩
        go_wp2_with fail
        go_ret
        refine ⟨?_, bcall hB hB1⟩
        rw [all_no HP.out (by unfold okP; rw [HK.out]; rfl)]
        rfl
      | true =>
        rw [hck, errN_true] at CK
        have HK := Lib.hid hck
        clear hck
        go_wp2_with fail
        refine CK.out.mono ?_
        rintro e w1 ⟨rfl, hB1⟩
        have hb1 := bcall hB hB1
        have hbox1 := keep_below hB1 HBx.out
        have C := Lib.hid (has_ins p (vs k) (fun i => decide ((ls.length : Int) ≤ startsN i)) 22 #[.pointer (some ⟨w.heap.size, 0, none⟩)] eg22 w1 (hL'.ext (Ext.of_below hB1)) (fun W i cv hW hcv => all1_any i cv w.heap.size ls.length cap _ W hcv (keep_below hW hbox1)))
        cases hany : (p.any fun i => decide ((ls.length : Int) ≤ startsN i)) with
        | true =>
          rw [hany] at C
          have HA := Lib.hid hany
          clear hany
          go_wp2_with (go_at_call 21; refine C.out.mono ?_; rintro e w2 ⟨rfl, hB2⟩)
          go_ret
          refine ⟨?_, bcall hb1 hB2⟩
          rw [all_no HP.out (by unfold okP; rw [HA.out]; simp)]
          rfl
        | false =>
          rw [hany] at C
          have HA := Lib.hid hany
          clear hany
          go_wp2_with (go_at_call 21; refine C.out.mono ?_; rintro e w2 ⟨rfl, hB2⟩)
          go_roundw
          case rel =>
            refine ⟨k + 1, by omega, by go_num, fun q hq => ?_, bcall hb1 hB2, keep_below hB2 hbox1⟩
            rw [List.take_add_one, HP.out] at hq
            rcases List.mem_append.1 hq with hq | hq
            · exact HN.out q hq
            · simp at hq
              subst hq
              unfold okP
              rw [HK.out, HA.out]
              rfl
          case measure => simp [intOf]; omega
    · obtain rfl : k = ls.length := by omega
      go_wp2_with fail
      go_ret
      refine ⟨?_, hB⟩
      have := HN.out
      rw [List.take_length] at this
      rw [all_yes (by omega) (by omega) this]
      rfl
end Go.Proofs.YtajblpopbipegaaDoor
