/-
  tarpaulinalike.Progs, Round: THE WALKS.
-/
import Derived.Test.YtajblpopbipegaaDoorMem
namespace Go.Proofs.YtajblpopbipegaaDoor
open Go.RowKit Go.Lib

def smallP (p : List Ins) : Bool := decide (p.length ≤ 60) && p.all fun i => decide (i.cases.length ≤ 20)
def alikeB (ls : List (List Ins)) : Bool := (ls.take 20).all smallP && decide (ls.length ≤ 17)
theorem small_no {p : List Ins} {j : Nat} {i : Ins} (hi : p[j]? = some i) (h : 20 < i.cases.length) : smallP p = false := by
  unfold smallP
  have : (p.all fun i => decide (i.cases.length ≤ 20)) = false := by
    rw [List.all_eq_false]
    exact ⟨i, List.mem_of_getElem? hi, by simp; omega⟩
  rw [this, Bool.and_false]
theorem small_yes {p : List Ins} (h1 : p.length ≤ 60) (h : ∀ i ∈ p, i.cases.length ≤ 20) : smallP p = true := by
  unfold smallP
  rw [decide_eq_true h1, List.all_eq_true.2 (fun i hi => decide_eq_true (h i hi))]
  rfl
theorem alike_no {ls : List (List Ins)} {k : Nat} {p : List Ins} (hk : k < 20) (hp : ls[k]? = some p) (h : smallP p = false) : alikeB ls = false := by
  have : (ls.take 20).all smallP = false := by
    rw [List.all_eq_false]
    exact ⟨p, List.mem_of_getElem? (by rw [List.getElem?_take, if_pos hk]; exact hp), by rw [h]; simp⟩
  unfold alikeB
  rw [this, Bool.false_and]
theorem alike_end {ls : List (List Ins)} {k : Nat} (hk : k = 20 ∨ ls.length ≤ k) (h : ∀ p ∈ ls.take k, smallP p = true) : alikeB ls = decide (ls.length ≤ 17) := by
  unfold alikeB
  rw [List.all_eq_true.2 (fun p hp => h p (by
    rcases hk with rfl | hk
    · exact hp
    · rw [List.take_of_length_le hk]; exact List.mem_of_mem_take hp))]
  rfl

set_option maxHeartbeats 4000000 in
theorem alike_any (ls : List (List Ins)) (v : Value) (w : World) (h : PRep w ls v) : Calls Tryd.prog 7 #[v] w fun e w' => e = .returned (.bool (alikeB ls)) ∧ w = w' := by
  obtain ⟨a, cap, b, off, vs, rfl, hcap, hmx, ha, hc⟩ := h
  have hml : ls.length ≤ 9223372036854775807 := by unfold maxLen at hmx; omega
  have HC := Lib.hid hc
  have HA := Lib.hid ha
  clear hc ha
  go_enter Tryd.func7, Tryd.ntmps7
  go_wp2_with fail
  go_loopw [3, 4] (fun vi _ wr => ∃ k : Nat, k ≤ ls.length ∧ k ≤ 20 ∧ vi = .int .i64 k ∧ (∀ p ∈ ls.take k, smallP p = true) ∧ wr = w) (fun vi _ _ => ls.length - (intOf vi).toNat)
  case atStart => exact ⟨0, by omega, by omega, rfl, by simp, rfl⟩
  case round =>
    obtain ⟨k, hk, hk20, rfl, hn, rfl⟩ := hrel
    have HN := Lib.hid hn
    clear hn
    by_cases hlt : k < ls.length
    · by_cases h20 : k < 20
      · obtain ⟨p, hp⟩ : ∃ p, ls[k]? = some p := ⟨_, List.getElem?_eq_getElem hlt⟩
        obtain rfl := HA.out (by omega)
        obtain ⟨hL, hcell⟩ := HC.out k p hp
        obtain ⟨a', cap', b', off', vs', he, hcap', hmx', ha', hc'⟩ := hL
        rw [he] at hcell
        unfold maxLen at hmx'
        have HP := Lib.hid hp
        have HA' := Lib.hid ha'
        have HC' := Lib.hid hc'
        clear hp ha' hc' he
        have h20' : (k : Int) < 20 := by omega
        by_cases h60 : 60 < p.length
        · have HS := Lib.hid (alike_no h20 HP.out (show smallP p = false by unfold smallP; rw [decide_eq_false (by omega)]; rfl))
          go_wp2_with fail
          go_ret
          exact ⟨by rw [HS.out]; simp, rfl⟩
        · go_wp2_with fail
          go_loopw [4] (fun vj wr' => ∃ j : Nat, j ≤ p.length ∧ vj = .int .i64 j ∧ (∀ i ∈ p.take j, i.cases.length ≤ 20) ∧ wr' = wr) (fun vj _ => p.length - (intOf vj).toNat)
          case atStart => exact ⟨0, by omega, rfl, by simp, rfl⟩
          case round =>
            obtain ⟨j, hj, rfl, hm, rfl⟩ := hrel
            have HM := Lib.hid hm
            clear hm
            by_cases hjl : j < p.length
            · obtain ⟨i, hi⟩ : ∃ i, p[j]? = some i := ⟨_, List.getElem?_eq_getElem hjl⟩
              obtain rfl := HA'.out (by omega)
              obtain ⟨hcs, _, _, _, _, y4, _⟩ := HC'.out j i hi
              obtain ⟨ca, ccap, hcv⟩ := hcs.form
              rw [hcv] at y4
              have HI := Lib.hid hi
              clear hcs hcv hi
              by_cases hcl : 20 < i.cases.length
              · have HS := Lib.hid (alike_no h20 HP.out (small_no HI.out hcl))
                go_wp2_with fail
                go_ret
                exact ⟨by rw [HS.out]; simp, rfl⟩
              · go_wp2_with fail
                go_roundw
                case rel =>
                  refine ⟨j + 1, by omega, by go_num, fun q hq => ?_, by first | rfl | trivial⟩
                  rw [List.take_add_one, HI.out] at hq
                  rcases List.mem_append.1 hq with hq | hq
                  · exact HM.out q hq
                  · simp at hq; rw [hq]; omega
                case measure => simp [intOf]; omega
            · obtain rfl : j = p.length := by omega
              go_wp2_with fail
              go_roundw
              case rel =>
                refine ⟨k + 1, by omega, by omega, by go_num, fun q hq => ?_, by first | rfl | trivial⟩
                rw [List.take_add_one, HP.out] at hq
                rcases List.mem_append.1 hq with hq | hq
                · exact HN.out q hq
                · simp at hq
                  subst hq
                  have h1 := HM.out
                  rw [List.take_length] at h1
                  exact small_yes (by omega) h1
              case measure => simp [intOf]; omega
      · have h20' : ¬ (k : Int) < 20 := by omega
        have HE := Lib.hid (alike_end (k := k) (.inl (by omega)) HN.out)
        have h17 : ¬ ls.length ≤ 17 := by omega
        go_wp2_with fail
        go_ret
        exact ⟨by rw [HE.out]; simp; omega, rfl⟩
    · have HE := Lib.hid (alike_end (k := k) (.inr (by omega)) HN.out)
      go_wp2_with fail
      go_ret
      exact ⟨by rw [HE.out]; simp; omega, rfl⟩

/-- Round. -/
def roundI (k n : Int) : Int := (k.tmod n + n) % n
theorem round_range (k n : Int) (hn : 0 < n) : 0 ≤ roundI k n ∧ roundI k n < n := by
  unfold roundI
  exact ⟨Int.emod_nonneg _ (by omega), Int.emod_lt_of_pos _ hn⟩
theorem round_any (k n : Int) (hn : 1 ≤ n) (hn2 : n ≤ 100000) (w : World) : Calls Tryd.prog 20 #[.int .i64 k, .int .i64 n] w fun e w' => e = .returned (.int .i64 (roundI k n)) ∧ w = w' := by
  have h1 : -n < k.tmod n := Int.neg_lt_of_neg_lt (by have := Int.lt_tmod_of_pos k (show 0 < n by omega); omega)
  have h2 : k.tmod n < n := Int.tmod_lt_of_pos _ (by omega)
  have e : roundI k n = (k.tmod n + n) % n := rfl
  have HE := Lib.hid e
  have z : (n == 0) = false := by simp; omega
  clear e
  go_enter Tryd.func20, Tryd.ntmps20
  go_wp2_with fail
  go_ret
  exact ⟨by rw [HE.out]; simp, rfl⟩
end Go.Proofs.YtajblpopbipegaaDoor
